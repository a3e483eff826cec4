/-
  THE ABSTRACT INTERPRETER: what it is run with over this program.
  FACTS ON THE TYPES OF THIS PROGRAM, each by the kernel (printed by a program).
  WHAT THE FUNCTIONS COMPUTE: the smallest; the builder of texts.
  WHAT THE FUNCTIONS COMPUTE: loops; texts of words.
  WHAT THE FUNCTIONS COMPUTE: a token's text; numbers of an nth; simple selectors.
-/
import Derived.Test.YtmcjabhnmealgaaDoorQF
import Derived.Test.YtmcjabhnmealgaaDoorQG
import Derived.KernelRfl
import Derived.Test.YtmcjabhnmealgaaDoorQS
set_option linter.unusedSimpArgs false
set_option linter.unusedVariables false
namespace Go.Abs
open Go Go.Proofs

def keepL : List (Nat × Nat × List Nat × List Nat) := [
  (10, 3, [1, 3, 7, 8, 9], [1, 3]),
  (6, 3, [3, 6, 7, 8], []),
  (7, 4, [0, 1, 5], []),
  (7, 9, [0, 1, 5, 6], []),
  (21, 3, [0, 3, 4], []),
  (17, 1, [0, 8, 9, 10], [100000]),
  (19, 1, [0, 6, 7, 8], [100000]),
  (13, 12, [0, 1, 5, 39, 40, 41], []),
  (13, 22, [1, 8, 63, 64, 65], [8]),
  (12, 4, [4, 5, 6], []),
  (14, 4, [0, 1, 5], []),
  (31, 5, [0, 4, 6], [4]),
  (22, 2, [0, 3, 4], []),
  (22, 4, [0, 3, 4], []),
  (23, 4, [0, 1, 5, 6, 7], []),
  (24, 4, [2, 4, 5, 6], [2, 5, 10]),
  (24, 6, [2, 4, 5, 7], [2, 5, 7, 10]),
  (46, 2, [0, 5], []),
  (48, 2, [0, 1, 5], []),
  (49, 1, [0, 1], []),
  (51, 4, [0, 1, 4, 6, 7], [4]),
  (30, 2, [0, 2, 3, 8, 9], [8, 9]),
  (53, 3, [3, 4], []),
  (57, 3, [0, 2, 4, 5], [2, 9]),
  (58, 2, [0, 3], [100000]),
  (66, 15, [0, 1, 5, 6, 7, 8, 9, 10], []),
  (69, 1, [0, 1, 4], []),
  (70, 11, [0, 1, 3, 4, 10, 11, 12, 13, 14, 15, 16], [12]),
  (70, 18, [0, 1, 3, 4, 10, 11, 12, 13, 17], [12]),
  (76, 5, [0, 1, 5, 6, 7, 8, 9], []),
  (76, 11, [0, 1, 5, 6, 7, 8, 10], []),
  (84, 3, [0, 4, 5], []),
  (84, 8, [4, 6, 7, 8], []),
  (82, 5, [0, 3, 4], []),
  (1000000, 0, [], [])]

def keepF (f r : Nat) : List Nat × List Nat := match keepL.find? (fun x => x.1 == f && x.2.1 == r) with | some x => x.2.2 | none => ([], [])

def prL : List (Nat × Prim) := [
  (41, pContains),
  (61, pIndex),
  (29, pItoa),
  (13, pJoin),
  (39, pCopyCheck),
  (16, pString),
  (53, pLow),
  (1000000, fun _ _ => none)]

def prF (f : Nat) : Option Prim := (prL.find? (fun x => x.1 == f)).map (·.2)

/-- regions 'x.f = append(x.f, y[i])' whose order is drawn -/
def hookB (f i : Nat) : Bool := f == 57 && i == 6

def ownB (f : Nat) : Bool := f == 1000000

def goodB (P : Program) (f : Nat) : Bool :=
  match P.funcs[f]? with
  | some fn => fn.name != "runtime.NumGoroutine" && (match fn.body with | some c => codeOK (hookB f) c | none => false)
  | none => false

/-- which functions may be met -/
def goods : List Nat := [3, 4, 5, 6, 7, 8, 9, 10, 11, 12, 13, 14, 15, 16, 17, 18, 19, 20, 21, 22, 23, 24, 25, 26, 27, 28, 29, 30, 31, 32, 33, 34, 35, 36, 37, 38, 39, 40, 41, 42, 43, 44, 45, 46, 47, 48, 49, 50, 51, 52, 53, 54, 55, 56, 57, 58, 61, 62, 63, 64, 65, 66, 67, 68, 69, 70, 71, 72, 73, 75, 76, 77, 78, 79, 80, 81, 82, 84, 85, 86]

theorem goods_ok : goods.all (goodB Tryd.prog) = true := by kernel_rfl

noncomputable def K : Cfg := { P := Tryd.prog, pr := prF, keep := keepF, ownRet := ownB, good := goods.contains, hook := hookB }

theorem K_prog : Prog K := by
  refine ⟨by kernel_rfl, fun g hg => ?_, fun f F args bxs x _ hF hx => ?_⟩
  · have h1 : g ∈ goods := by simpa [K] using hg
    have h2 := List.all_eq_true.1 goods_ok g h1
    unfold goodB at h2
    split at h2
    · rename_i fn hfn
      simp only [Bool.and_eq_true] at h2
      obtain ⟨h3, h4⟩ := h2
      split at h4
      · rename_i c hc
        exact ⟨fn, c, hfn, by simpa using h3, hc, h4⟩
      · cases h4
    · cases h2
  · have h1 : ∀ y ∈ prL, ∀ args bxs x, y.2 args bxs = some x → Contract Tryd.prog y.1 args bxs (.ret x.1 x.2) := by
      intro y hy
      simp only [prL, List.mem_cons, List.not_mem_nil, or_false] at hy
      repeat' (first | (rcases hy with rfl | hy) | (cases hy))
      all_goals first
        | exact fun _ _ _ h => pContains_ok h
        | exact fun _ _ _ h => pHasPrefix_ok h
        | exact fun _ _ _ h => pIndexByte_ok h
        | exact fun _ _ _ h => pIndex_ok h
        | exact fun _ _ _ h => pIndexAny_ok h
        | exact fun _ _ _ h => pItoa_ok h
        | exact fun _ _ _ h => pJoin_ok h
        | exact fun _ _ _ h => pCopyCheck_ok h
        | exact fun _ _ _ h => pString_ok h
        | exact fun _ _ _ h => pLow_ok h
        | exact fun _ _ _ h => pPairs_ok h
        | exact fun _ _ _ h => pOpens_ok h
        | exact fun _ _ _ h => pParse_ok h
        | exact fun _ _ _ h => by cases h
    have h2 : prF f = some F := hF
    unfold prF at h2
    rw [Option.map_eq_some_iff] at h2
    obtain ⟨y, hy, rfl⟩ := h2
    have h3 := List.mem_of_find?_eq_some hy
    have h4 : y.1 = f := by simpa using List.find?_some hy
    rw [← h4]
    exact h1 y h3 args bxs x hx

end Go.Abs

namespace Go.Abs
open Go Go.Proofs
theorem ty_shapeT_3 : shapeT Tryd.prog 3 = Option.some Option.none := by kernel_rfl
theorem ty_szOf_3 : szOf Tryd.prog 3 = Option.some 1 := by kernel_rfl
theorem ty_descOf_3 : descOf Tryd.prog 3 = Option.some (Go.Abs.Desc.int Go.IntKind.i64) := by kernel_rfl
theorem ty_concreteT_3 : concreteT Tryd.prog 3 = Bool.true := by kernel_rfl
theorem ty_tvZero_3 : tvZero Tryd.prog 3 = Option.some (Go.Abs.TV.c (Go.Abs.CV.pv (Go.Abs.PV.int Go.IntKind.i64 0))) := by kernel_rfl
theorem ty_shapeT_4 : shapeT Tryd.prog 4 = Option.some Option.none := by kernel_rfl
theorem ty_szOf_4 : szOf Tryd.prog 4 = Option.some 1 := by kernel_rfl
theorem ty_descOf_5 : descOf Tryd.prog 5 = Option.some (Go.Abs.Desc.int Go.IntKind.u8) := by kernel_rfl
theorem ty_isU8_5 : isU8 Tryd.prog 5 = Bool.true := by kernel_rfl
theorem ty_shapeT_9 : shapeT Tryd.prog 9 = Option.some Option.none := by kernel_rfl
theorem ty_szOf_9 : szOf Tryd.prog 9 = Option.some 1 := by kernel_rfl
theorem ty_zeroCells_9 : zeroCells Tryd.prog 9 = Option.some [Go.Abs.CV.pv (Go.Abs.PV.str [])] := by kernel_rfl
theorem ty_descOf_9 : descOf Tryd.prog 9 = Option.some Go.Abs.Desc.str := by kernel_rfl
theorem ty_concreteT_9 : concreteT Tryd.prog 9 = Bool.true := by kernel_rfl
theorem ty_tvZero_9 : tvZero Tryd.prog 9 = Option.some (Go.Abs.TV.c (Go.Abs.CV.pv (Go.Abs.PV.str []))) := by kernel_rfl
theorem ty_shapeT_20 : shapeT Tryd.prog 20 = Option.some Option.none := by kernel_rfl
theorem ty_szOf_20 : szOf Tryd.prog 20 = Option.some 1 := by kernel_rfl
theorem ty_zeroCells_20 : zeroCells Tryd.prog 20 = Option.some [Go.Abs.CV.pv Go.Abs.PV.nilifc] := by kernel_rfl
theorem ty_appInfo_23 : appInfo Tryd.prog 23 = Option.some (38, 2) := by kernel_rfl
theorem ty_descOf_23 : descOf Tryd.prog 23 = Option.some (Go.Abs.Desc.sl 38 Bool.false) := by kernel_rfl
theorem ty_shapeT_30 : shapeT Tryd.prog 30 = Option.some Option.none := by kernel_rfl
theorem ty_szOf_30 : szOf Tryd.prog 30 = Option.some 1 := by kernel_rfl
theorem ty_appInfo_30 : appInfo Tryd.prog 30 = Option.some (32, 6) := by kernel_rfl
theorem ty_descOf_30 : descOf Tryd.prog 30 = Option.some (Go.Abs.Desc.sl 32 Bool.false) := by kernel_rfl
theorem ty_shapeT_32 : shapeT Tryd.prog 32 = Option.some (Option.some 6) := by kernel_rfl
theorem ty_szOf_32 : szOf Tryd.prog 32 = Option.some 6 := by kernel_rfl
theorem ty_zeroCells_32 : zeroCells Tryd.prog 32 = Option.some [Go.Abs.CV.pv (Go.Abs.PV.int Go.IntKind.i64 0), Go.Abs.CV.pv (Go.Abs.PV.str []), Go.Abs.CV.pv (Go.Abs.PV.str []), Go.Abs.CV.pv (Go.Abs.PV.int Go.IntKind.i64 0), Go.Abs.CV.pv (Go.Abs.PV.int Go.IntKind.i64 0), Go.Abs.CV.nils] := by kernel_rfl
theorem ty_placesOf_32 : placesOf Tryd.prog 32 = Option.some [(0, 1), (1, 1), (2, 1), (3, 1), (4, 1), (5, 1)] := by kernel_rfl
theorem ty_fieldOff_32_0 : fieldOff Tryd.prog 32 0 = Option.some (0, 3) := by kernel_rfl
theorem ty_fieldOff_32_1 : fieldOff Tryd.prog 32 1 = Option.some (1, 9) := by kernel_rfl
theorem ty_fieldOff_32_2 : fieldOff Tryd.prog 32 2 = Option.some (2, 9) := by kernel_rfl
theorem ty_fieldOff_32_3 : fieldOff Tryd.prog 32 3 = Option.some (3, 3) := by kernel_rfl
theorem ty_fieldOff_32_4 : fieldOff Tryd.prog 32 4 = Option.some (4, 3) := by kernel_rfl
theorem ty_fieldOff_32_5 : fieldOff Tryd.prog 32 5 = Option.some (5, 30) := by kernel_rfl
theorem ty_shapeT_36 : shapeT Tryd.prog 36 = Option.some Option.none := by kernel_rfl
theorem ty_szOf_36 : szOf Tryd.prog 36 = Option.some 1 := by kernel_rfl
theorem ty_appInfo_36 : appInfo Tryd.prog 36 = Option.some (46, 2) := by kernel_rfl
theorem ty_descOf_36 : descOf Tryd.prog 36 = Option.some (Go.Abs.Desc.sl 46 Bool.false) := by kernel_rfl
theorem ty_shapeT_38 : shapeT Tryd.prog 38 = Option.some (Option.some 2) := by kernel_rfl
theorem ty_szOf_38 : szOf Tryd.prog 38 = Option.some 2 := by kernel_rfl
theorem ty_zeroCells_38 : zeroCells Tryd.prog 38 = Option.some [Go.Abs.CV.nils, Go.Abs.CV.pv (Go.Abs.PV.str [])] := by kernel_rfl
theorem ty_placesOf_38 : placesOf Tryd.prog 38 = Option.some [(0, 1), (1, 1)] := by kernel_rfl
theorem ty_fieldOff_38_0 : fieldOff Tryd.prog 38 0 = Option.some (0, 36) := by kernel_rfl
theorem ty_fieldOff_38_1 : fieldOff Tryd.prog 38 1 = Option.some (1, 9) := by kernel_rfl
theorem ty_shapeT_39 : shapeT Tryd.prog 39 = Option.some Option.none := by kernel_rfl
theorem ty_szOf_39 : szOf Tryd.prog 39 = Option.some 1 := by kernel_rfl
theorem ty_zeroCells_39 : zeroCells Tryd.prog 39 = Option.some [Go.Abs.CV.nils] := by kernel_rfl
theorem ty_appInfo_39 : appInfo Tryd.prog 39 = Option.some (88, 5) := by kernel_rfl
theorem ty_descOf_39 : descOf Tryd.prog 39 = Option.some (Go.Abs.Desc.sl 88 Bool.false) := by kernel_rfl
theorem ty_appInfo_43 : appInfo Tryd.prog 43 = Option.some (9, 1) := by kernel_rfl
theorem ty_descOf_43 : descOf Tryd.prog 43 = Option.some (Go.Abs.Desc.sl 9 Bool.false) := by kernel_rfl
theorem ty_shapeT_46 : shapeT Tryd.prog 46 = Option.some (Option.some 2) := by kernel_rfl
theorem ty_szOf_46 : szOf Tryd.prog 46 = Option.some 2 := by kernel_rfl
theorem ty_zeroCells_46 : zeroCells Tryd.prog 46 = Option.some [Go.Abs.CV.pv (Go.Abs.PV.int Go.IntKind.i64 0), Go.Abs.CV.nils] := by kernel_rfl
theorem ty_placesOf_46 : placesOf Tryd.prog 46 = Option.some [(0, 1), (1, 1)] := by kernel_rfl
theorem ty_fieldOff_46_0 : fieldOff Tryd.prog 46 0 = Option.some (0, 3) := by kernel_rfl
theorem ty_fieldOff_46_1 : fieldOff Tryd.prog 46 1 = Option.some (1, 30) := by kernel_rfl
theorem ty_shapeT_49 : shapeT Tryd.prog 49 = Option.some Option.none := by kernel_rfl
theorem ty_szOf_49 : szOf Tryd.prog 49 = Option.some 1 := by kernel_rfl
theorem ty_appInfo_49 : appInfo Tryd.prog 49 = Option.some (5, 1) := by kernel_rfl
theorem ty_szOf_51 : szOf Tryd.prog 51 = Option.some 2 := by kernel_rfl
theorem ty_fieldOff_51_1 : fieldOff Tryd.prog 51 1 = Option.some (1, 49) := by kernel_rfl
theorem ty_zeroCells_53 : zeroCells Tryd.prog 53 = Option.some [Go.Abs.CV.nilp, Go.Abs.CV.nils] := by kernel_rfl
theorem ty_fieldOff_53_0 : fieldOff Tryd.prog 53 0 = Option.some (0, 51) := by kernel_rfl
theorem ty_appInfo_60 : appInfo Tryd.prog 60 = Option.some (83, 3) := by kernel_rfl
theorem ty_descOf_60 : descOf Tryd.prog 60 = Option.some (Go.Abs.Desc.sl 83 Bool.false) := by kernel_rfl
theorem ty_appInfo_63 : appInfo Tryd.prog 63 = Option.some (39, 1) := by kernel_rfl
theorem ty_descOf_63 : descOf Tryd.prog 63 = Option.some (Go.Abs.Desc.sl 39 Bool.false) := by kernel_rfl
theorem ty_shapeT_73 : shapeT Tryd.prog 73 = Option.some (Option.some 5) := by kernel_rfl
theorem ty_szOf_73 : szOf Tryd.prog 73 = Option.some 5 := by kernel_rfl
theorem ty_zeroCells_73 : zeroCells Tryd.prog 73 = Option.some [Go.Abs.CV.pv (Go.Abs.PV.int Go.IntKind.i64 0), Go.Abs.CV.pv (Go.Abs.PV.str []), Go.Abs.CV.pv (Go.Abs.PV.str []), Go.Abs.CV.pv (Go.Abs.PV.int Go.IntKind.i64 0), Go.Abs.CV.pv (Go.Abs.PV.int Go.IntKind.i64 0)] := by kernel_rfl
theorem ty_placesOf_73 : placesOf Tryd.prog 73 = Option.some [(0, 1), (1, 1), (2, 1), (3, 1), (4, 1)] := by kernel_rfl
theorem ty_descOf_78 : descOf Tryd.prog 78 = Option.some (Go.Abs.Desc.sl 20 Bool.false) := by kernel_rfl
theorem ty_shapeT_80 : shapeT Tryd.prog 80 = Option.some (Option.some 3) := by kernel_rfl
theorem ty_szOf_80 : szOf Tryd.prog 80 = Option.some 3 := by kernel_rfl
theorem ty_zeroCells_80 : zeroCells Tryd.prog 80 = Option.some [Go.Abs.CV.nils, Go.Abs.CV.pv (Go.Abs.PV.int Go.IntKind.i64 0), Go.Abs.CV.pv (Go.Abs.PV.bool Bool.false)] := by kernel_rfl
theorem ty_placesOf_80 : placesOf Tryd.prog 80 = Option.some [(0, 1), (1, 1), (2, 1)] := by kernel_rfl
theorem ty_fieldOff_80_0 : fieldOff Tryd.prog 80 0 = Option.some (0, 39) := by kernel_rfl
theorem ty_fieldOff_80_1 : fieldOff Tryd.prog 80 1 = Option.some (1, 3) := by kernel_rfl
theorem ty_fieldOff_80_2 : fieldOff Tryd.prog 80 2 = Option.some (2, 4) := by kernel_rfl
theorem ty_shapeT_83 : shapeT Tryd.prog 83 = Option.some (Option.some 3) := by kernel_rfl
theorem ty_szOf_83 : szOf Tryd.prog 83 = Option.some 3 := by kernel_rfl
theorem ty_zeroCells_83 : zeroCells Tryd.prog 83 = Option.some [Go.Abs.CV.pv (Go.Abs.PV.int Go.IntKind.i64 0), Go.Abs.CV.pv (Go.Abs.PV.str []), Go.Abs.CV.pv (Go.Abs.PV.int Go.IntKind.i64 0)] := by kernel_rfl
theorem ty_placesOf_83 : placesOf Tryd.prog 83 = Option.some [(0, 1), (1, 1), (2, 1)] := by kernel_rfl
theorem ty_fieldOff_83_0 : fieldOff Tryd.prog 83 0 = Option.some (0, 3) := by kernel_rfl
theorem ty_fieldOff_83_1 : fieldOff Tryd.prog 83 1 = Option.some (1, 9) := by kernel_rfl
theorem ty_fieldOff_83_2 : fieldOff Tryd.prog 83 2 = Option.some (2, 3) := by kernel_rfl
theorem ty_shapeT_88 : shapeT Tryd.prog 88 = Option.some (Option.some 5) := by kernel_rfl
theorem ty_szOf_88 : szOf Tryd.prog 88 = Option.some 5 := by kernel_rfl
theorem ty_zeroCells_88 : zeroCells Tryd.prog 88 = Option.some [Go.Abs.CV.pv (Go.Abs.PV.int Go.IntKind.i64 0), Go.Abs.CV.pv (Go.Abs.PV.int Go.IntKind.i64 0), Go.Abs.CV.pv (Go.Abs.PV.str []), Go.Abs.CV.pv (Go.Abs.PV.int Go.IntKind.i64 0), Go.Abs.CV.nils] := by kernel_rfl
theorem ty_placesOf_88 : placesOf Tryd.prog 88 = Option.some [(0, 1), (1, 3), (4, 1)] := by kernel_rfl
theorem ty_fieldOff_88_0 : fieldOff Tryd.prog 88 0 = Option.some (0, 3) := by kernel_rfl
theorem ty_fieldOff_88_1 : fieldOff Tryd.prog 88 1 = Option.some (1, 83) := by kernel_rfl
theorem ty_fieldOff_88_2 : fieldOff Tryd.prog 88 2 = Option.some (4, 39) := by kernel_rfl
theorem ty_zeroCells_92 : zeroCells Tryd.prog 92 = Option.some [Go.Abs.CV.nils, Go.Abs.CV.pv (Go.Abs.PV.int Go.IntKind.i64 0), Go.Abs.CV.pv (Go.Abs.PV.bool Bool.false)] := by kernel_rfl
theorem ty_placesOf_92 : placesOf Tryd.prog 92 = Option.some [(0, 1), (1, 1), (2, 1)] := by kernel_rfl
theorem ty_fieldOff_92_0 : fieldOff Tryd.prog 92 0 = Option.some (0, 39) := by kernel_rfl
theorem ty_fieldOff_92_1 : fieldOff Tryd.prog 92 1 = Option.some (1, 3) := by kernel_rfl
theorem ty_fieldOff_92_2 : fieldOff Tryd.prog 92 2 = Option.some (2, 4) := by kernel_rfl
theorem ty_shapeT_120 : shapeT Tryd.prog 120 = Option.some (Option.some 2) := by kernel_rfl
theorem ty_szOf_120 : szOf Tryd.prog 120 = Option.some 2 := by kernel_rfl
theorem ty_zeroCells_120 : zeroCells Tryd.prog 120 = Option.some [Go.Abs.CV.pv (Go.Abs.PV.int Go.IntKind.i64 0), Go.Abs.CV.pv (Go.Abs.PV.int Go.IntKind.i64 0)] := by kernel_rfl
theorem ty_arrOf_120 : arrOf Tryd.prog 120 = Option.some (2, 1) := by kernel_rfl
theorem good_4 : K.good 4 = true := by kernel_rfl
theorem good_5 : K.good 5 = true := by kernel_rfl
theorem good_6 : K.good 6 = true := by kernel_rfl
theorem good_7 : K.good 7 = true := by kernel_rfl
theorem good_9 : K.good 9 = true := by kernel_rfl
theorem good_10 : K.good 10 = true := by kernel_rfl
theorem good_11 : K.good 11 = true := by kernel_rfl
theorem good_12 : K.good 12 = true := by kernel_rfl
theorem good_13 : K.good 13 = true := by kernel_rfl
theorem good_14 : K.good 14 = true := by kernel_rfl
theorem good_15 : K.good 15 = true := by kernel_rfl
theorem good_16 : K.good 16 = true := by kernel_rfl
theorem good_17 : K.good 17 = true := by kernel_rfl
theorem good_18 : K.good 18 = true := by kernel_rfl
theorem good_19 : K.good 19 = true := by kernel_rfl
theorem good_20 : K.good 20 = true := by kernel_rfl
theorem good_21 : K.good 21 = true := by kernel_rfl
theorem good_22 : K.good 22 = true := by kernel_rfl
theorem good_23 : K.good 23 = true := by kernel_rfl
theorem good_24 : K.good 24 = true := by kernel_rfl
theorem good_26 : K.good 26 = true := by kernel_rfl
theorem good_27 : K.good 27 = true := by kernel_rfl
theorem good_28 : K.good 28 = true := by kernel_rfl
theorem good_29 : K.good 29 = true := by kernel_rfl
theorem good_30 : K.good 30 = true := by kernel_rfl
theorem good_31 : K.good 31 = true := by kernel_rfl
theorem good_32 : K.good 32 = true := by kernel_rfl
theorem good_33 : K.good 33 = true := by kernel_rfl
theorem good_34 : K.good 34 = true := by kernel_rfl
theorem good_35 : K.good 35 = true := by kernel_rfl
theorem good_36 : K.good 36 = true := by kernel_rfl
theorem good_37 : K.good 37 = true := by kernel_rfl
theorem good_38 : K.good 38 = true := by kernel_rfl
theorem good_39 : K.good 39 = true := by kernel_rfl
theorem good_41 : K.good 41 = true := by kernel_rfl
theorem good_42 : K.good 42 = true := by kernel_rfl
theorem good_44 : K.good 44 = true := by kernel_rfl
theorem good_45 : K.good 45 = true := by kernel_rfl
theorem good_46 : K.good 46 = true := by kernel_rfl
theorem good_47 : K.good 47 = true := by kernel_rfl
theorem good_48 : K.good 48 = true := by kernel_rfl
theorem good_49 : K.good 49 = true := by kernel_rfl
theorem good_50 : K.good 50 = true := by kernel_rfl
theorem good_51 : K.good 51 = true := by kernel_rfl
theorem good_52 : K.good 52 = true := by kernel_rfl
theorem good_53 : K.good 53 = true := by kernel_rfl
theorem good_54 : K.good 54 = true := by kernel_rfl
theorem good_55 : K.good 55 = true := by kernel_rfl
theorem good_56 : K.good 56 = true := by kernel_rfl
theorem good_57 : K.good 57 = true := by kernel_rfl
theorem good_58 : K.good 58 = true := by kernel_rfl
theorem good_63 : K.good 63 = true := by kernel_rfl
theorem good_64 : K.good 64 = true := by kernel_rfl
theorem good_65 : K.good 65 = true := by kernel_rfl
theorem good_71 : K.good 71 = true := by kernel_rfl
theorem good_72 : K.good 72 = true := by kernel_rfl
theorem good_82 : K.good 82 = true := by kernel_rfl
theorem keep_10_3 : keepF 10 3 = ([1, 3, 7, 8, 9], [1, 3]) := by kernel_rfl
theorem keep_6_3 : keepF 6 3 = ([3, 6, 7, 8], []) := by kernel_rfl
theorem keep_7_4 : keepF 7 4 = ([0, 1, 5], []) := by kernel_rfl
theorem keep_7_9 : keepF 7 9 = ([0, 1, 5, 6], []) := by kernel_rfl
theorem keep_21_3 : keepF 21 3 = ([0, 3, 4], []) := by kernel_rfl
theorem keep_17_1 : keepF 17 1 = ([0, 8, 9, 10], [100000]) := by kernel_rfl
theorem keep_19_1 : keepF 19 1 = ([0, 6, 7, 8], [100000]) := by kernel_rfl
theorem keep_12_4 : keepF 12 4 = ([4, 5, 6], []) := by kernel_rfl
theorem keep_14_4 : keepF 14 4 = ([0, 1, 5], []) := by kernel_rfl
theorem keep_31_5 : keepF 31 5 = ([0, 4, 6], [4]) := by kernel_rfl
theorem keep_22_2 : keepF 22 2 = ([0, 3, 4], []) := by kernel_rfl
theorem keep_22_4 : keepF 22 4 = ([0, 3, 4], []) := by kernel_rfl
theorem keep_23_4 : keepF 23 4 = ([0, 1, 5, 6, 7], []) := by kernel_rfl
theorem keep_24_4 : keepF 24 4 = ([2, 4, 5, 6], [2, 5, 10]) := by kernel_rfl
theorem keep_24_6 : keepF 24 6 = ([2, 4, 5, 7], [2, 5, 7, 10]) := by kernel_rfl
theorem keep_46_2 : keepF 46 2 = ([0, 5], []) := by kernel_rfl
theorem keep_48_2 : keepF 48 2 = ([0, 1, 5], []) := by kernel_rfl
theorem keep_49_1 : keepF 49 1 = ([0, 1], []) := by kernel_rfl
theorem keep_51_4 : keepF 51 4 = ([0, 1, 4, 6, 7], [4]) := by kernel_rfl
theorem keep_30_2 : keepF 30 2 = ([0, 2, 3, 8, 9], [8, 9]) := by kernel_rfl
theorem keep_57_3 : keepF 57 3 = ([0, 2, 4, 5], [2, 9]) := by kernel_rfl
theorem keep_58_2 : keepF 58 2 = ([0, 3], [100000]) := by kernel_rfl
theorem keep_82_5 : keepF 82 5 = ([0, 3, 4], []) := by kernel_rfl
end Go.Abs

namespace Go.Abs
open Go Go.Proofs

abbrev I (n : Int) : AV := .c (.pv (.int .i64 n))
abbrev T (l : List UInt8) : AV := .c (.pv (.str l))
abbrev B (b : Bool) : AV := .c (.pv (.bool b))
abbrev L (l : List (List PV)) : AV := .c (.pv (.sl l))
/-- the box that a caller lends first -/
abbrev P0 : AV := .c (.loc 100000 0)

theorem den_run {f : FuncId} {fn : Func} {x : Code} {nt : Nat} {args : List AV} {bxs : List (List CV)} {r : Res} (hp : prF f = none) (hf : Tryd.prog.funcs[f]? = some fn) (hx : fn.body = some x) (hn : fn.ntmps = nt)
    (hl : args.length ≤ nt ∧ nt < LK) (h : (exL K f x (enterSt nt args bxs)).bind (fun r => leave K f fn bxs.length (some r)) = some r) : den K f args bxs = some r := by
  rw [den_eq (K := K) hp hf hx, hn, if_pos hl]
  exact h

theorem K_own (f : FuncId) (h : (f == 1000000) = false) : K.ownRet f = false := h
theorem K_hook (f i : Nat) : K.hook f i = hookB f i := rfl
theorem K_P : K.P = Tryd.prog := rfl
theorem K_keep (f r : Nat) : K.keep f r = keepF f r := rfl

/-- a run of one primitive -/
theorem prim_run {f : FuncId} {F : Prim} {args : List AV} {bxs cs : List (List CV)} {v : AV} (h : prF f = some F) (hF : F args bxs = some (v, cs)) : den K f args bxs = some (.ret v cs) := by
  rw [den_prim (K := K) h, hF]; rfl

set_option maxRecDepth 10000

theorem comb_den (n : Int) : den K 18 [I n] [] = some (.ret (T (combS n)) []) := by
  refine den_run rfl Tryd.func18 rfl Tryd.ntmps18 ⟨by simp, by simp [LK]⟩ ?_
  have hr : Tryd.f18.results = #[.tmp 2] := rfl
  simp only [exL_seq, exL_region, exL_cond, exL_block, exL_scope, exL_ret, exL_skip, exL_exit, runRegion, runOps, stepOp, guardA, absOp, takeOver, opd, avOf, cvOf, St.degAt, St.put, okPV, okVal, okAV, absBin, intBin, strBin, boolBin, setBoxes, if_true, Bool.false_eq_true, if_false, Option.map_some, Option.map_none, Option.bind_some, Option.bind_none, thenO, outOf, upd, List.toList_toArray, isOwn, steal, appArgs, inApps, AV.deg, CV.deg, AV.gv, AV.isIter, absNext, some_bne, Nat.reduceLT, reduceIte, reduceCtorEq, Nat.reduceEqDiff, List.length_nil, List.length_cons, apply_ite (Option.map (outOf _)), List.filterMap_cons, List.filterMap_nil, beq_iff_eq, List.getElem?_cons_zero, List.getElem?_cons_succ, Option.getD_some, K_hook, hookB, Nat.reduceBEq, Bool.false_and, Bool.and_false, Bool.and_self, K_P, K_own, absCall, doCall, getBoxes, lend, back, idx, dedup, AV.ren, CV.ren, TV.ren, AV.ptrs, CV.ptrs, zipBox, AV.flat, CV.flat, absLoad, absStore, cellsOfAV, setAt, newBox, markB, bldTypes, absFieldAddr, absField, absExtract, absAssert, noAssert, absMkIface, ifcOf, CV.pv?, content, pushHead, ownT, fillCells, reps, pvs, chunks, enterSt, leave, resOf, resVars, resVar, outBoxes, lentOnly, TV.deg, TV.av, LK, CV.plain, CV.noBld, nilBin, absUn, bound, List.map_cons, List.map_nil, List.all_cons, List.all_nil, List.any_cons, List.any_nil, List.contains_cons, List.contains_nil, List.elem_cons, List.elem_nil, List.cons_append, List.nil_append, List.append_nil, List.flatMap_cons, List.flatMap_nil, List.zip_cons_cons, List.zip_nil_left, List.zip_nil_right, List.take_succ_cons, List.take_zero, List.take_nil, List.drop_succ_cons, List.drop_zero, List.drop_nil, List.isEmpty_nil, List.isEmpty_cons, Bool.and_true, Bool.true_and, Bool.or_true, Bool.true_or, Bool.or_false, Bool.false_or, Bool.not_true, Bool.not_false, Nat.reduceAdd, Nat.reduceSub, Nat.reduceLeDiff, Nat.add_zero, Nat.zero_add, Nat.reduceMul, Option.isNone_none, Option.isNone_some, Option.getD_none, true_and, and_true, not_true_eq_false, not_false_eq_true, decide_true, decide_false, List.toList_toArray, Nat.le_refl, and_self, Bool.not_eq_true, Nat.sub_self, or_true, true_or, Option.some.injEq, List.length_map, List.nil_eq, and_false, false_and, AV.live, CV.live, CV.liveIn, K_keep, firstReg, Option.orElse_some, Option.orElse_none, head, keepSlots, keepBoxes, Int.lt_irrefl, List.length_append, ite_self, memOK, logOps, opKey, lentBoxes, Key.clash, Key.sees, Key.writes, Nat.lt_irrefl, gt_iff_lt, nobox_at, bot_at, false_or, or_false, beq_self_eq_true, Bool.true_beq, Bool.false_beq, hr]
  unfold combS
  repeat' split
  all_goals (simp_all [exL_seq, exL_region, exL_cond, exL_block, exL_scope, exL_ret, exL_skip, exL_exit, runRegion, runOps, stepOp, guardA, absOp, takeOver, opd, avOf, cvOf, St.degAt, St.put, okPV, okVal, okAV, absBin, intBin, strBin, boolBin, setBoxes, if_true, Bool.false_eq_true, if_false, Option.map_some, Option.map_none, Option.bind_some, Option.bind_none, thenO, outOf, upd, List.toList_toArray, isOwn, steal, appArgs, inApps, AV.deg, CV.deg, AV.gv, AV.isIter, absNext, some_bne, Nat.reduceLT, reduceIte, reduceCtorEq, Nat.reduceEqDiff, List.length_nil, List.length_cons, apply_ite (Option.map (outOf _)), List.filterMap_cons, List.filterMap_nil, beq_iff_eq, List.getElem?_cons_zero, List.getElem?_cons_succ, Option.getD_some, K_hook, hookB, Nat.reduceBEq, Bool.false_and, Bool.and_false, Bool.and_self, K_P, K_own, absCall, doCall, getBoxes, lend, back, idx, dedup, AV.ren, CV.ren, TV.ren, AV.ptrs, CV.ptrs, zipBox, AV.flat, CV.flat, absLoad, absStore, cellsOfAV, setAt, newBox, markB, bldTypes, absFieldAddr, absField, absExtract, absAssert, noAssert, absMkIface, ifcOf, CV.pv?, content, pushHead, ownT, fillCells, reps, pvs, chunks, enterSt, leave, resOf, resVars, resVar, outBoxes, lentOnly, TV.deg, TV.av, LK, CV.plain, CV.noBld, nilBin, absUn, bound, List.map_cons, List.map_nil, List.all_cons, List.all_nil, List.any_cons, List.any_nil, List.contains_cons, List.contains_nil, List.elem_cons, List.elem_nil, List.cons_append, List.nil_append, List.append_nil, List.flatMap_cons, List.flatMap_nil, List.zip_cons_cons, List.zip_nil_left, List.zip_nil_right, List.take_succ_cons, List.take_zero, List.take_nil, List.drop_succ_cons, List.drop_zero, List.drop_nil, List.isEmpty_nil, List.isEmpty_cons, Bool.and_true, Bool.true_and, Bool.or_true, Bool.true_or, Bool.or_false, Bool.false_or, Bool.not_true, Bool.not_false, Nat.reduceAdd, Nat.reduceSub, Nat.reduceLeDiff, Nat.add_zero, Nat.zero_add, Nat.reduceMul, Option.isNone_none, Option.isNone_some, Option.getD_none, true_and, and_true, not_true_eq_false, not_false_eq_true, decide_true, decide_false, List.toList_toArray, Nat.le_refl, and_self, Bool.not_eq_true, Nat.sub_self, or_true, true_or, Option.some.injEq, List.length_map, List.nil_eq, and_false, false_and, AV.live, CV.live, CV.liveIn, K_keep, firstReg, Option.orElse_some, Option.orElse_none, head, keepSlots, keepBoxes, Int.lt_irrefl, List.length_append, ite_self, memOK, logOps, opKey, lentBoxes, Key.clash, Key.sees, Key.writes, Nat.lt_irrefl, gt_iff_lt, nobox_at, bot_at, false_or, or_false, beq_self_eq_true, Bool.true_beq, Bool.false_beq])

/-! ### strings.Builder -/

def bytesC (s : List UInt8) : List (List PV) := s.map fun b => [.int .u8 b.toNat]

/-- how a builder stands: not written, not written and past a loop's head, written -/
inductive BS where
  | fresh
  | live
  | wr (s : List UInt8)

def BS.text : BS → List UInt8
  | .wr s => s
  | _ => []

theorem text_live : BS.live.text = [] := rfl
theorem text_fresh : BS.fresh.text = [] := rfl
theorem text_wr (s : List UInt8) : (BS.wr s).text = s := rfl

/-- its cells, in a frame that names its box 'k' -/
def BS.cells (k : Nat) : BS → List CV
  | .fresh => [.bld, .nils]
  | .live => [.bld, .own 0 []]
  | .wr s => [.loc k 0, .own 5 (bytesC s)]

def txtLim : Nat := 4294967296

theorem bytesC_append (s t : List UInt8) : bytesC s ++ bytesC t = bytesC (s ++ t) := by simp [bytesC]
theorem bytesC_length (s : List UInt8) : (bytesC s).length = s.length := by simp [bytesC]
theorem lens_bytes (s : List UInt8) : lens 1 (bytesC s) = true := by simp [lens, bytesC]
theorem lens_bytes' (s : List UInt8) : lens 1 (s.map fun b => [PV.int .u8 b.toNat]) = true := by simp [lens]
theorem lens_nil (n : Nat) : lens n [] = true := rfl
theorem bytesC_map (s : List UInt8) : (s.map fun b => [PV.int .u8 b.toNat]) = bytesC s := rfl

theorem copyCheck_den (b : BS) : den K 39 [P0] [b.cells 100000] = some (.ret (.tup []) [match b.cells 100000 with | [_, v] => [.loc 100000 0, v] | _ => []]) := by
  refine prim_run (F := pCopyCheck) rfl ?_
  cases b <;> rfl

theorem WriteString_den (b : BS) (t : List UInt8) (h : (b.text ++ t).length < txtLim) :
    den K 26 [P0, T t] [b.cells 100000] = some (.ret (.tup [.c (.pv (.int .i64 t.length)), .c (.pv .nilifc)]) [BS.cells 100000 (.wr (b.text ++ t))]) := by
  refine den_run rfl Tryd.func26 rfl Tryd.ntmps26 ⟨by simp, by simp [LK]⟩ ?_
  have hr : Tryd.f26.results = #[.tmp 4, .tmp 5] := rfl
  have hcc := copyCheck_den b
  have hl : b.text.length + t.length < appLim := by simpa [appLim, txtLim] using h
  cases b
  all_goals (simp only [BS.cells, BS.text, List.length_nil, Nat.zero_add] at hcc hl ⊢; simp only [exL_seq, exL_region, exL_cond, exL_block, exL_scope, exL_ret, exL_skip, exL_exit, runRegion, runOps, stepOp, guardA, absOp, takeOver, opd, avOf, cvOf, St.degAt, St.put, okPV, okVal, okAV, absBin, intBin, strBin, boolBin, setBoxes, if_true, Bool.false_eq_true, if_false, Option.map_some, Option.map_none, Option.bind_some, Option.bind_none, thenO, outOf, upd, List.toList_toArray, isOwn, steal, appArgs, inApps, AV.deg, CV.deg, AV.gv, AV.isIter, absNext, some_bne, Nat.reduceLT, reduceIte, reduceCtorEq, Nat.reduceEqDiff, List.length_nil, List.length_cons, apply_ite (Option.map (outOf _)), List.filterMap_cons, List.filterMap_nil, beq_iff_eq, List.getElem?_cons_zero, List.getElem?_cons_succ, Option.getD_some, K_hook, hookB, Nat.reduceBEq, Bool.false_and, Bool.and_false, Bool.and_self, K_P, K_own, absCall, doCall, getBoxes, lend, back, idx, dedup, AV.ren, CV.ren, TV.ren, AV.ptrs, CV.ptrs, zipBox, AV.flat, CV.flat, absLoad, absStore, cellsOfAV, setAt, newBox, markB, bldTypes, absFieldAddr, absField, absExtract, absAssert, noAssert, absMkIface, ifcOf, CV.pv?, content, pushHead, ownT, fillCells, reps, pvs, chunks, enterSt, leave, resOf, resVars, resVar, outBoxes, lentOnly, TV.deg, TV.av, LK, CV.plain, CV.noBld, nilBin, absUn, bound, List.map_cons, List.map_nil, List.all_cons, List.all_nil, List.any_cons, List.any_nil, List.contains_cons, List.contains_nil, List.elem_cons, List.elem_nil, List.cons_append, List.nil_append, List.append_nil, List.flatMap_cons, List.flatMap_nil, List.zip_cons_cons, List.zip_nil_left, List.zip_nil_right, List.take_succ_cons, List.take_zero, List.take_nil, List.drop_succ_cons, List.drop_zero, List.drop_nil, List.isEmpty_nil, List.isEmpty_cons, Bool.and_true, Bool.true_and, Bool.or_true, Bool.true_or, Bool.or_false, Bool.false_or, Bool.not_true, Bool.not_false, Nat.reduceAdd, Nat.reduceSub, Nat.reduceLeDiff, Nat.add_zero, Nat.zero_add, Nat.reduceMul, Option.isNone_none, Option.isNone_some, Option.getD_none, true_and, and_true, not_true_eq_false, not_false_eq_true, decide_true, decide_false, List.toList_toArray, Nat.le_refl, and_self, Bool.not_eq_true, Nat.sub_self, or_true, true_or, Option.some.injEq, List.length_map, List.nil_eq, and_false, false_and, AV.live, CV.live, CV.liveIn, K_keep, firstReg, Option.orElse_some, Option.orElse_none, head, keepSlots, keepBoxes, Int.lt_irrefl, List.length_append, ite_self, memOK, logOps, opKey, lentBoxes, Key.clash, Key.sees, Key.writes, Nat.lt_irrefl, gt_iff_lt, nobox_at, bot_at, false_or, or_false, beq_self_eq_true, Bool.true_beq, Bool.false_beq, good_39, ty_fieldOff_51_1, ty_szOf_49, ty_shapeT_49, ev_append ty_appInfo_49, ev_appNew_str (e := 5) ty_descOf_9 (h8 := ty_isU8_5), ev_len_str ty_descOf_9, hr, hcc, hl, lens_nil, lens_bytes, bytesC_map, bytesC_length, bytesC_append, BS.cells, BS.text])

end Go.Abs

namespace Go.Abs
open Go Go.Proofs

/-! ### Loops -/

theorem exL_head (f : FuncId) (a : Code) (S : St) : exL K f (.loop a) S = exL K f (.loop a) (head (keepF f ((firstReg a).getD 0)) S) := by
  rw [exL_loop, exL_loop (S := head _ S), K_keep, head_head]

set_option maxRecDepth 10000
attribute [local go_sem] exL_seq exL_region exL_cond exL_block exL_scope exL_ret exL_skip exL_exit runRegion runOps stepOp guardA absOp takeOver opd avOf cvOf St.degAt St.put okPV okVal okAV absBin intBin strBin boolBin setBoxes if_true Bool.false_eq_true if_false Option.map_some Option.map_none Option.bind_some Option.bind_none thenO outOf upd List.toList_toArray isOwn steal appArgs inApps AV.deg CV.deg AV.gv AV.isIter absNext some_bne List.length_nil List.length_cons List.filterMap_cons List.filterMap_nil beq_iff_eq List.getElem?_cons_zero List.getElem?_cons_succ Option.getD_some K_hook hookB Bool.false_and Bool.and_false Bool.and_self K_P K_own absCall doCall getBoxes lend back idx dedup AV.ren CV.ren TV.ren AV.ptrs CV.ptrs zipBox AV.flat CV.flat absLoad absStore cellsOfAV setAt newBox markB bldTypes absFieldAddr absField absExtract absAssert noAssert absMkIface ifcOf CV.pv? content pushHead ownT fillCells reps pvs chunks enterSt leave resOf resVars resVar outBoxes lentOnly TV.deg TV.av LK CV.plain CV.noBld nilBin absUn bound List.map_cons List.map_nil List.all_cons List.all_nil List.any_cons List.any_nil List.contains_cons List.contains_nil List.elem_cons List.elem_nil List.cons_append List.nil_append List.append_nil List.flatMap_cons List.flatMap_nil List.zip_cons_cons List.zip_nil_left List.zip_nil_right List.take_succ_cons List.take_zero List.take_nil List.drop_succ_cons List.drop_zero List.drop_nil List.isEmpty_nil List.isEmpty_cons Bool.and_true Bool.true_and Bool.or_true Bool.true_or Bool.or_false Bool.false_or Bool.not_true Bool.not_false Nat.add_zero Nat.zero_add Option.isNone_none Option.isNone_some Option.getD_none true_and and_true not_true_eq_false not_false_eq_true decide_true decide_false Nat.le_refl and_self Bool.not_eq_true Nat.sub_self or_true true_or Option.some.injEq List.length_map List.nil_eq and_false false_and AV.live CV.live CV.liveIn K_keep firstReg Option.orElse_some Option.orElse_none head keepSlots keepBoxes Int.lt_irrefl List.length_append ite_self memOK logOps opKey lentBoxes Key.clash Key.sees Key.writes Nat.lt_irrefl gt_iff_lt nobox_at bot_at false_or or_false beq_self_eq_true Bool.true_beq Bool.false_beq

/-! ### words -/

inductive Wd where
  | s (t : List UInt8)
  | n (k : Int)

def Wd.enc : Wd → List PV
  | .s t => [.ifc 9 (.str t)]
  | .n k => [.ifc 3 (.int .i64 k)]
def Wd.ok : Wd → Prop
  | .s _ => True
  | .n k => -9223372036854775808 ≤ k ∧ k ≤ 9223372036854775807
def Wd.text : Wd → List UInt8
  | .s t => t
  | .n k => Lib.itoa k
def wordsS (l : List Wd) : List UInt8 := l.flatMap Wd.text

theorem itoa_den (n : Int) (h : -9223372036854775808 ≤ n ∧ n ≤ 9223372036854775807) : den K 29 [I n] [] = some (.ret (T (Lib.itoa n)) []) :=
  prim_run (F := pItoa) rfl (by simp [pItoa, h])

/-- a builder past a loop's head -/
def BS.live' : BS → BS
  | .fresh => .live
  | b => b
theorem BS.live_text (b : BS) : b.live'.text = b.text := by cases b <;> rfl
def BS.add (b : BS) (t : List UInt8) : BS := .wr (b.text ++ t)
def wordsB (b : BS) : List Wd → BS
  | [] => b.live'
  | l => .wr (b.text ++ wordsS l)

theorem wrap_nat (n : Nat) (h : n < 9223372036854775807) : IntKind.i64.wrap ((n : Int) + 1) = ((n + 1 : Nat) : Int) := by
  rw [IntWalk.i64_in _ (by omega)]; rfl

theorem cells_live (b : BS) (k : Nat) (l : List Nat) (h : l.contains k = true) : (b.cells k).map (CV.live l) = b.live'.cells k := by
  cases b with
  | wr s => simp only [BS.cells, List.map_cons, List.map_nil, CV.live, BS.live', h, if_true]
  | _ => rfl

theorem cells_lend (b : BS) (k : Nat) (l : List Nat) : (b.cells k).map (CV.ren (lend (k :: l))) = b.cells 100000 := by
  cases b with
  | wr s => simp [BS.cells, CV.ren, lend, idx, LK]
  | _ => rfl
theorem cells_back (b : BS) (k : Nat) (l : List Nat) : (b.cells 100000).map (CV.ren (back (k :: l))) = b.cells k := by
  cases b with
  | wr s => simp [BS.cells, CV.ren, back, LK]
  | _ => rfl
theorem cells_lent (b : BS) : (b.cells 100000).map (CV.ren lentOnly) = b.cells 100000 := by
  cases b <;> rfl

theorem drop_cons {α : Type} {l rest : List α} {x : α} {i : Nat} (h : l.drop i = x :: rest) : l[i]? = some x ∧ l.drop (i + 1) = rest ∧ i < l.length := by
  have h1 : l[i]? = some x := by
    have : (l.drop i)[0]? = some x := by rw [h]; rfl
    simpa using this
  refine ⟨h1, ?_, (List.getElem?_eq_some_iff.1 h1).1⟩
  have : (l.drop i).tail = rest := by rw [h]; rfl
  rw [← this, List.tail_drop]

theorem lt_true {a b : Int} (h : a < b) : decide (a < b) = true := decide_eq_true h

/-- the head of a loop, as it stands -/
abbrev wordsH (b : BS) (l : List Wd) (i : Nat) : St :=
  { sl := upd (upd (upd (upd bot 10 (I i)) 9 (I l.length)) 8 (L (l.map Wd.enc))) 0 P0, bx := upd nobox 100000 (some (b.cells 100000)), nt := 33 }

theorem wordsB_cons (b : BS) (x : Wd) (rest : List Wd) : wordsB (.wr (b.text ++ x.text)) rest = wordsB b (x :: rest) := by
  cases rest with
  | nil => simp [wordsB, BS.live', wordsS]
  | cons y r => simp [wordsB, BS.text, wordsS]

theorem words_loop (all : List Wd) : ∀ (rest : List Wd) (i : Nat) (b : BS), all.drop i = rest → (∀ x ∈ rest, x.ok) → (b.text ++ wordsS rest).length < txtLim → b.live' = b → i ≤ all.length → all.length < 1000000 →
    exL K 17 (.loop (loopAt Tryd.f17 1)) (wordsH b all i) =
      some (.exit 0, { sl := upd (upd (upd (upd (upd bot 10 (I all.length)) 9 (I all.length)) 8 (L (all.map Wd.enc))) 0 P0) 11 (B false), bx := upd nobox 100000 (some ((wordsB b rest).cells 100000)), nt := 33 })
  | [], i, b, hd, hok, hlen, hb, hi, hal => by
    have hin : i = all.length := by
      have := List.drop_eq_nil_iff.1 hd
      omega
    subst hin
    conv in loopAt _ _ => whnf
    rw [exL_loop]
    simp only [go_sem, Nat.reduceLT, reduceIte, reduceCtorEq, Nat.reduceEqDiff, apply_ite (Option.map (outOf _)), Nat.reduceBEq, Nat.reduceAdd, Nat.reduceSub, Nat.reduceLeDiff, Nat.reduceMul, ev_len_sl ty_descOf_78, ev_indexAddr ty_descOf_78, ty_szOf_20, ty_shapeT_20, ty_concreteT_9, ty_tvZero_9, ty_fieldOff_53_0, ty_szOf_51, good_26, ty_concreteT_3, ty_tvZero_3, good_29, keep_17_1, cells_live, hb, wordsB]
  | x :: rest, i, b, hd, hok, hlen, hb, hi, hal => by
    obtain ⟨h1, h2, h3⟩ := drop_cons hd
    have hx := hok x (by simp)
    have ih := fun b => words_loop all rest (i + 1) b h2 (fun y hy => hok y (by simp [hy]))
    conv in loopAt _ _ => whnf
    rw [exL_loop]
    have hl1 : (b.text ++ x.text).length < txtLim := by simp [wordsS] at hlen ⊢; omega
    have hws := WriteString_den b x.text hl1
    have hget : (all.map Wd.enc)[(i : Int).toNat]? = some x.enc := by simp [h1]
    have hlt : decide ((i : Int) < (all.length : Int)) = true := lt_true (by omega)
    have hnext := ih (.wr (b.text ++ x.text)) (by simpa [BS.text, wordsS] using hlen) rfl (by omega) hal
    rw [← wordsB_cons b x rest]
    conv at hnext in loopAt _ _ => whnf
    cases x with
    | s t =>
      simp only [Wd.text] at hws hnext ⊢
      simp only [go_sem, Nat.reduceLT, reduceIte, reduceCtorEq, Nat.reduceEqDiff, apply_ite (Option.map (outOf _)), Nat.reduceBEq, Nat.reduceAdd, Nat.reduceSub, Nat.reduceLeDiff, Nat.reduceMul, ev_len_sl ty_descOf_78, ev_indexAddr ty_descOf_78, ty_szOf_20, ty_shapeT_20, ty_concreteT_9, ty_tvZero_9, ty_fieldOff_53_0, ty_szOf_51, good_26, ty_concreteT_3, ty_tvZero_3, good_29, keep_17_1, cells_live, cells_lend, cells_back, hb, hlt, hget, Int.natCast_nonneg, Wd.enc, hws, wrap_nat i (by omega)]
      rw [exL_head]
      simp only [go_sem, Nat.reduceLT, reduceIte, reduceCtorEq, Nat.reduceEqDiff, apply_ite (Option.map (outOf _)), Nat.reduceBEq, Nat.reduceAdd, Nat.reduceSub, Nat.reduceLeDiff, Nat.reduceMul, ev_len_sl ty_descOf_78, ev_indexAddr ty_descOf_78, ty_szOf_20, ty_shapeT_20, ty_concreteT_9, ty_tvZero_9, ty_fieldOff_53_0, ty_szOf_51, good_26, ty_concreteT_3, ty_tvZero_3, good_29, keep_17_1, cells_live]
      exact hnext
    | n k =>
      have hit := itoa_den k hx
      simp only [Wd.text] at hws hnext ⊢
      simp only [go_sem, Nat.reduceLT, reduceIte, reduceCtorEq, Nat.reduceEqDiff, apply_ite (Option.map (outOf _)), Nat.reduceBEq, Nat.reduceAdd, Nat.reduceSub, Nat.reduceLeDiff, Nat.reduceMul, ev_len_sl ty_descOf_78, ev_indexAddr ty_descOf_78, ty_szOf_20, ty_shapeT_20, ty_concreteT_9, ty_tvZero_9, ty_fieldOff_53_0, ty_szOf_51, good_26, ty_concreteT_3, ty_tvZero_3, good_29, keep_17_1, cells_live, cells_lend, cells_back, hb, hlt, hget, Int.natCast_nonneg, Wd.enc, hws, hit, wrap_nat i (by omega)]
      rw [exL_head]
      simp only [go_sem, Nat.reduceLT, reduceIte, reduceCtorEq, Nat.reduceEqDiff, apply_ite (Option.map (outOf _)), Nat.reduceBEq, Nat.reduceAdd, Nat.reduceSub, Nat.reduceLeDiff, Nat.reduceMul, ev_len_sl ty_descOf_78, ev_indexAddr ty_descOf_78, ty_szOf_20, ty_shapeT_20, ty_concreteT_9, ty_tvZero_9, ty_fieldOff_53_0, ty_szOf_51, good_26, ty_concreteT_3, ty_tvZero_3, good_29, keep_17_1, cells_live]
      exact hnext

theorem words_den (l : List Wd) (b : BS) (hok : ∀ x ∈ l, x.ok) (hlen : (b.text ++ wordsS l).length < txtLim) (hl : l.length < 1000000) :
    den K 17 [P0, L (l.map Wd.enc)] [b.cells 100000] = some (.ret (.tup []) [(wordsB b l).cells 100000]) := by
  refine den_run rfl Tryd.func17 rfl Tryd.ntmps17 ⟨by simp, by simp [LK]⟩ ?_
  have hr : Tryd.f17.results = #[] := rfl
  have hnext := words_loop l l 0 b.live' rfl hok (by rw [BS.live_text]; exact hlen) (by cases b <;> rfl) (by omega) hl
  conv at hnext in loopAt _ _ => whnf
  have hB : wordsB b.live' l = wordsB b l := by cases b <;> cases l <;> rfl
  rw [hB] at hnext
  simp only [go_sem, Nat.reduceLT, reduceIte, reduceCtorEq, Nat.reduceEqDiff, apply_ite (Option.map (outOf _)), Nat.reduceBEq, Nat.reduceAdd, Nat.reduceSub, Nat.reduceLeDiff, Nat.reduceMul, ev_len_sl ty_descOf_78, ev_indexAddr ty_descOf_78, ty_szOf_20, ty_shapeT_20, ty_concreteT_9, ty_tvZero_9, ty_fieldOff_53_0, ty_szOf_51, good_26, ty_concreteT_3, ty_tvZero_3, good_29, keep_17_1, cells_live]
  rw [exL_head]
  simp only [go_sem, Nat.reduceLT, reduceIte, reduceCtorEq, Nat.reduceEqDiff, apply_ite (Option.map (outOf _)), Nat.reduceBEq, Nat.reduceAdd, Nat.reduceSub, Nat.reduceLeDiff, Nat.reduceMul, ev_len_sl ty_descOf_78, ev_indexAddr ty_descOf_78, ty_szOf_20, ty_shapeT_20, ty_concreteT_9, ty_tvZero_9, ty_fieldOff_53_0, ty_szOf_51, good_26, ty_concreteT_3, ty_tvZero_3, good_29, keep_17_1, cells_live]
  erw [hnext]
  simp only [go_sem, Nat.reduceLT, reduceIte, reduceCtorEq, Nat.reduceEqDiff, apply_ite (Option.map (outOf _)), Nat.reduceBEq, Nat.reduceAdd, Nat.reduceSub, Nat.reduceLeDiff, Nat.reduceMul, ev_len_sl ty_descOf_78, ev_indexAddr ty_descOf_78, ty_szOf_20, ty_shapeT_20, ty_concreteT_9, ty_tvZero_9, ty_fieldOff_53_0, ty_szOf_51, good_26, ty_concreteT_3, ty_tvZero_3, good_29, keep_17_1, cells_live, cells_lent, hr]

end Go.Abs

namespace Go.Abs
open Go Go.Proofs
set_option maxRecDepth 10000
attribute [local go_sem] exL_seq exL_region exL_cond exL_block exL_scope exL_ret exL_skip exL_exit runRegion runOps stepOp guardA absOp takeOver opd avOf cvOf St.degAt St.put okPV okVal okAV absBin intBin strBin boolBin setBoxes if_true Bool.false_eq_true if_false Option.map_some Option.map_none Option.bind_some Option.bind_none thenO outOf upd List.toList_toArray isOwn steal appArgs inApps AV.deg CV.deg AV.gv AV.isIter absNext some_bne List.length_nil List.length_cons List.filterMap_cons List.filterMap_nil beq_iff_eq List.getElem?_cons_zero List.getElem?_cons_succ Option.getD_some K_hook hookB Bool.false_and Bool.and_false Bool.and_self K_P K_own absCall doCall getBoxes lend back idx dedup AV.ren CV.ren TV.ren AV.ptrs CV.ptrs zipBox AV.flat CV.flat absLoad absStore cellsOfAV setAt newBox markB bldTypes absFieldAddr absField absExtract absAssert noAssert absMkIface ifcOf CV.pv? content pushHead ownT fillCells reps pvs chunks enterSt leave resOf resVars resVar outBoxes lentOnly TV.deg TV.av LK CV.plain CV.noBld nilBin absUn bound List.map_cons List.map_nil List.all_cons List.all_nil List.any_cons List.any_nil List.contains_cons List.contains_nil List.elem_cons List.elem_nil List.cons_append List.nil_append List.append_nil List.flatMap_cons List.flatMap_nil List.zip_cons_cons List.zip_nil_left List.zip_nil_right List.take_succ_cons List.take_zero List.take_nil List.drop_succ_cons List.drop_zero List.drop_nil List.isEmpty_nil List.isEmpty_cons Bool.and_true Bool.true_and Bool.or_true Bool.true_or Bool.or_false Bool.false_or Bool.not_true Bool.not_false Nat.add_zero Nat.zero_add Option.isNone_none Option.isNone_some Option.getD_none true_and and_true not_true_eq_false not_false_eq_true decide_true decide_false Nat.le_refl and_self Bool.not_eq_true Nat.sub_self or_true true_or Option.some.injEq List.length_map List.nil_eq and_false false_and AV.live CV.live CV.liveIn K_keep firstReg Option.orElse_some Option.orElse_none head keepSlots keepBoxes Int.lt_irrefl List.length_append ite_self memOK logOps opKey lentBoxes Key.clash Key.sees Key.writes Nat.lt_irrefl gt_iff_lt nobox_at bot_at false_or or_false beq_self_eq_true Bool.true_beq Bool.false_beq


theorem itoa_len {n : Int} (h : I64 n) : (Lib.itoa n).length ≤ 21 := Lib.itoa_length_le n h.1 h.2

set_option maxHeartbeats 4000000 in
theorem One_den (t : Tok) (hn : I64 t.n) (hl : t.text.length < 1000000000000) : den K 42 [.agg t.cells] [] = some (.ret (T (oneS t)) []) := by
  obtain ⟨k, s, n⟩ := t
  refine den_run rfl Tryd.func42 rfl Tryd.ntmps42 ⟨by simp, by simp [LK]⟩ ?_
  have hr : Tryd.f42.results = #[.tmp 2] := rfl
  have hit := itoa_den n hn
  have hi := itoa_len hn
  simp only at hl hi
  have l1 : s.length + 1 < strLim := by simp [strLim]; omega
  have l1' : 1 + s.length < strLim := by simp [strLim]; omega
  have l2 : (Lib.itoa n).length + s.length < strLim := by simp [strLim]; omega
  have l3 : 1 + s.length + 1 < strLim := by simp [strLim]; omega
  have l4 : s.length + 2 < strLim := by simp [strLim]; omega
  have l5 : s.length + 2 + 1 < strLim := by simp [strLim]; omega
  have l6 : s.length + 2 + 1 + 2 < strLim := by simp [strLim]; omega
  have l7 : s.length + 1 + 1 < strLim := by simp [strLim]; omega
  have hk : k = 1 ∨ k = 2 ∨ k = 3 ∨ k = 4 ∨ k = 5 ∨ k = 6 ∨ k = 7 ∨ k = 8 ∨ (k ≠ 1 ∧ k ≠ 2 ∧ k ≠ 3 ∧ k ≠ 4 ∧ k ≠ 5 ∧ k ≠ 6 ∧ k ≠ 7 ∧ k ≠ 8) := by omega
  rcases hk with rfl | rfl | rfl | rfl | rfl | rfl | rfl | rfl | ⟨h1, h2, h3, h4, h5, h6, h7, h8⟩
  · simp [go_sem, Nat.reduceLT, reduceIte, reduceCtorEq, Nat.reduceEqDiff, apply_ite (Option.map (outOf _)), Nat.reduceBEq, Nat.reduceAdd, Nat.reduceSub, Nat.reduceLeDiff, Nat.reduceMul, ty_fieldOff_83_0, ty_szOf_3, ty_shapeT_3, ty_fieldOff_83_1, ty_szOf_9, ty_shapeT_9, ty_fieldOff_83_2, good_29, hr, Tok.cells, oneS]
  · simp [go_sem, Nat.reduceLT, reduceIte, reduceCtorEq, Nat.reduceEqDiff, apply_ite (Option.map (outOf _)), Nat.reduceBEq, Nat.reduceAdd, Nat.reduceSub, Nat.reduceLeDiff, Nat.reduceMul, ty_fieldOff_83_0, ty_szOf_3, ty_shapeT_3, ty_fieldOff_83_1, ty_szOf_9, ty_shapeT_9, ty_fieldOff_83_2, good_29, hr, Tok.cells, oneS, l1]
  · simp [go_sem, Nat.reduceLT, reduceIte, reduceCtorEq, Nat.reduceEqDiff, apply_ite (Option.map (outOf _)), Nat.reduceBEq, Nat.reduceAdd, Nat.reduceSub, Nat.reduceLeDiff, Nat.reduceMul, ty_fieldOff_83_0, ty_szOf_3, ty_shapeT_3, ty_fieldOff_83_1, ty_szOf_9, ty_shapeT_9, ty_fieldOff_83_2, good_29, hr, Tok.cells, oneS, l1']
  · simp [go_sem, Nat.reduceLT, reduceIte, reduceCtorEq, Nat.reduceEqDiff, apply_ite (Option.map (outOf _)), Nat.reduceBEq, Nat.reduceAdd, Nat.reduceSub, Nat.reduceLeDiff, Nat.reduceMul, ty_fieldOff_83_0, ty_szOf_3, ty_shapeT_3, ty_fieldOff_83_1, ty_szOf_9, ty_shapeT_9, ty_fieldOff_83_2, good_29, hr, Tok.cells, oneS, l1']
  · simp [go_sem, Nat.reduceLT, reduceIte, reduceCtorEq, Nat.reduceEqDiff, apply_ite (Option.map (outOf _)), Nat.reduceBEq, Nat.reduceAdd, Nat.reduceSub, Nat.reduceLeDiff, Nat.reduceMul, ty_fieldOff_83_0, ty_szOf_3, ty_shapeT_3, ty_fieldOff_83_1, ty_szOf_9, ty_shapeT_9, ty_fieldOff_83_2, good_29, hr, Tok.cells, oneS, hit, l2]
  · by_cases h : n = 39 <;> simp [go_sem, Nat.reduceLT, reduceIte, reduceCtorEq, Nat.reduceEqDiff, apply_ite (Option.map (outOf _)), Nat.reduceBEq, Nat.reduceAdd, Nat.reduceSub, Nat.reduceLeDiff, Nat.reduceMul, ty_fieldOff_83_0, ty_szOf_3, ty_shapeT_3, ty_fieldOff_83_1, ty_szOf_9, ty_shapeT_9, ty_fieldOff_83_2, good_29, hr, Tok.cells, oneS, h, l1, l1', l3, l7]
  · by_cases h : s = [34]
    · simp [go_sem, Nat.reduceLT, reduceIte, reduceCtorEq, Nat.reduceEqDiff, apply_ite (Option.map (outOf _)), Nat.reduceBEq, Nat.reduceAdd, Nat.reduceSub, Nat.reduceLeDiff, Nat.reduceMul, ty_fieldOff_83_0, ty_szOf_3, ty_shapeT_3, ty_fieldOff_83_1, ty_szOf_9, ty_shapeT_9, ty_fieldOff_83_2, good_29, hr, Tok.cells, oneS, h, l4, l5, l6, strLim]
    · have e : (s == [34]) = false := by simp [h]
      by_cases h' : s = [39]
      · simp [go_sem, Nat.reduceLT, reduceIte, reduceCtorEq, Nat.reduceEqDiff, apply_ite (Option.map (outOf _)), Nat.reduceBEq, Nat.reduceAdd, Nat.reduceSub, Nat.reduceLeDiff, Nat.reduceMul, ty_fieldOff_83_0, ty_szOf_3, ty_shapeT_3, ty_fieldOff_83_1, ty_szOf_9, ty_shapeT_9, ty_fieldOff_83_2, good_29, hr, Tok.cells, oneS, e, h, h', l4, l5, l6, strLim]
      · have e' : (s == [39]) = false := by simp [h']
        simp [go_sem, Nat.reduceLT, reduceIte, reduceCtorEq, Nat.reduceEqDiff, apply_ite (Option.map (outOf _)), Nat.reduceBEq, Nat.reduceAdd, Nat.reduceSub, Nat.reduceLeDiff, Nat.reduceMul, ty_fieldOff_83_0, ty_szOf_3, ty_shapeT_3, ty_fieldOff_83_1, ty_szOf_9, ty_shapeT_9, ty_fieldOff_83_2, good_29, hr, Tok.cells, oneS, e, e', h, h', l4, l5, l6, strLim]
  · simp [go_sem, Nat.reduceLT, reduceIte, reduceCtorEq, Nat.reduceEqDiff, apply_ite (Option.map (outOf _)), Nat.reduceBEq, Nat.reduceAdd, Nat.reduceSub, Nat.reduceLeDiff, Nat.reduceMul, ty_fieldOff_83_0, ty_szOf_3, ty_shapeT_3, ty_fieldOff_83_1, ty_szOf_9, ty_shapeT_9, ty_fieldOff_83_2, good_29, hr, Tok.cells, oneS]
  · simp [go_sem, Nat.reduceLT, reduceIte, reduceCtorEq, Nat.reduceEqDiff, apply_ite (Option.map (outOf _)), Nat.reduceBEq, Nat.reduceAdd, Nat.reduceSub, Nat.reduceLeDiff, Nat.reduceMul, ty_fieldOff_83_0, ty_szOf_3, ty_shapeT_3, ty_fieldOff_83_1, ty_szOf_9, ty_shapeT_9, ty_fieldOff_83_2, good_29, hr, Tok.cells, oneS, h1, h2, h3, h4, h5, h6, h7, h8]


theorem value_den (s : List UInt8) (hl : s.length < 1000000000000) : den K 28 [T s] [] = some (.ret (T (valueS s)) []) := by
  refine den_run rfl Tryd.func28 rfl Tryd.ntmps28 ⟨by simp, by simp [LK]⟩ ?_
  have hr : Tryd.f28.results = #[.tmp 2] := rfl
  have hc : den K 41 [T s, T [34]] [] = some (.ret (B (decide (0 ≤ Lib.indexByte s 34))) []) := prim_run (F := pContains) rfl rfl
  have h1 := One_den ⟨6, s, 34⟩ (by simp [I64]) hl
  have h2 := One_den ⟨6, s, 39⟩ (by simp [I64]) hl
  simp only [Tok.cells] at h1 h2
  have e1 : oneS ⟨6, s, 34⟩ = 34 :: s ++ [34] := by simp [oneS]
  have e2 : oneS ⟨6, s, 39⟩ = 39 :: s ++ [39] := by simp [oneS]
  rw [e1] at h1
  rw [e2] at h2
  unfold valueS
  by_cases h : 0 ≤ Lib.indexByte s 34
  · simp [go_sem, Nat.reduceLT, reduceIte, reduceCtorEq, Nat.reduceEqDiff, apply_ite (Option.map (outOf _)), Nat.reduceBEq, Nat.reduceAdd, Nat.reduceSub, Nat.reduceLeDiff, Nat.reduceMul, ev_build ty_zeroCells_83 ty_placesOf_83, ty_zeroCells_83, ty_szOf_83, good_41, ty_fieldOff_83_2, ty_szOf_3, ty_shapeT_83, good_42, hr, hc, h1, h2, h]
  · simp [go_sem, Nat.reduceLT, reduceIte, reduceCtorEq, Nat.reduceEqDiff, apply_ite (Option.map (outOf _)), Nat.reduceBEq, Nat.reduceAdd, Nat.reduceSub, Nat.reduceLeDiff, Nat.reduceMul, ev_build ty_zeroCells_83 ty_placesOf_83, ty_zeroCells_83, ty_szOf_83, good_41, ty_fieldOff_83_2, ty_szOf_3, ty_shapeT_83, good_42, hr, hc, h1, h2, h]


theorem String_den (b : BS) (h : b.text.length < txtLim) : den K 16 [P0] [b.cells 100000] = some (.ret (T b.text) [match b with | .wr s => [.loc 100000 0, .pv (.sl (bytesC s))] | .live => [.bld, .pv (.sl [])] | .fresh => [.bld, .nils]]) := by
  refine prim_run (F := pString) rfl ?_
  have hb : ∀ s : List UInt8, bytesIn (bytesC s) = some s := fun s => by
    induction s with
    | nil => rfl
    | cons x s ih =>
      show bytesIn ([PV.int .u8 x.toNat] :: bytesC s) = _
      have hx : (0 : Int) ≤ (x.toNat : Int) ∧ (x.toNat : Int) < 256 := ⟨by omega, by have := x.toNat_lt; omega⟩
      unfold bytesIn
      rw [if_pos hx, ih]
      simp
  cases b with
  | wr s =>
    have hs : s.length < strLim := by simp [BS.text, txtLim] at h; simp [strLim]; omega
    simp [BS.cells, BS.text, pString, LK, hb, hs]
  | live => simp [BS.cells, BS.text, pString, LK, bytesIn, strLim]
  | fresh => rfl

set_option maxHeartbeats 4000000 in
theorem Nth_den (a b : Int) (ha : I64 a) (hb : I64 b) : den K 9 [I a, I b] [] = some (.ret (T (nthS a b)) []) := by
  have la := itoa_len ha
  have lb := itoa_len hb
  refine den_run rfl Tryd.func9 rfl Tryd.ntmps9 ⟨by simp, by simp [LK]⟩ ?_
  have hr : Tryd.f9.results = #[.tmp 4] := rfl
  have w1 := words_den [.n a, .s [110]] .fresh (by simp [Wd.ok]; exact ha) (by simp [wordsS, Wd.text, BS.text, txtLim]; omega) (by simp)
  have w2 := words_den [.n b] .fresh (by simp [Wd.ok]; exact hb) (by simp [wordsS, Wd.text, BS.text, txtLim]; omega) (by simp)
  have w3 := words_den [.n b] (.wr (Lib.itoa a ++ [110])) (by simp [Wd.ok]; exact hb) (by simp [wordsS, Wd.text, BS.text, txtLim]; omega) (by simp)
  have w4 := words_den [.s [43], .n b] (.wr (Lib.itoa a ++ [110])) (by simp [Wd.ok]; exact hb) (by simp [wordsS, Wd.text, BS.text, txtLim]; omega) (by simp)
  have s1 := String_den (.wr (Lib.itoa b)) (by simp [BS.text, txtLim]; omega)
  have s2 := String_den (.wr (Lib.itoa a ++ 110 :: Lib.itoa b)) (by simp [BS.text, txtLim]; omega)
  have s3 := String_den (.wr (Lib.itoa a ++ 110 :: 43 :: Lib.itoa b)) (by simp [BS.text, txtLim]; omega)
  have s4 := String_den (.wr (Lib.itoa a ++ [110])) (by simp [BS.text, txtLim]; omega)
  simp only [Wd.enc, wordsB, wordsS, List.map_cons, List.map_nil, List.flatMap_cons, List.flatMap_nil, Wd.text, List.append_nil, BS.text, List.nil_append, BS.cells, List.append_assoc, List.cons_append] at w1 w2 w3 w4 s1 s2 s3 s4
  unfold nthS
  by_cases h0 : a = 0
  · subst h0
    simp [go_sem, Nat.reduceLT, reduceIte, reduceCtorEq, Nat.reduceEqDiff, apply_ite (Option.map (outOf _)), Nat.reduceBEq, Nat.reduceAdd, Nat.reduceSub, Nat.reduceLeDiff, Nat.reduceMul, ty_zeroCells_53, ty_concreteT_3, ty_concreteT_9, ev_buildSlice (len := 2) ty_descOf_78 ty_szOf_20 ty_zeroCells_20 ⟨rfl, by decide, by decide⟩, good_17, ev_buildSlice (len := 1) ty_descOf_78 ty_szOf_20 ty_zeroCells_20 ⟨rfl, by decide, by decide⟩, ty_fieldOff_53_0, ty_szOf_51, good_16, hr, w2, s1]
  · have e0 : (a != 0) = true := by simp [h0]
    have e1 : (a == 0) = false := by simp [h0]
    by_cases h1 : b < 0
    · simp [go_sem, Nat.reduceLT, reduceIte, reduceCtorEq, Nat.reduceEqDiff, apply_ite (Option.map (outOf _)), Nat.reduceBEq, Nat.reduceAdd, Nat.reduceSub, Nat.reduceLeDiff, Nat.reduceMul, ty_zeroCells_53, ty_concreteT_3, ty_concreteT_9, ev_buildSlice (len := 2) ty_descOf_78 ty_szOf_20 ty_zeroCells_20 ⟨rfl, by decide, by decide⟩, good_17, ev_buildSlice (len := 1) ty_descOf_78 ty_szOf_20 ty_zeroCells_20 ⟨rfl, by decide, by decide⟩, ty_fieldOff_53_0, ty_szOf_51, good_16, hr, w1, w3, s2, h0, e0, e1, h1]
    · by_cases h2 : 0 < b
      · simp [go_sem, Nat.reduceLT, reduceIte, reduceCtorEq, Nat.reduceEqDiff, apply_ite (Option.map (outOf _)), Nat.reduceBEq, Nat.reduceAdd, Nat.reduceSub, Nat.reduceLeDiff, Nat.reduceMul, ty_zeroCells_53, ty_concreteT_3, ty_concreteT_9, ev_buildSlice (len := 2) ty_descOf_78 ty_szOf_20 ty_zeroCells_20 ⟨rfl, by decide, by decide⟩, good_17, ev_buildSlice (len := 1) ty_descOf_78 ty_szOf_20 ty_zeroCells_20 ⟨rfl, by decide, by decide⟩, ty_fieldOff_53_0, ty_szOf_51, good_16, hr, w1, w4, s3, h0, e0, e1, h1, h2]
      · simp [go_sem, Nat.reduceLT, reduceIte, reduceCtorEq, Nat.reduceEqDiff, apply_ite (Option.map (outOf _)), Nat.reduceBEq, Nat.reduceAdd, Nat.reduceSub, Nat.reduceLeDiff, Nat.reduceMul, ty_zeroCells_53, ty_concreteT_3, ty_concreteT_9, ev_buildSlice (len := 2) ty_descOf_78 ty_szOf_20 ty_zeroCells_20 ⟨rfl, by decide, by decide⟩, good_17, ev_buildSlice (len := 1) ty_descOf_78 ty_szOf_20 ty_zeroCells_20 ⟨rfl, by decide, by decide⟩, ty_fieldOff_53_0, ty_szOf_51, good_16, hr, w1, s4, h0, e0, e1, h1, h2]

end Go.Abs
