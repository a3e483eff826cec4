/-
  THE ABSTRACT INTERPRETER: what it is run with over this program.
  FACTS ON THE TYPES OF THIS PROGRAM, each by the kernel (printed by a program).
  WHAT THE FUNCTIONS COMPUTE: the smallest; the builder of texts.
  WHAT THE FUNCTIONS COMPUTE: loops; texts of words.
  WHAT THE FUNCTIONS COMPUTE: a token's text; numbers of an nth; simple selectors.
-/
import Derived.Test.YtegabgmehebimaaDoorQH
import Derived.Test.YtegabgmehebimaaDoorQG
import Derived.KernelRfl
set_option linter.unusedSimpArgs false
set_option linter.unusedVariables false
namespace Go.Abs
open Go Go.Proofs

def keepL : List (Nat × Nat × List Nat × List Nat) := [
  (8, 2, [0, 1, 5], []),
  (14, 4, [0, 1, 5], []),
  (57, 2, [3], [6]),
  (25, 3, [0, 3, 4], []),
  (26, 3, [0, 3, 4], []),
  (21, 2, [0, 3], []),
  (40, 5, [0, 4, 6], [4]),
  (47, 5, [5, 15, 16, 17], []),
  (69, 2, [0, 1, 2, 7], [100000]),
  (73, 6, [0, 2, 3, 4, 29], [100000]),
  (49, 2, [0, 5], []),
  (51, 2, [0, 1, 5], []),
  (52, 1, [0, 1], []),
  (54, 4, [0, 1, 4, 6, 7], [4]),
  (29, 2, [0, 2, 3, 8, 9], [8, 9]),
  (85, 15, [0, 1, 5, 6, 7, 8, 9, 10], []),
  (87, 12, [0, 6, 8], [6]),
  (87, 18, [1, 45], []),
  (83, 1, [0, 1, 4], []),
  (84, 11, [0, 1, 3, 4, 10, 11, 12, 13, 14, 15, 16], [12]),
  (84, 18, [0, 1, 3, 4, 10, 11, 12, 13, 17], [12]),
  (95, 5, [0, 1, 5, 6, 7, 8, 9], []),
  (95, 11, [0, 1, 5, 6, 7, 8, 10], []),
  (96, 5, [0, 7, 8, 9], []),
  (96, 12, [0, 7, 8, 9, 12], []),
  (96, 25, [0, 7, 8, 9, 14, 15], []),
  (96, 29, [0, 7, 8, 9, 14, 15, 16], []),
  (96, 38, [175], []),
  (98, 2, [0, 2, 4], [2]),
  (102, 3, [0, 4, 5], []),
  (102, 8, [4, 6, 7, 8], []),
  (4, 13, [0, 5, 11], []),
  (6, 10, [0, 1, 6, 7, 8, 9], []),
  (13, 4, [0, 1, 5], []),
  (15, 3, [3, 8, 9, 10], []),
  (16, 3, [0, 3, 4], []),
  (17, 3, [3, 6, 7, 8], []),
  (18, 3, [0, 3, 4], []),
  (24, 4, [0, 1, 2, 7], []),
  (28, 2, [0, 1, 2, 7], [100000, 100001]),
  (38, 4, [1, 2, 15, 16, 17], [100000]),
  (46, 2, [0, 1, 7, 8], [100000]),
  (1000000, 0, [], [])]

def keepF (f r : Nat) : List Nat × List Nat := match keepL.find? (fun x => x.1 == f && x.2.1 == r) with | some x => x.2.2 | none => ([], [])

def prL : List (Nat × Prim) := [
  (64, pHasPrefix),
  (66, pIndexByte),
  (77, pIndex),
  (87, pIndexAny),
  (58, pItoa),
  (30, pPairs),
  (56, pOpens),
  (11, pParse),
  (1000000, fun _ _ => none)]

def prF (f : Nat) : Option Prim := (prL.find? (fun x => x.1 == f)).map (·.2)

/-- regions 'x.f = append(x.f, y[i])' whose order is drawn -/
def hookB (f i : Nat) : Bool := f == 1000000 && i == 6

def ownB (f : Nat) : Bool := f == 30

def goodB (P : Program) (f : Nat) : Bool :=
  match P.funcs[f]? with
  | some fn => fn.name != "runtime.NumGoroutine" && (match fn.body with | some c => codeOK (hookB f) c | none => false)
  | none => false

/-- which functions may be met -/
def goods : List Nat := [3, 4, 5, 6, 7, 8, 9, 10, 11, 12, 13, 14, 15, 16, 17, 18, 19, 20, 21, 22, 23, 24, 25, 26, 27, 28, 29, 30, 31, 32, 33, 34, 35, 36, 37, 38, 39, 40, 41, 42, 43, 44, 45, 46, 47, 48, 49, 50, 51, 52, 53, 54, 55, 56, 57, 58, 59, 60, 61, 62, 63, 64, 65, 66, 67, 68, 69, 70, 71, 72, 73, 74, 75, 76, 77, 78, 79, 80, 81, 82, 83, 84, 85, 87, 88, 89, 90, 91, 92, 94, 95, 96, 97, 98, 99, 100, 101, 102, 103]

theorem goods_ok : goods.all (goodB Tryd.prog) = true := by kernel_rfl

noncomputable def K : Cfg := { P := Tryd.prog, pr := prF, keep := keepF, ownRet := ownB, good := goods.contains, hook := hookB }

theorem K_prog : Prog K := by
  refine ⟨by kernel_rfl, fun g hg => ?_, fun f F args bxs x _ hF hx => ?_⟩
  · have h1 : g ∈ goods := by simpa [K] using hg
    have h2 := List.all_eq_true.1 goods_ok g h1
    unfold goodB at h2
    split at h2
    · rename_i fn hfn
      simp only [Bool.and_eq_true] at h2
      obtain ⟨h3, h4⟩ := h2
      split at h4
      · rename_i c hc
        exact ⟨fn, c, hfn, by simpa using h3, hc, h4⟩
      · cases h4
    · cases h2
  · have h1 : ∀ y ∈ prL, ∀ args bxs x, y.2 args bxs = some x → Contract Tryd.prog y.1 args bxs (.ret x.1 x.2) := by
      intro y hy
      simp only [prL, List.mem_cons, List.not_mem_nil, or_false] at hy
      repeat' (first | (rcases hy with rfl | hy) | (cases hy))
      all_goals first
        | exact fun _ _ _ h => pContains_ok h
        | exact fun _ _ _ h => pHasPrefix_ok h
        | exact fun _ _ _ h => pIndexByte_ok h
        | exact fun _ _ _ h => pIndex_ok h
        | exact fun _ _ _ h => pIndexAny_ok h
        | exact fun _ _ _ h => pItoa_ok h
        | exact fun _ _ _ h => pJoin_ok h
        | exact fun _ _ _ h => pCopyCheck_ok h
        | exact fun _ _ _ h => pString_ok h
        | exact fun _ _ _ h => pLow_ok h
        | exact fun _ _ _ h => pPairs_ok h
        | exact fun _ _ _ h => pOpens_ok h
        | exact fun _ _ _ h => pParse_ok h
        | exact fun _ _ _ h => by cases h
    have h2 : prF f = some F := hF
    unfold prF at h2
    rw [Option.map_eq_some_iff] at h2
    obtain ⟨y, hy, rfl⟩ := h2
    have h3 := List.mem_of_find?_eq_some hy
    have h4 : y.1 = f := by simpa using List.find?_some hy
    rw [← h4]
    exact h1 y h3 args bxs x hx

end Go.Abs

namespace Go.Abs
open Go Go.Proofs
theorem ty_shapeT_0 : shapeT Tryd.prog 0 = Option.some Option.none := by kernel_rfl
theorem ty_szOf_0 : szOf Tryd.prog 0 = Option.some 1 := by kernel_rfl
theorem ty_isBoolT_0 : isBoolT Tryd.prog 0 = Bool.false := by kernel_rfl
theorem ty_isPtrT_0 : isPtrT Tryd.prog 0 = Bool.false := by kernel_rfl
theorem ty_concreteT_0 : concreteT Tryd.prog 0 = Bool.true := by kernel_rfl
theorem ty_isU8_0 : isU8 Tryd.prog 0 = Bool.false := by kernel_rfl
theorem ty_shapeT_1 : shapeT Tryd.prog 1 = Option.some Option.none := by kernel_rfl
theorem ty_szOf_1 : szOf Tryd.prog 1 = Option.some 1 := by kernel_rfl
theorem ty_zeroCells_1 : zeroCells Tryd.prog 1 = Option.some [Go.Abs.CV.top] := by kernel_rfl
theorem ty_isBoolT_1 : isBoolT Tryd.prog 1 = Bool.false := by kernel_rfl
theorem ty_isPtrT_1 : isPtrT Tryd.prog 1 = Bool.false := by kernel_rfl
theorem ty_concreteT_1 : concreteT Tryd.prog 1 = Bool.true := by kernel_rfl
theorem ty_isU8_1 : isU8 Tryd.prog 1 = Bool.false := by kernel_rfl
theorem ty_shapeT_2 : shapeT Tryd.prog 2 = Option.some Option.none := by kernel_rfl
theorem ty_szOf_2 : szOf Tryd.prog 2 = Option.some 1 := by kernel_rfl
theorem ty_zeroCells_2 : zeroCells Tryd.prog 2 = Option.some [Go.Abs.CV.pv (Go.Abs.PV.int Go.IntKind.i64 0)] := by kernel_rfl
theorem ty_descOf_2 : descOf Tryd.prog 2 = Option.some (Go.Abs.Desc.int Go.IntKind.i64) := by kernel_rfl
theorem ty_isBoolT_2 : isBoolT Tryd.prog 2 = Bool.false := by kernel_rfl
theorem ty_isPtrT_2 : isPtrT Tryd.prog 2 = Bool.false := by kernel_rfl
theorem ty_concreteT_2 : concreteT Tryd.prog 2 = Bool.true := by kernel_rfl
theorem ty_isU8_2 : isU8 Tryd.prog 2 = Bool.false := by kernel_rfl
theorem ty_tvZero_2 : tvZero Tryd.prog 2 = Option.some (Go.Abs.TV.c (Go.Abs.CV.pv (Go.Abs.PV.int Go.IntKind.i64 0))) := by kernel_rfl
theorem ty_shapeT_3 : shapeT Tryd.prog 3 = Option.some Option.none := by kernel_rfl
theorem ty_szOf_3 : szOf Tryd.prog 3 = Option.some 1 := by kernel_rfl
theorem ty_zeroCells_3 : zeroCells Tryd.prog 3 = Option.some [Go.Abs.CV.pv (Go.Abs.PV.int Go.IntKind.i64 0)] := by kernel_rfl
theorem ty_descOf_3 : descOf Tryd.prog 3 = Option.some (Go.Abs.Desc.int Go.IntKind.i64) := by kernel_rfl
theorem ty_isBoolT_3 : isBoolT Tryd.prog 3 = Bool.false := by kernel_rfl
theorem ty_isPtrT_3 : isPtrT Tryd.prog 3 = Bool.false := by kernel_rfl
theorem ty_concreteT_3 : concreteT Tryd.prog 3 = Bool.true := by kernel_rfl
theorem ty_isU8_3 : isU8 Tryd.prog 3 = Bool.false := by kernel_rfl
theorem ty_tvZero_3 : tvZero Tryd.prog 3 = Option.some (Go.Abs.TV.c (Go.Abs.CV.pv (Go.Abs.PV.int Go.IntKind.i64 0))) := by kernel_rfl
theorem ty_shapeT_4 : shapeT Tryd.prog 4 = Option.some Option.none := by kernel_rfl
theorem ty_szOf_4 : szOf Tryd.prog 4 = Option.some 1 := by kernel_rfl
theorem ty_zeroCells_4 : zeroCells Tryd.prog 4 = Option.some [Go.Abs.CV.pv (Go.Abs.PV.bool Bool.false)] := by kernel_rfl
theorem ty_isBoolT_4 : isBoolT Tryd.prog 4 = Bool.true := by kernel_rfl
theorem ty_isPtrT_4 : isPtrT Tryd.prog 4 = Bool.false := by kernel_rfl
theorem ty_concreteT_4 : concreteT Tryd.prog 4 = Bool.true := by kernel_rfl
theorem ty_isU8_4 : isU8 Tryd.prog 4 = Bool.false := by kernel_rfl
theorem ty_tvZero_4 : tvZero Tryd.prog 4 = Option.some (Go.Abs.TV.c (Go.Abs.CV.pv (Go.Abs.PV.bool Bool.false))) := by kernel_rfl
theorem ty_shapeT_5 : shapeT Tryd.prog 5 = Option.some Option.none := by kernel_rfl
theorem ty_szOf_5 : szOf Tryd.prog 5 = Option.some 1 := by kernel_rfl
theorem ty_zeroCells_5 : zeroCells Tryd.prog 5 = Option.some [Go.Abs.CV.pv (Go.Abs.PV.int Go.IntKind.u8 0)] := by kernel_rfl
theorem ty_descOf_5 : descOf Tryd.prog 5 = Option.some (Go.Abs.Desc.int Go.IntKind.u8) := by kernel_rfl
theorem ty_isBoolT_5 : isBoolT Tryd.prog 5 = Bool.false := by kernel_rfl
theorem ty_isPtrT_5 : isPtrT Tryd.prog 5 = Bool.false := by kernel_rfl
theorem ty_concreteT_5 : concreteT Tryd.prog 5 = Bool.true := by kernel_rfl
theorem ty_isU8_5 : isU8 Tryd.prog 5 = Bool.true := by kernel_rfl
theorem ty_tvZero_5 : tvZero Tryd.prog 5 = Option.some (Go.Abs.TV.c (Go.Abs.CV.pv (Go.Abs.PV.int Go.IntKind.u8 0))) := by kernel_rfl
theorem ty_shapeT_6 : shapeT Tryd.prog 6 = Option.some Option.none := by kernel_rfl
theorem ty_szOf_6 : szOf Tryd.prog 6 = Option.some 1 := by kernel_rfl
theorem ty_zeroCells_6 : zeroCells Tryd.prog 6 = Option.some [Go.Abs.CV.pv (Go.Abs.PV.int Go.IntKind.u8 0)] := by kernel_rfl
theorem ty_descOf_6 : descOf Tryd.prog 6 = Option.some (Go.Abs.Desc.int Go.IntKind.u8) := by kernel_rfl
theorem ty_isBoolT_6 : isBoolT Tryd.prog 6 = Bool.false := by kernel_rfl
theorem ty_isPtrT_6 : isPtrT Tryd.prog 6 = Bool.false := by kernel_rfl
theorem ty_concreteT_6 : concreteT Tryd.prog 6 = Bool.true := by kernel_rfl
theorem ty_isU8_6 : isU8 Tryd.prog 6 = Bool.true := by kernel_rfl
theorem ty_tvZero_6 : tvZero Tryd.prog 6 = Option.some (Go.Abs.TV.c (Go.Abs.CV.pv (Go.Abs.PV.int Go.IntKind.u8 0))) := by kernel_rfl
theorem ty_shapeT_7 : shapeT Tryd.prog 7 = Option.some (Option.some 4) := by kernel_rfl
theorem ty_szOf_7 : szOf Tryd.prog 7 = Option.some 4 := by kernel_rfl
theorem ty_zeroCells_7 : zeroCells Tryd.prog 7 = Option.some [Go.Abs.CV.pv (Go.Abs.PV.int Go.IntKind.i64 0), Go.Abs.CV.pv (Go.Abs.PV.int Go.IntKind.i64 0), Go.Abs.CV.pv (Go.Abs.PV.bool Bool.false), Go.Abs.CV.pv (Go.Abs.PV.int Go.IntKind.u8 0)] := by kernel_rfl
theorem ty_placesOf_7 : placesOf Tryd.prog 7 = Option.some [(0, 1), (1, 1), (2, 1), (3, 1)] := by kernel_rfl
theorem ty_isBoolT_7 : isBoolT Tryd.prog 7 = Bool.false := by kernel_rfl
theorem ty_isPtrT_7 : isPtrT Tryd.prog 7 = Bool.false := by kernel_rfl
theorem ty_concreteT_7 : concreteT Tryd.prog 7 = Bool.true := by kernel_rfl
theorem ty_isU8_7 : isU8 Tryd.prog 7 = Bool.false := by kernel_rfl
theorem ty_tvZero_7 : tvZero Tryd.prog 7 = Option.some (Go.Abs.TV.agg [Go.Abs.CV.pv (Go.Abs.PV.int Go.IntKind.i64 0), Go.Abs.CV.pv (Go.Abs.PV.int Go.IntKind.i64 0), Go.Abs.CV.pv (Go.Abs.PV.bool Bool.false), Go.Abs.CV.pv (Go.Abs.PV.int Go.IntKind.u8 0)]) := by kernel_rfl
theorem ty_fieldOff_7_0 : fieldOff Tryd.prog 7 0 = Option.some (0, 2) := by kernel_rfl
theorem ty_fieldOff_7_1 : fieldOff Tryd.prog 7 1 = Option.some (1, 3) := by kernel_rfl
theorem ty_fieldOff_7_2 : fieldOff Tryd.prog 7 2 = Option.some (2, 4) := by kernel_rfl
theorem ty_fieldOff_7_3 : fieldOff Tryd.prog 7 3 = Option.some (3, 6) := by kernel_rfl
theorem ty_shapeT_8 : shapeT Tryd.prog 8 = Option.some (Option.some 4) := by kernel_rfl
theorem ty_szOf_8 : szOf Tryd.prog 8 = Option.some 4 := by kernel_rfl
theorem ty_zeroCells_8 : zeroCells Tryd.prog 8 = Option.some [Go.Abs.CV.pv (Go.Abs.PV.int Go.IntKind.i64 0), Go.Abs.CV.pv (Go.Abs.PV.int Go.IntKind.i64 0), Go.Abs.CV.pv (Go.Abs.PV.bool Bool.false), Go.Abs.CV.pv (Go.Abs.PV.int Go.IntKind.u8 0)] := by kernel_rfl
theorem ty_placesOf_8 : placesOf Tryd.prog 8 = Option.some [(0, 1), (1, 1), (2, 1), (3, 1)] := by kernel_rfl
theorem ty_isBoolT_8 : isBoolT Tryd.prog 8 = Bool.false := by kernel_rfl
theorem ty_isPtrT_8 : isPtrT Tryd.prog 8 = Bool.false := by kernel_rfl
theorem ty_concreteT_8 : concreteT Tryd.prog 8 = Bool.true := by kernel_rfl
theorem ty_isU8_8 : isU8 Tryd.prog 8 = Bool.false := by kernel_rfl
theorem ty_tvZero_8 : tvZero Tryd.prog 8 = Option.some (Go.Abs.TV.agg [Go.Abs.CV.pv (Go.Abs.PV.int Go.IntKind.i64 0), Go.Abs.CV.pv (Go.Abs.PV.int Go.IntKind.i64 0), Go.Abs.CV.pv (Go.Abs.PV.bool Bool.false), Go.Abs.CV.pv (Go.Abs.PV.int Go.IntKind.u8 0)]) := by kernel_rfl
theorem ty_fieldOff_8_0 : fieldOff Tryd.prog 8 0 = Option.some (0, 2) := by kernel_rfl
theorem ty_fieldOff_8_1 : fieldOff Tryd.prog 8 1 = Option.some (1, 3) := by kernel_rfl
theorem ty_fieldOff_8_2 : fieldOff Tryd.prog 8 2 = Option.some (2, 4) := by kernel_rfl
theorem ty_fieldOff_8_3 : fieldOff Tryd.prog 8 3 = Option.some (3, 6) := by kernel_rfl
theorem ty_shapeT_9 : shapeT Tryd.prog 9 = Option.some Option.none := by kernel_rfl
theorem ty_szOf_9 : szOf Tryd.prog 9 = Option.some 1 := by kernel_rfl
theorem ty_zeroCells_9 : zeroCells Tryd.prog 9 = Option.some [Go.Abs.CV.pv (Go.Abs.PV.str [])] := by kernel_rfl
theorem ty_descOf_9 : descOf Tryd.prog 9 = Option.some Go.Abs.Desc.str := by kernel_rfl
theorem ty_isBoolT_9 : isBoolT Tryd.prog 9 = Bool.false := by kernel_rfl
theorem ty_isPtrT_9 : isPtrT Tryd.prog 9 = Bool.false := by kernel_rfl
theorem ty_concreteT_9 : concreteT Tryd.prog 9 = Bool.true := by kernel_rfl
theorem ty_isU8_9 : isU8 Tryd.prog 9 = Bool.false := by kernel_rfl
theorem ty_tvZero_9 : tvZero Tryd.prog 9 = Option.some (Go.Abs.TV.c (Go.Abs.CV.pv (Go.Abs.PV.str []))) := by kernel_rfl
theorem ty_shapeT_10 : shapeT Tryd.prog 10 = Option.some Option.none := by kernel_rfl
theorem ty_szOf_10 : szOf Tryd.prog 10 = Option.some 1 := by kernel_rfl
theorem ty_zeroCells_10 : zeroCells Tryd.prog 10 = Option.some [Go.Abs.CV.pv (Go.Abs.PV.str [])] := by kernel_rfl
theorem ty_descOf_10 : descOf Tryd.prog 10 = Option.some Go.Abs.Desc.str := by kernel_rfl
theorem ty_isBoolT_10 : isBoolT Tryd.prog 10 = Bool.false := by kernel_rfl
theorem ty_isPtrT_10 : isPtrT Tryd.prog 10 = Bool.false := by kernel_rfl
theorem ty_concreteT_10 : concreteT Tryd.prog 10 = Bool.true := by kernel_rfl
theorem ty_isU8_10 : isU8 Tryd.prog 10 = Bool.false := by kernel_rfl
theorem ty_tvZero_10 : tvZero Tryd.prog 10 = Option.some (Go.Abs.TV.c (Go.Abs.CV.pv (Go.Abs.PV.str []))) := by kernel_rfl
theorem ty_shapeT_11 : shapeT Tryd.prog 11 = Option.some Option.none := by kernel_rfl
theorem ty_szOf_11 : szOf Tryd.prog 11 = Option.some 1 := by kernel_rfl
theorem ty_zeroCells_11 : zeroCells Tryd.prog 11 = Option.some [Go.Abs.CV.pv (Go.Abs.PV.str [])] := by kernel_rfl
theorem ty_descOf_11 : descOf Tryd.prog 11 = Option.some Go.Abs.Desc.str := by kernel_rfl
theorem ty_isBoolT_11 : isBoolT Tryd.prog 11 = Bool.false := by kernel_rfl
theorem ty_isPtrT_11 : isPtrT Tryd.prog 11 = Bool.false := by kernel_rfl
theorem ty_concreteT_11 : concreteT Tryd.prog 11 = Bool.true := by kernel_rfl
theorem ty_isU8_11 : isU8 Tryd.prog 11 = Bool.false := by kernel_rfl
theorem ty_tvZero_11 : tvZero Tryd.prog 11 = Option.some (Go.Abs.TV.c (Go.Abs.CV.pv (Go.Abs.PV.str []))) := by kernel_rfl
theorem ty_shapeT_12 : shapeT Tryd.prog 12 = Option.some Option.none := by kernel_rfl
theorem ty_szOf_12 : szOf Tryd.prog 12 = Option.some 1 := by kernel_rfl
theorem ty_zeroCells_12 : zeroCells Tryd.prog 12 = Option.some [Go.Abs.CV.pv (Go.Abs.PV.int Go.IntKind.u64 0)] := by kernel_rfl
theorem ty_descOf_12 : descOf Tryd.prog 12 = Option.some (Go.Abs.Desc.int Go.IntKind.u64) := by kernel_rfl
theorem ty_isBoolT_12 : isBoolT Tryd.prog 12 = Bool.false := by kernel_rfl
theorem ty_isPtrT_12 : isPtrT Tryd.prog 12 = Bool.false := by kernel_rfl
theorem ty_concreteT_12 : concreteT Tryd.prog 12 = Bool.true := by kernel_rfl
theorem ty_isU8_12 : isU8 Tryd.prog 12 = Bool.false := by kernel_rfl
theorem ty_tvZero_12 : tvZero Tryd.prog 12 = Option.some (Go.Abs.TV.c (Go.Abs.CV.pv (Go.Abs.PV.int Go.IntKind.u64 0))) := by kernel_rfl
theorem ty_shapeT_13 : shapeT Tryd.prog 13 = Option.some (Option.some 2) := by kernel_rfl
theorem ty_szOf_13 : szOf Tryd.prog 13 = Option.some 2 := by kernel_rfl
theorem ty_zeroCells_13 : zeroCells Tryd.prog 13 = Option.some [Go.Abs.CV.pv (Go.Abs.PV.str []), Go.Abs.CV.pv (Go.Abs.PV.int Go.IntKind.u64 0)] := by kernel_rfl
theorem ty_placesOf_13 : placesOf Tryd.prog 13 = Option.some [(0, 1), (1, 1)] := by kernel_rfl
theorem ty_isBoolT_13 : isBoolT Tryd.prog 13 = Bool.false := by kernel_rfl
theorem ty_isPtrT_13 : isPtrT Tryd.prog 13 = Bool.false := by kernel_rfl
theorem ty_concreteT_13 : concreteT Tryd.prog 13 = Bool.true := by kernel_rfl
theorem ty_isU8_13 : isU8 Tryd.prog 13 = Bool.false := by kernel_rfl
theorem ty_tvZero_13 : tvZero Tryd.prog 13 = Option.some (Go.Abs.TV.agg [Go.Abs.CV.pv (Go.Abs.PV.str []), Go.Abs.CV.pv (Go.Abs.PV.int Go.IntKind.u64 0)]) := by kernel_rfl
theorem ty_fieldOff_13_0 : fieldOff Tryd.prog 13 0 = Option.some (0, 9) := by kernel_rfl
theorem ty_fieldOff_13_1 : fieldOff Tryd.prog 13 1 = Option.some (1, 12) := by kernel_rfl
theorem ty_shapeT_14 : shapeT Tryd.prog 14 = Option.some (Option.some 2) := by kernel_rfl
theorem ty_szOf_14 : szOf Tryd.prog 14 = Option.some 2 := by kernel_rfl
theorem ty_zeroCells_14 : zeroCells Tryd.prog 14 = Option.some [Go.Abs.CV.pv (Go.Abs.PV.str []), Go.Abs.CV.pv (Go.Abs.PV.int Go.IntKind.u64 0)] := by kernel_rfl
theorem ty_placesOf_14 : placesOf Tryd.prog 14 = Option.some [(0, 1), (1, 1)] := by kernel_rfl
theorem ty_isBoolT_14 : isBoolT Tryd.prog 14 = Bool.false := by kernel_rfl
theorem ty_isPtrT_14 : isPtrT Tryd.prog 14 = Bool.false := by kernel_rfl
theorem ty_concreteT_14 : concreteT Tryd.prog 14 = Bool.true := by kernel_rfl
theorem ty_isU8_14 : isU8 Tryd.prog 14 = Bool.false := by kernel_rfl
theorem ty_tvZero_14 : tvZero Tryd.prog 14 = Option.some (Go.Abs.TV.agg [Go.Abs.CV.pv (Go.Abs.PV.str []), Go.Abs.CV.pv (Go.Abs.PV.int Go.IntKind.u64 0)]) := by kernel_rfl
theorem ty_fieldOff_14_0 : fieldOff Tryd.prog 14 0 = Option.some (0, 9) := by kernel_rfl
theorem ty_fieldOff_14_1 : fieldOff Tryd.prog 14 1 = Option.some (1, 12) := by kernel_rfl
theorem ty_shapeT_15 : shapeT Tryd.prog 15 = Option.some Option.none := by kernel_rfl
theorem ty_szOf_15 : szOf Tryd.prog 15 = Option.some 1 := by kernel_rfl
theorem ty_zeroCells_15 : zeroCells Tryd.prog 15 = Option.some [Go.Abs.CV.nilp] := by kernel_rfl
theorem ty_isBoolT_15 : isBoolT Tryd.prog 15 = Bool.false := by kernel_rfl
theorem ty_isPtrT_15 : isPtrT Tryd.prog 15 = Bool.true := by kernel_rfl
theorem ty_concreteT_15 : concreteT Tryd.prog 15 = Bool.true := by kernel_rfl
theorem ty_isU8_15 : isU8 Tryd.prog 15 = Bool.false := by kernel_rfl
theorem ty_tvZero_15 : tvZero Tryd.prog 15 = Option.some (Go.Abs.TV.c Go.Abs.CV.nilp) := by kernel_rfl
theorem ty_shapeT_16 : shapeT Tryd.prog 16 = Option.some Option.none := by kernel_rfl
theorem ty_szOf_16 : szOf Tryd.prog 16 = Option.some 1 := by kernel_rfl
theorem ty_zeroCells_16 : zeroCells Tryd.prog 16 = Option.some [Go.Abs.CV.nilp] := by kernel_rfl
theorem ty_isBoolT_16 : isBoolT Tryd.prog 16 = Bool.false := by kernel_rfl
theorem ty_isPtrT_16 : isPtrT Tryd.prog 16 = Bool.true := by kernel_rfl
theorem ty_concreteT_16 : concreteT Tryd.prog 16 = Bool.true := by kernel_rfl
theorem ty_isU8_16 : isU8 Tryd.prog 16 = Bool.false := by kernel_rfl
theorem ty_tvZero_16 : tvZero Tryd.prog 16 = Option.some (Go.Abs.TV.c Go.Abs.CV.nilp) := by kernel_rfl
theorem ty_shapeT_17 : shapeT Tryd.prog 17 = Option.some Option.none := by kernel_rfl
theorem ty_szOf_17 : szOf Tryd.prog 17 = Option.some 1 := by kernel_rfl
theorem ty_zeroCells_17 : zeroCells Tryd.prog 17 = Option.some [Go.Abs.CV.nilp] := by kernel_rfl
theorem ty_isBoolT_17 : isBoolT Tryd.prog 17 = Bool.false := by kernel_rfl
theorem ty_isPtrT_17 : isPtrT Tryd.prog 17 = Bool.true := by kernel_rfl
theorem ty_concreteT_17 : concreteT Tryd.prog 17 = Bool.true := by kernel_rfl
theorem ty_isU8_17 : isU8 Tryd.prog 17 = Bool.false := by kernel_rfl
theorem ty_tvZero_17 : tvZero Tryd.prog 17 = Option.some (Go.Abs.TV.c Go.Abs.CV.nilp) := by kernel_rfl
theorem ty_shapeT_18 : shapeT Tryd.prog 18 = Option.some (Option.some 1) := by kernel_rfl
theorem ty_szOf_18 : szOf Tryd.prog 18 = Option.some 1 := by kernel_rfl
theorem ty_zeroCells_18 : zeroCells Tryd.prog 18 = Option.some [Go.Abs.CV.nilp] := by kernel_rfl
theorem ty_placesOf_18 : placesOf Tryd.prog 18 = Option.some [(0, 1)] := by kernel_rfl
theorem ty_isBoolT_18 : isBoolT Tryd.prog 18 = Bool.false := by kernel_rfl
theorem ty_isPtrT_18 : isPtrT Tryd.prog 18 = Bool.false := by kernel_rfl
theorem ty_concreteT_18 : concreteT Tryd.prog 18 = Bool.true := by kernel_rfl
theorem ty_isU8_18 : isU8 Tryd.prog 18 = Bool.false := by kernel_rfl
theorem ty_tvZero_18 : tvZero Tryd.prog 18 = Option.some (Go.Abs.TV.agg [Go.Abs.CV.nilp]) := by kernel_rfl
theorem ty_fieldOff_18_0 : fieldOff Tryd.prog 18 0 = Option.some (0, 17) := by kernel_rfl
theorem ty_shapeT_19 : shapeT Tryd.prog 19 = Option.some (Option.some 1) := by kernel_rfl
theorem ty_szOf_19 : szOf Tryd.prog 19 = Option.some 1 := by kernel_rfl
theorem ty_zeroCells_19 : zeroCells Tryd.prog 19 = Option.some [Go.Abs.CV.nilp] := by kernel_rfl
theorem ty_placesOf_19 : placesOf Tryd.prog 19 = Option.some [(0, 1)] := by kernel_rfl
theorem ty_isBoolT_19 : isBoolT Tryd.prog 19 = Bool.false := by kernel_rfl
theorem ty_isPtrT_19 : isPtrT Tryd.prog 19 = Bool.false := by kernel_rfl
theorem ty_concreteT_19 : concreteT Tryd.prog 19 = Bool.true := by kernel_rfl
theorem ty_isU8_19 : isU8 Tryd.prog 19 = Bool.false := by kernel_rfl
theorem ty_tvZero_19 : tvZero Tryd.prog 19 = Option.some (Go.Abs.TV.agg [Go.Abs.CV.nilp]) := by kernel_rfl
theorem ty_fieldOff_19_0 : fieldOff Tryd.prog 19 0 = Option.some (0, 17) := by kernel_rfl
theorem ty_shapeT_20 : shapeT Tryd.prog 20 = Option.some Option.none := by kernel_rfl
theorem ty_szOf_20 : szOf Tryd.prog 20 = Option.some 1 := by kernel_rfl
theorem ty_zeroCells_20 : zeroCells Tryd.prog 20 = Option.some [Go.Abs.CV.pv Go.Abs.PV.nilifc] := by kernel_rfl
theorem ty_isBoolT_20 : isBoolT Tryd.prog 20 = Bool.false := by kernel_rfl
theorem ty_isPtrT_20 : isPtrT Tryd.prog 20 = Bool.false := by kernel_rfl
theorem ty_concreteT_20 : concreteT Tryd.prog 20 = Bool.false := by kernel_rfl
theorem ty_isU8_20 : isU8 Tryd.prog 20 = Bool.false := by kernel_rfl
theorem ty_tvZero_20 : tvZero Tryd.prog 20 = Option.some (Go.Abs.TV.c (Go.Abs.CV.pv Go.Abs.PV.nilifc)) := by kernel_rfl
theorem ty_shapeT_21 : shapeT Tryd.prog 21 = Option.some Option.none := by kernel_rfl
theorem ty_szOf_21 : szOf Tryd.prog 21 = Option.some 1 := by kernel_rfl
theorem ty_zeroCells_21 : zeroCells Tryd.prog 21 = Option.some [Go.Abs.CV.pv (Go.Abs.PV.int Go.IntKind.i32 0)] := by kernel_rfl
theorem ty_descOf_21 : descOf Tryd.prog 21 = Option.some (Go.Abs.Desc.int Go.IntKind.i32) := by kernel_rfl
theorem ty_isBoolT_21 : isBoolT Tryd.prog 21 = Bool.false := by kernel_rfl
theorem ty_isPtrT_21 : isPtrT Tryd.prog 21 = Bool.false := by kernel_rfl
theorem ty_concreteT_21 : concreteT Tryd.prog 21 = Bool.true := by kernel_rfl
theorem ty_isU8_21 : isU8 Tryd.prog 21 = Bool.false := by kernel_rfl
theorem ty_tvZero_21 : tvZero Tryd.prog 21 = Option.some (Go.Abs.TV.c (Go.Abs.CV.pv (Go.Abs.PV.int Go.IntKind.i32 0))) := by kernel_rfl
theorem ty_shapeT_22 : shapeT Tryd.prog 22 = Option.some Option.none := by kernel_rfl
theorem ty_szOf_22 : szOf Tryd.prog 22 = Option.some 1 := by kernel_rfl
theorem ty_zeroCells_22 : zeroCells Tryd.prog 22 = Option.some [Go.Abs.CV.nils] := by kernel_rfl
theorem ty_appInfo_22 : appInfo Tryd.prog 22 = Option.some (38, 3) := by kernel_rfl
theorem ty_descOf_22 : descOf Tryd.prog 22 = Option.some (Go.Abs.Desc.sl 38 Bool.false) := by kernel_rfl
theorem ty_isBoolT_22 : isBoolT Tryd.prog 22 = Bool.false := by kernel_rfl
theorem ty_isPtrT_22 : isPtrT Tryd.prog 22 = Bool.false := by kernel_rfl
theorem ty_concreteT_22 : concreteT Tryd.prog 22 = Bool.true := by kernel_rfl
theorem ty_isU8_22 : isU8 Tryd.prog 22 = Bool.false := by kernel_rfl
theorem ty_tvZero_22 : tvZero Tryd.prog 22 = Option.some (Go.Abs.TV.c Go.Abs.CV.nils) := by kernel_rfl
theorem ty_shapeT_23 : shapeT Tryd.prog 23 = Option.some Option.none := by kernel_rfl
theorem ty_szOf_23 : szOf Tryd.prog 23 = Option.some 1 := by kernel_rfl
theorem ty_zeroCells_23 : zeroCells Tryd.prog 23 = Option.some [Go.Abs.CV.nils] := by kernel_rfl
theorem ty_appInfo_23 : appInfo Tryd.prog 23 = Option.some (40, 5) := by kernel_rfl
theorem ty_descOf_23 : descOf Tryd.prog 23 = Option.some (Go.Abs.Desc.sl 40 Bool.false) := by kernel_rfl
theorem ty_isBoolT_23 : isBoolT Tryd.prog 23 = Bool.false := by kernel_rfl
theorem ty_isPtrT_23 : isPtrT Tryd.prog 23 = Bool.false := by kernel_rfl
theorem ty_concreteT_23 : concreteT Tryd.prog 23 = Bool.true := by kernel_rfl
theorem ty_isU8_23 : isU8 Tryd.prog 23 = Bool.false := by kernel_rfl
theorem ty_tvZero_23 : tvZero Tryd.prog 23 = Option.some (Go.Abs.TV.c Go.Abs.CV.nils) := by kernel_rfl
theorem ty_shapeT_24 : shapeT Tryd.prog 24 = Option.some Option.none := by kernel_rfl
theorem ty_szOf_24 : szOf Tryd.prog 24 = Option.some 1 := by kernel_rfl
theorem ty_zeroCells_24 : zeroCells Tryd.prog 24 = Option.some [Go.Abs.CV.top] := by kernel_rfl
theorem ty_isBoolT_24 : isBoolT Tryd.prog 24 = Bool.false := by kernel_rfl
theorem ty_isPtrT_24 : isPtrT Tryd.prog 24 = Bool.false := by kernel_rfl
theorem ty_concreteT_24 : concreteT Tryd.prog 24 = Bool.true := by kernel_rfl
theorem ty_isU8_24 : isU8 Tryd.prog 24 = Bool.false := by kernel_rfl
theorem ty_shapeT_25 : shapeT Tryd.prog 25 = Option.some Option.none := by kernel_rfl
theorem ty_szOf_25 : szOf Tryd.prog 25 = Option.some 1 := by kernel_rfl
theorem ty_zeroCells_25 : zeroCells Tryd.prog 25 = Option.some [Go.Abs.CV.top] := by kernel_rfl
theorem ty_isBoolT_25 : isBoolT Tryd.prog 25 = Bool.false := by kernel_rfl
theorem ty_isPtrT_25 : isPtrT Tryd.prog 25 = Bool.false := by kernel_rfl
theorem ty_concreteT_25 : concreteT Tryd.prog 25 = Bool.true := by kernel_rfl
theorem ty_isU8_25 : isU8 Tryd.prog 25 = Bool.false := by kernel_rfl
theorem ty_shapeT_26 : shapeT Tryd.prog 26 = Option.some Option.none := by kernel_rfl
theorem ty_szOf_26 : szOf Tryd.prog 26 = Option.some 1 := by kernel_rfl
theorem ty_zeroCells_26 : zeroCells Tryd.prog 26 = Option.some [Go.Abs.CV.top] := by kernel_rfl
theorem ty_isBoolT_26 : isBoolT Tryd.prog 26 = Bool.false := by kernel_rfl
theorem ty_isPtrT_26 : isPtrT Tryd.prog 26 = Bool.false := by kernel_rfl
theorem ty_concreteT_26 : concreteT Tryd.prog 26 = Bool.true := by kernel_rfl
theorem ty_isU8_26 : isU8 Tryd.prog 26 = Bool.false := by kernel_rfl
theorem ty_shapeT_27 : shapeT Tryd.prog 27 = Option.some Option.none := by kernel_rfl
theorem ty_szOf_27 : szOf Tryd.prog 27 = Option.some 1 := by kernel_rfl
theorem ty_zeroCells_27 : zeroCells Tryd.prog 27 = Option.some [Go.Abs.CV.pv (Go.Abs.PV.int Go.IntKind.i64 0)] := by kernel_rfl
theorem ty_descOf_27 : descOf Tryd.prog 27 = Option.some (Go.Abs.Desc.int Go.IntKind.i64) := by kernel_rfl
theorem ty_isBoolT_27 : isBoolT Tryd.prog 27 = Bool.false := by kernel_rfl
theorem ty_isPtrT_27 : isPtrT Tryd.prog 27 = Bool.false := by kernel_rfl
theorem ty_concreteT_27 : concreteT Tryd.prog 27 = Bool.true := by kernel_rfl
theorem ty_isU8_27 : isU8 Tryd.prog 27 = Bool.false := by kernel_rfl
theorem ty_tvZero_27 : tvZero Tryd.prog 27 = Option.some (Go.Abs.TV.c (Go.Abs.CV.pv (Go.Abs.PV.int Go.IntKind.i64 0))) := by kernel_rfl
theorem ty_shapeT_28 : shapeT Tryd.prog 28 = Option.some Option.none := by kernel_rfl
theorem ty_szOf_28 : szOf Tryd.prog 28 = Option.some 1 := by kernel_rfl
theorem ty_isBoolT_28 : isBoolT Tryd.prog 28 = Bool.false := by kernel_rfl
theorem ty_isPtrT_28 : isPtrT Tryd.prog 28 = Bool.false := by kernel_rfl
theorem ty_concreteT_28 : concreteT Tryd.prog 28 = Bool.true := by kernel_rfl
theorem ty_isU8_28 : isU8 Tryd.prog 28 = Bool.false := by kernel_rfl
theorem ty_shapeT_29 : shapeT Tryd.prog 29 = Option.some Option.none := by kernel_rfl
theorem ty_szOf_29 : szOf Tryd.prog 29 = Option.some 1 := by kernel_rfl
theorem ty_zeroCells_29 : zeroCells Tryd.prog 29 = Option.some [Go.Abs.CV.top] := by kernel_rfl
theorem ty_isBoolT_29 : isBoolT Tryd.prog 29 = Bool.false := by kernel_rfl
theorem ty_isPtrT_29 : isPtrT Tryd.prog 29 = Bool.false := by kernel_rfl
theorem ty_concreteT_29 : concreteT Tryd.prog 29 = Bool.true := by kernel_rfl
theorem ty_isU8_29 : isU8 Tryd.prog 29 = Bool.false := by kernel_rfl
theorem ty_shapeT_30 : shapeT Tryd.prog 30 = Option.some Option.none := by kernel_rfl
theorem ty_szOf_30 : szOf Tryd.prog 30 = Option.some 1 := by kernel_rfl
theorem ty_zeroCells_30 : zeroCells Tryd.prog 30 = Option.some [Go.Abs.CV.top] := by kernel_rfl
theorem ty_isBoolT_30 : isBoolT Tryd.prog 30 = Bool.false := by kernel_rfl
theorem ty_isPtrT_30 : isPtrT Tryd.prog 30 = Bool.false := by kernel_rfl
theorem ty_concreteT_30 : concreteT Tryd.prog 30 = Bool.true := by kernel_rfl
theorem ty_isU8_30 : isU8 Tryd.prog 30 = Bool.false := by kernel_rfl
theorem ty_shapeT_31 : shapeT Tryd.prog 31 = Option.some Option.none := by kernel_rfl
theorem ty_szOf_31 : szOf Tryd.prog 31 = Option.some 1 := by kernel_rfl
theorem ty_zeroCells_31 : zeroCells Tryd.prog 31 = Option.some [Go.Abs.CV.top] := by kernel_rfl
theorem ty_isBoolT_31 : isBoolT Tryd.prog 31 = Bool.false := by kernel_rfl
theorem ty_isPtrT_31 : isPtrT Tryd.prog 31 = Bool.false := by kernel_rfl
theorem ty_concreteT_31 : concreteT Tryd.prog 31 = Bool.true := by kernel_rfl
theorem ty_isU8_31 : isU8 Tryd.prog 31 = Bool.false := by kernel_rfl
theorem ty_shapeT_32 : shapeT Tryd.prog 32 = Option.some Option.none := by kernel_rfl
theorem ty_szOf_32 : szOf Tryd.prog 32 = Option.some 1 := by kernel_rfl
theorem ty_zeroCells_32 : zeroCells Tryd.prog 32 = Option.some [Go.Abs.CV.top] := by kernel_rfl
theorem ty_isBoolT_32 : isBoolT Tryd.prog 32 = Bool.false := by kernel_rfl
theorem ty_isPtrT_32 : isPtrT Tryd.prog 32 = Bool.false := by kernel_rfl
theorem ty_concreteT_32 : concreteT Tryd.prog 32 = Bool.true := by kernel_rfl
theorem ty_isU8_32 : isU8 Tryd.prog 32 = Bool.false := by kernel_rfl
theorem ty_shapeT_33 : shapeT Tryd.prog 33 = Option.some Option.none := by kernel_rfl
theorem ty_szOf_33 : szOf Tryd.prog 33 = Option.some 1 := by kernel_rfl
theorem ty_zeroCells_33 : zeroCells Tryd.prog 33 = Option.some [Go.Abs.CV.top] := by kernel_rfl
theorem ty_isBoolT_33 : isBoolT Tryd.prog 33 = Bool.false := by kernel_rfl
theorem ty_isPtrT_33 : isPtrT Tryd.prog 33 = Bool.false := by kernel_rfl
theorem ty_concreteT_33 : concreteT Tryd.prog 33 = Bool.true := by kernel_rfl
theorem ty_isU8_33 : isU8 Tryd.prog 33 = Bool.false := by kernel_rfl
theorem ty_shapeT_34 : shapeT Tryd.prog 34 = Option.some Option.none := by kernel_rfl
theorem ty_szOf_34 : szOf Tryd.prog 34 = Option.some 1 := by kernel_rfl
theorem ty_zeroCells_34 : zeroCells Tryd.prog 34 = Option.some [Go.Abs.CV.top] := by kernel_rfl
theorem ty_isBoolT_34 : isBoolT Tryd.prog 34 = Bool.false := by kernel_rfl
theorem ty_isPtrT_34 : isPtrT Tryd.prog 34 = Bool.false := by kernel_rfl
theorem ty_concreteT_34 : concreteT Tryd.prog 34 = Bool.true := by kernel_rfl
theorem ty_isU8_34 : isU8 Tryd.prog 34 = Bool.false := by kernel_rfl
theorem ty_shapeT_35 : shapeT Tryd.prog 35 = Option.some Option.none := by kernel_rfl
theorem ty_szOf_35 : szOf Tryd.prog 35 = Option.some 1 := by kernel_rfl
theorem ty_zeroCells_35 : zeroCells Tryd.prog 35 = Option.some [Go.Abs.CV.top] := by kernel_rfl
theorem ty_isBoolT_35 : isBoolT Tryd.prog 35 = Bool.false := by kernel_rfl
theorem ty_isPtrT_35 : isPtrT Tryd.prog 35 = Bool.false := by kernel_rfl
theorem ty_concreteT_35 : concreteT Tryd.prog 35 = Bool.true := by kernel_rfl
theorem ty_isU8_35 : isU8 Tryd.prog 35 = Bool.false := by kernel_rfl
theorem ty_shapeT_36 : shapeT Tryd.prog 36 = Option.some Option.none := by kernel_rfl
theorem ty_szOf_36 : szOf Tryd.prog 36 = Option.some 1 := by kernel_rfl
theorem ty_zeroCells_36 : zeroCells Tryd.prog 36 = Option.some [Go.Abs.CV.top] := by kernel_rfl
theorem ty_isBoolT_36 : isBoolT Tryd.prog 36 = Bool.false := by kernel_rfl
theorem ty_isPtrT_36 : isPtrT Tryd.prog 36 = Bool.false := by kernel_rfl
theorem ty_concreteT_36 : concreteT Tryd.prog 36 = Bool.true := by kernel_rfl
theorem ty_isU8_36 : isU8 Tryd.prog 36 = Bool.false := by kernel_rfl
theorem ty_shapeT_37 : shapeT Tryd.prog 37 = Option.some (Option.some 3) := by kernel_rfl
theorem ty_szOf_37 : szOf Tryd.prog 37 = Option.some 3 := by kernel_rfl
theorem ty_zeroCells_37 : zeroCells Tryd.prog 37 = Option.some [Go.Abs.CV.pv (Go.Abs.PV.int Go.IntKind.i64 0), Go.Abs.CV.pv (Go.Abs.PV.str []), Go.Abs.CV.pv (Go.Abs.PV.int Go.IntKind.i64 0)] := by kernel_rfl
theorem ty_placesOf_37 : placesOf Tryd.prog 37 = Option.some [(0, 1), (1, 1), (2, 1)] := by kernel_rfl
theorem ty_isBoolT_37 : isBoolT Tryd.prog 37 = Bool.false := by kernel_rfl
theorem ty_isPtrT_37 : isPtrT Tryd.prog 37 = Bool.false := by kernel_rfl
theorem ty_concreteT_37 : concreteT Tryd.prog 37 = Bool.true := by kernel_rfl
theorem ty_isU8_37 : isU8 Tryd.prog 37 = Bool.false := by kernel_rfl
theorem ty_tvZero_37 : tvZero Tryd.prog 37 = Option.some (Go.Abs.TV.agg [Go.Abs.CV.pv (Go.Abs.PV.int Go.IntKind.i64 0), Go.Abs.CV.pv (Go.Abs.PV.str []), Go.Abs.CV.pv (Go.Abs.PV.int Go.IntKind.i64 0)]) := by kernel_rfl
theorem ty_fieldOff_37_0 : fieldOff Tryd.prog 37 0 = Option.some (0, 3) := by kernel_rfl
theorem ty_fieldOff_37_1 : fieldOff Tryd.prog 37 1 = Option.some (1, 9) := by kernel_rfl
theorem ty_fieldOff_37_2 : fieldOff Tryd.prog 37 2 = Option.some (2, 3) := by kernel_rfl
theorem ty_shapeT_38 : shapeT Tryd.prog 38 = Option.some (Option.some 3) := by kernel_rfl
theorem ty_szOf_38 : szOf Tryd.prog 38 = Option.some 3 := by kernel_rfl
theorem ty_zeroCells_38 : zeroCells Tryd.prog 38 = Option.some [Go.Abs.CV.pv (Go.Abs.PV.int Go.IntKind.i64 0), Go.Abs.CV.pv (Go.Abs.PV.str []), Go.Abs.CV.pv (Go.Abs.PV.int Go.IntKind.i64 0)] := by kernel_rfl
theorem ty_placesOf_38 : placesOf Tryd.prog 38 = Option.some [(0, 1), (1, 1), (2, 1)] := by kernel_rfl
theorem ty_isBoolT_38 : isBoolT Tryd.prog 38 = Bool.false := by kernel_rfl
theorem ty_isPtrT_38 : isPtrT Tryd.prog 38 = Bool.false := by kernel_rfl
theorem ty_concreteT_38 : concreteT Tryd.prog 38 = Bool.true := by kernel_rfl
theorem ty_isU8_38 : isU8 Tryd.prog 38 = Bool.false := by kernel_rfl
theorem ty_tvZero_38 : tvZero Tryd.prog 38 = Option.some (Go.Abs.TV.agg [Go.Abs.CV.pv (Go.Abs.PV.int Go.IntKind.i64 0), Go.Abs.CV.pv (Go.Abs.PV.str []), Go.Abs.CV.pv (Go.Abs.PV.int Go.IntKind.i64 0)]) := by kernel_rfl
theorem ty_fieldOff_38_0 : fieldOff Tryd.prog 38 0 = Option.some (0, 3) := by kernel_rfl
theorem ty_fieldOff_38_1 : fieldOff Tryd.prog 38 1 = Option.some (1, 9) := by kernel_rfl
theorem ty_fieldOff_38_2 : fieldOff Tryd.prog 38 2 = Option.some (2, 3) := by kernel_rfl
theorem ty_shapeT_39 : shapeT Tryd.prog 39 = Option.some (Option.some 5) := by kernel_rfl
theorem ty_szOf_39 : szOf Tryd.prog 39 = Option.some 5 := by kernel_rfl
theorem ty_zeroCells_39 : zeroCells Tryd.prog 39 = Option.some [Go.Abs.CV.pv (Go.Abs.PV.int Go.IntKind.i64 0), Go.Abs.CV.pv (Go.Abs.PV.int Go.IntKind.i64 0), Go.Abs.CV.pv (Go.Abs.PV.str []), Go.Abs.CV.pv (Go.Abs.PV.int Go.IntKind.i64 0), Go.Abs.CV.nils] := by kernel_rfl
theorem ty_placesOf_39 : placesOf Tryd.prog 39 = Option.some [(0, 1), (1, 3), (4, 1)] := by kernel_rfl
theorem ty_isBoolT_39 : isBoolT Tryd.prog 39 = Bool.false := by kernel_rfl
theorem ty_isPtrT_39 : isPtrT Tryd.prog 39 = Bool.false := by kernel_rfl
theorem ty_concreteT_39 : concreteT Tryd.prog 39 = Bool.true := by kernel_rfl
theorem ty_isU8_39 : isU8 Tryd.prog 39 = Bool.false := by kernel_rfl
theorem ty_tvZero_39 : tvZero Tryd.prog 39 = Option.some (Go.Abs.TV.agg [Go.Abs.CV.pv (Go.Abs.PV.int Go.IntKind.i64 0), Go.Abs.CV.pv (Go.Abs.PV.int Go.IntKind.i64 0), Go.Abs.CV.pv (Go.Abs.PV.str []), Go.Abs.CV.pv (Go.Abs.PV.int Go.IntKind.i64 0), Go.Abs.CV.nils]) := by kernel_rfl
theorem ty_fieldOff_39_0 : fieldOff Tryd.prog 39 0 = Option.some (0, 3) := by kernel_rfl
theorem ty_fieldOff_39_1 : fieldOff Tryd.prog 39 1 = Option.some (1, 38) := by kernel_rfl
theorem ty_fieldOff_39_2 : fieldOff Tryd.prog 39 2 = Option.some (4, 23) := by kernel_rfl
theorem ty_shapeT_40 : shapeT Tryd.prog 40 = Option.some (Option.some 5) := by kernel_rfl
theorem ty_szOf_40 : szOf Tryd.prog 40 = Option.some 5 := by kernel_rfl
theorem ty_zeroCells_40 : zeroCells Tryd.prog 40 = Option.some [Go.Abs.CV.pv (Go.Abs.PV.int Go.IntKind.i64 0), Go.Abs.CV.pv (Go.Abs.PV.int Go.IntKind.i64 0), Go.Abs.CV.pv (Go.Abs.PV.str []), Go.Abs.CV.pv (Go.Abs.PV.int Go.IntKind.i64 0), Go.Abs.CV.nils] := by kernel_rfl
theorem ty_placesOf_40 : placesOf Tryd.prog 40 = Option.some [(0, 1), (1, 3), (4, 1)] := by kernel_rfl
theorem ty_isBoolT_40 : isBoolT Tryd.prog 40 = Bool.false := by kernel_rfl
theorem ty_isPtrT_40 : isPtrT Tryd.prog 40 = Bool.false := by kernel_rfl
theorem ty_concreteT_40 : concreteT Tryd.prog 40 = Bool.true := by kernel_rfl
theorem ty_isU8_40 : isU8 Tryd.prog 40 = Bool.false := by kernel_rfl
theorem ty_tvZero_40 : tvZero Tryd.prog 40 = Option.some (Go.Abs.TV.agg [Go.Abs.CV.pv (Go.Abs.PV.int Go.IntKind.i64 0), Go.Abs.CV.pv (Go.Abs.PV.int Go.IntKind.i64 0), Go.Abs.CV.pv (Go.Abs.PV.str []), Go.Abs.CV.pv (Go.Abs.PV.int Go.IntKind.i64 0), Go.Abs.CV.nils]) := by kernel_rfl
theorem ty_fieldOff_40_0 : fieldOff Tryd.prog 40 0 = Option.some (0, 3) := by kernel_rfl
theorem ty_fieldOff_40_1 : fieldOff Tryd.prog 40 1 = Option.some (1, 38) := by kernel_rfl
theorem ty_fieldOff_40_2 : fieldOff Tryd.prog 40 2 = Option.some (4, 23) := by kernel_rfl
theorem ty_shapeT_41 : shapeT Tryd.prog 41 = Option.some Option.none := by kernel_rfl
theorem ty_szOf_41 : szOf Tryd.prog 41 = Option.some 1 := by kernel_rfl
theorem ty_zeroCells_41 : zeroCells Tryd.prog 41 = Option.some [Go.Abs.CV.top] := by kernel_rfl
theorem ty_isBoolT_41 : isBoolT Tryd.prog 41 = Bool.false := by kernel_rfl
theorem ty_isPtrT_41 : isPtrT Tryd.prog 41 = Bool.false := by kernel_rfl
theorem ty_concreteT_41 : concreteT Tryd.prog 41 = Bool.true := by kernel_rfl
theorem ty_isU8_41 : isU8 Tryd.prog 41 = Bool.false := by kernel_rfl
theorem ty_shapeT_42 : shapeT Tryd.prog 42 = Option.some Option.none := by kernel_rfl
theorem ty_szOf_42 : szOf Tryd.prog 42 = Option.some 1 := by kernel_rfl
theorem ty_zeroCells_42 : zeroCells Tryd.prog 42 = Option.some [Go.Abs.CV.top] := by kernel_rfl
theorem ty_isBoolT_42 : isBoolT Tryd.prog 42 = Bool.false := by kernel_rfl
theorem ty_isPtrT_42 : isPtrT Tryd.prog 42 = Bool.false := by kernel_rfl
theorem ty_concreteT_42 : concreteT Tryd.prog 42 = Bool.true := by kernel_rfl
theorem ty_isU8_42 : isU8 Tryd.prog 42 = Bool.false := by kernel_rfl
theorem ty_shapeT_43 : shapeT Tryd.prog 43 = Option.some Option.none := by kernel_rfl
theorem ty_szOf_43 : szOf Tryd.prog 43 = Option.some 1 := by kernel_rfl
theorem ty_zeroCells_43 : zeroCells Tryd.prog 43 = Option.some [Go.Abs.CV.top] := by kernel_rfl
theorem ty_isBoolT_43 : isBoolT Tryd.prog 43 = Bool.false := by kernel_rfl
theorem ty_isPtrT_43 : isPtrT Tryd.prog 43 = Bool.false := by kernel_rfl
theorem ty_concreteT_43 : concreteT Tryd.prog 43 = Bool.true := by kernel_rfl
theorem ty_isU8_43 : isU8 Tryd.prog 43 = Bool.false := by kernel_rfl
theorem ty_shapeT_44 : shapeT Tryd.prog 44 = Option.some Option.none := by kernel_rfl
theorem ty_szOf_44 : szOf Tryd.prog 44 = Option.some 1 := by kernel_rfl
theorem ty_zeroCells_44 : zeroCells Tryd.prog 44 = Option.some [Go.Abs.CV.top] := by kernel_rfl
theorem ty_isBoolT_44 : isBoolT Tryd.prog 44 = Bool.false := by kernel_rfl
theorem ty_isPtrT_44 : isPtrT Tryd.prog 44 = Bool.false := by kernel_rfl
theorem ty_concreteT_44 : concreteT Tryd.prog 44 = Bool.true := by kernel_rfl
theorem ty_isU8_44 : isU8 Tryd.prog 44 = Bool.false := by kernel_rfl
theorem ty_shapeT_45 : shapeT Tryd.prog 45 = Option.some (Option.some 0) := by kernel_rfl
theorem ty_szOf_45 : szOf Tryd.prog 45 = Option.some 0 := by kernel_rfl
theorem ty_zeroCells_45 : zeroCells Tryd.prog 45 = Option.some [] := by kernel_rfl
theorem ty_placesOf_45 : placesOf Tryd.prog 45 = Option.some [] := by kernel_rfl
theorem ty_isBoolT_45 : isBoolT Tryd.prog 45 = Bool.false := by kernel_rfl
theorem ty_isPtrT_45 : isPtrT Tryd.prog 45 = Bool.false := by kernel_rfl
theorem ty_concreteT_45 : concreteT Tryd.prog 45 = Bool.true := by kernel_rfl
theorem ty_isU8_45 : isU8 Tryd.prog 45 = Bool.false := by kernel_rfl
theorem ty_tvZero_45 : tvZero Tryd.prog 45 = Option.some (Go.Abs.TV.agg []) := by kernel_rfl
theorem ty_shapeT_46 : shapeT Tryd.prog 46 = Option.some (Option.some 0) := by kernel_rfl
theorem ty_szOf_46 : szOf Tryd.prog 46 = Option.some 0 := by kernel_rfl
theorem ty_zeroCells_46 : zeroCells Tryd.prog 46 = Option.some [] := by kernel_rfl
theorem ty_placesOf_46 : placesOf Tryd.prog 46 = Option.some [] := by kernel_rfl
theorem ty_isBoolT_46 : isBoolT Tryd.prog 46 = Bool.false := by kernel_rfl
theorem ty_isPtrT_46 : isPtrT Tryd.prog 46 = Bool.false := by kernel_rfl
theorem ty_concreteT_46 : concreteT Tryd.prog 46 = Bool.true := by kernel_rfl
theorem ty_isU8_46 : isU8 Tryd.prog 46 = Bool.false := by kernel_rfl
theorem ty_tvZero_46 : tvZero Tryd.prog 46 = Option.some (Go.Abs.TV.agg []) := by kernel_rfl
theorem ty_shapeT_47 : shapeT Tryd.prog 47 = Option.some Option.none := by kernel_rfl
theorem ty_szOf_47 : szOf Tryd.prog 47 = Option.some 1 := by kernel_rfl
theorem ty_isBoolT_47 : isBoolT Tryd.prog 47 = Bool.false := by kernel_rfl
theorem ty_isPtrT_47 : isPtrT Tryd.prog 47 = Bool.false := by kernel_rfl
theorem ty_concreteT_47 : concreteT Tryd.prog 47 = Bool.true := by kernel_rfl
theorem ty_isU8_47 : isU8 Tryd.prog 47 = Bool.false := by kernel_rfl
theorem ty_shapeT_48 : shapeT Tryd.prog 48 = Option.some Option.none := by kernel_rfl
theorem ty_szOf_48 : szOf Tryd.prog 48 = Option.some 1 := by kernel_rfl
theorem ty_zeroCells_48 : zeroCells Tryd.prog 48 = Option.some [Go.Abs.CV.nilp] := by kernel_rfl
theorem ty_isBoolT_48 : isBoolT Tryd.prog 48 = Bool.false := by kernel_rfl
theorem ty_isPtrT_48 : isPtrT Tryd.prog 48 = Bool.true := by kernel_rfl
theorem ty_concreteT_48 : concreteT Tryd.prog 48 = Bool.true := by kernel_rfl
theorem ty_isU8_48 : isU8 Tryd.prog 48 = Bool.false := by kernel_rfl
theorem ty_tvZero_48 : tvZero Tryd.prog 48 = Option.some (Go.Abs.TV.c Go.Abs.CV.nilp) := by kernel_rfl
theorem ty_shapeT_49 : shapeT Tryd.prog 49 = Option.some (Option.some 2) := by kernel_rfl
theorem ty_szOf_49 : szOf Tryd.prog 49 = Option.some 2 := by kernel_rfl
theorem ty_zeroCells_49 : zeroCells Tryd.prog 49 = Option.some [Go.Abs.CV.nils, Go.Abs.CV.pv (Go.Abs.PV.int Go.IntKind.i64 0)] := by kernel_rfl
theorem ty_placesOf_49 : placesOf Tryd.prog 49 = Option.some [(0, 1), (1, 1)] := by kernel_rfl
theorem ty_isBoolT_49 : isBoolT Tryd.prog 49 = Bool.false := by kernel_rfl
theorem ty_isPtrT_49 : isPtrT Tryd.prog 49 = Bool.false := by kernel_rfl
theorem ty_concreteT_49 : concreteT Tryd.prog 49 = Bool.true := by kernel_rfl
theorem ty_isU8_49 : isU8 Tryd.prog 49 = Bool.false := by kernel_rfl
theorem ty_tvZero_49 : tvZero Tryd.prog 49 = Option.some (Go.Abs.TV.agg [Go.Abs.CV.nils, Go.Abs.CV.pv (Go.Abs.PV.int Go.IntKind.i64 0)]) := by kernel_rfl
theorem ty_fieldOff_49_0 : fieldOff Tryd.prog 49 0 = Option.some (0, 22) := by kernel_rfl
theorem ty_fieldOff_49_1 : fieldOff Tryd.prog 49 1 = Option.some (1, 3) := by kernel_rfl
theorem ty_shapeT_50 : shapeT Tryd.prog 50 = Option.some (Option.some 2) := by kernel_rfl
theorem ty_szOf_50 : szOf Tryd.prog 50 = Option.some 2 := by kernel_rfl
theorem ty_zeroCells_50 : zeroCells Tryd.prog 50 = Option.some [Go.Abs.CV.nils, Go.Abs.CV.pv (Go.Abs.PV.int Go.IntKind.i64 0)] := by kernel_rfl
theorem ty_placesOf_50 : placesOf Tryd.prog 50 = Option.some [(0, 1), (1, 1)] := by kernel_rfl
theorem ty_isBoolT_50 : isBoolT Tryd.prog 50 = Bool.false := by kernel_rfl
theorem ty_isPtrT_50 : isPtrT Tryd.prog 50 = Bool.false := by kernel_rfl
theorem ty_concreteT_50 : concreteT Tryd.prog 50 = Bool.true := by kernel_rfl
theorem ty_isU8_50 : isU8 Tryd.prog 50 = Bool.false := by kernel_rfl
theorem ty_tvZero_50 : tvZero Tryd.prog 50 = Option.some (Go.Abs.TV.agg [Go.Abs.CV.nils, Go.Abs.CV.pv (Go.Abs.PV.int Go.IntKind.i64 0)]) := by kernel_rfl
theorem ty_fieldOff_50_0 : fieldOff Tryd.prog 50 0 = Option.some (0, 22) := by kernel_rfl
theorem ty_fieldOff_50_1 : fieldOff Tryd.prog 50 1 = Option.some (1, 3) := by kernel_rfl
theorem ty_shapeT_51 : shapeT Tryd.prog 51 = Option.some Option.none := by kernel_rfl
theorem ty_szOf_51 : szOf Tryd.prog 51 = Option.some 1 := by kernel_rfl
theorem ty_zeroCells_51 : zeroCells Tryd.prog 51 = Option.some [Go.Abs.CV.top] := by kernel_rfl
theorem ty_isBoolT_51 : isBoolT Tryd.prog 51 = Bool.false := by kernel_rfl
theorem ty_isPtrT_51 : isPtrT Tryd.prog 51 = Bool.false := by kernel_rfl
theorem ty_concreteT_51 : concreteT Tryd.prog 51 = Bool.true := by kernel_rfl
theorem ty_isU8_51 : isU8 Tryd.prog 51 = Bool.false := by kernel_rfl
theorem ty_shapeT_52 : shapeT Tryd.prog 52 = Option.some (Option.some 3) := by kernel_rfl
theorem ty_szOf_52 : szOf Tryd.prog 52 = Option.some 3 := by kernel_rfl
theorem ty_zeroCells_52 : zeroCells Tryd.prog 52 = Option.some [Go.Abs.CV.nils, Go.Abs.CV.pv (Go.Abs.PV.int Go.IntKind.i64 0), Go.Abs.CV.pv (Go.Abs.PV.bool Bool.false)] := by kernel_rfl
theorem ty_placesOf_52 : placesOf Tryd.prog 52 = Option.some [(0, 1), (1, 1), (2, 1)] := by kernel_rfl
theorem ty_isBoolT_52 : isBoolT Tryd.prog 52 = Bool.false := by kernel_rfl
theorem ty_isPtrT_52 : isPtrT Tryd.prog 52 = Bool.false := by kernel_rfl
theorem ty_concreteT_52 : concreteT Tryd.prog 52 = Bool.true := by kernel_rfl
theorem ty_isU8_52 : isU8 Tryd.prog 52 = Bool.false := by kernel_rfl
theorem ty_tvZero_52 : tvZero Tryd.prog 52 = Option.some (Go.Abs.TV.agg [Go.Abs.CV.nils, Go.Abs.CV.pv (Go.Abs.PV.int Go.IntKind.i64 0), Go.Abs.CV.pv (Go.Abs.PV.bool Bool.false)]) := by kernel_rfl
theorem ty_fieldOff_52_0 : fieldOff Tryd.prog 52 0 = Option.some (0, 23) := by kernel_rfl
theorem ty_fieldOff_52_1 : fieldOff Tryd.prog 52 1 = Option.some (1, 3) := by kernel_rfl
theorem ty_fieldOff_52_2 : fieldOff Tryd.prog 52 2 = Option.some (2, 4) := by kernel_rfl
theorem ty_shapeT_53 : shapeT Tryd.prog 53 = Option.some (Option.some 3) := by kernel_rfl
theorem ty_szOf_53 : szOf Tryd.prog 53 = Option.some 3 := by kernel_rfl
theorem ty_zeroCells_53 : zeroCells Tryd.prog 53 = Option.some [Go.Abs.CV.nils, Go.Abs.CV.pv (Go.Abs.PV.int Go.IntKind.i64 0), Go.Abs.CV.pv (Go.Abs.PV.bool Bool.false)] := by kernel_rfl
theorem ty_placesOf_53 : placesOf Tryd.prog 53 = Option.some [(0, 1), (1, 1), (2, 1)] := by kernel_rfl
theorem ty_isBoolT_53 : isBoolT Tryd.prog 53 = Bool.false := by kernel_rfl
theorem ty_isPtrT_53 : isPtrT Tryd.prog 53 = Bool.false := by kernel_rfl
theorem ty_concreteT_53 : concreteT Tryd.prog 53 = Bool.true := by kernel_rfl
theorem ty_isU8_53 : isU8 Tryd.prog 53 = Bool.false := by kernel_rfl
theorem ty_tvZero_53 : tvZero Tryd.prog 53 = Option.some (Go.Abs.TV.agg [Go.Abs.CV.nils, Go.Abs.CV.pv (Go.Abs.PV.int Go.IntKind.i64 0), Go.Abs.CV.pv (Go.Abs.PV.bool Bool.false)]) := by kernel_rfl
theorem ty_fieldOff_53_0 : fieldOff Tryd.prog 53 0 = Option.some (0, 23) := by kernel_rfl
theorem ty_fieldOff_53_1 : fieldOff Tryd.prog 53 1 = Option.some (1, 3) := by kernel_rfl
theorem ty_fieldOff_53_2 : fieldOff Tryd.prog 53 2 = Option.some (2, 4) := by kernel_rfl
theorem ty_shapeT_54 : shapeT Tryd.prog 54 = Option.some Option.none := by kernel_rfl
theorem ty_szOf_54 : szOf Tryd.prog 54 = Option.some 1 := by kernel_rfl
theorem ty_zeroCells_54 : zeroCells Tryd.prog 54 = Option.some [Go.Abs.CV.top] := by kernel_rfl
theorem ty_isBoolT_54 : isBoolT Tryd.prog 54 = Bool.false := by kernel_rfl
theorem ty_isPtrT_54 : isPtrT Tryd.prog 54 = Bool.false := by kernel_rfl
theorem ty_concreteT_54 : concreteT Tryd.prog 54 = Bool.true := by kernel_rfl
theorem ty_isU8_54 : isU8 Tryd.prog 54 = Bool.false := by kernel_rfl
theorem ty_shapeT_55 : shapeT Tryd.prog 55 = Option.some (Option.some 2) := by kernel_rfl
theorem ty_szOf_55 : szOf Tryd.prog 55 = Option.some 2 := by kernel_rfl
theorem ty_zeroCells_55 : zeroCells Tryd.prog 55 = Option.some [Go.Abs.CV.pv (Go.Abs.PV.str []), Go.Abs.CV.pv (Go.Abs.PV.str [])] := by kernel_rfl
theorem ty_placesOf_55 : placesOf Tryd.prog 55 = Option.some [(0, 1), (1, 1)] := by kernel_rfl
theorem ty_isBoolT_55 : isBoolT Tryd.prog 55 = Bool.false := by kernel_rfl
theorem ty_isPtrT_55 : isPtrT Tryd.prog 55 = Bool.false := by kernel_rfl
theorem ty_concreteT_55 : concreteT Tryd.prog 55 = Bool.true := by kernel_rfl
theorem ty_isU8_55 : isU8 Tryd.prog 55 = Bool.false := by kernel_rfl
theorem ty_tvZero_55 : tvZero Tryd.prog 55 = Option.some (Go.Abs.TV.agg [Go.Abs.CV.pv (Go.Abs.PV.str []), Go.Abs.CV.pv (Go.Abs.PV.str [])]) := by kernel_rfl
theorem ty_fieldOff_55_0 : fieldOff Tryd.prog 55 0 = Option.some (0, 9) := by kernel_rfl
theorem ty_fieldOff_55_1 : fieldOff Tryd.prog 55 1 = Option.some (1, 9) := by kernel_rfl
theorem ty_shapeT_56 : shapeT Tryd.prog 56 = Option.some (Option.some 2) := by kernel_rfl
theorem ty_szOf_56 : szOf Tryd.prog 56 = Option.some 2 := by kernel_rfl
theorem ty_zeroCells_56 : zeroCells Tryd.prog 56 = Option.some [Go.Abs.CV.pv (Go.Abs.PV.str []), Go.Abs.CV.pv (Go.Abs.PV.str [])] := by kernel_rfl
theorem ty_placesOf_56 : placesOf Tryd.prog 56 = Option.some [(0, 1), (1, 1)] := by kernel_rfl
theorem ty_isBoolT_56 : isBoolT Tryd.prog 56 = Bool.false := by kernel_rfl
theorem ty_isPtrT_56 : isPtrT Tryd.prog 56 = Bool.false := by kernel_rfl
theorem ty_concreteT_56 : concreteT Tryd.prog 56 = Bool.true := by kernel_rfl
theorem ty_isU8_56 : isU8 Tryd.prog 56 = Bool.false := by kernel_rfl
theorem ty_tvZero_56 : tvZero Tryd.prog 56 = Option.some (Go.Abs.TV.agg [Go.Abs.CV.pv (Go.Abs.PV.str []), Go.Abs.CV.pv (Go.Abs.PV.str [])]) := by kernel_rfl
theorem ty_fieldOff_56_0 : fieldOff Tryd.prog 56 0 = Option.some (0, 9) := by kernel_rfl
theorem ty_fieldOff_56_1 : fieldOff Tryd.prog 56 1 = Option.some (1, 9) := by kernel_rfl
theorem ty_shapeT_57 : shapeT Tryd.prog 57 = Option.some Option.none := by kernel_rfl
theorem ty_szOf_57 : szOf Tryd.prog 57 = Option.some 1 := by kernel_rfl
theorem ty_isBoolT_57 : isBoolT Tryd.prog 57 = Bool.false := by kernel_rfl
theorem ty_isPtrT_57 : isPtrT Tryd.prog 57 = Bool.false := by kernel_rfl
theorem ty_concreteT_57 : concreteT Tryd.prog 57 = Bool.true := by kernel_rfl
theorem ty_isU8_57 : isU8 Tryd.prog 57 = Bool.false := by kernel_rfl
theorem ty_shapeT_58 : shapeT Tryd.prog 58 = Option.some Option.none := by kernel_rfl
theorem ty_szOf_58 : szOf Tryd.prog 58 = Option.some 1 := by kernel_rfl
theorem ty_zeroCells_58 : zeroCells Tryd.prog 58 = Option.some [Go.Abs.CV.top] := by kernel_rfl
theorem ty_isBoolT_58 : isBoolT Tryd.prog 58 = Bool.false := by kernel_rfl
theorem ty_isPtrT_58 : isPtrT Tryd.prog 58 = Bool.false := by kernel_rfl
theorem ty_concreteT_58 : concreteT Tryd.prog 58 = Bool.true := by kernel_rfl
theorem ty_isU8_58 : isU8 Tryd.prog 58 = Bool.false := by kernel_rfl
theorem ty_shapeT_59 : shapeT Tryd.prog 59 = Option.some Option.none := by kernel_rfl
theorem ty_szOf_59 : szOf Tryd.prog 59 = Option.some 1 := by kernel_rfl
theorem ty_zeroCells_59 : zeroCells Tryd.prog 59 = Option.some [Go.Abs.CV.top] := by kernel_rfl
theorem ty_isBoolT_59 : isBoolT Tryd.prog 59 = Bool.false := by kernel_rfl
theorem ty_isPtrT_59 : isPtrT Tryd.prog 59 = Bool.false := by kernel_rfl
theorem ty_concreteT_59 : concreteT Tryd.prog 59 = Bool.true := by kernel_rfl
theorem ty_isU8_59 : isU8 Tryd.prog 59 = Bool.false := by kernel_rfl
theorem ty_shapeT_60 : shapeT Tryd.prog 60 = Option.some Option.none := by kernel_rfl
theorem ty_szOf_60 : szOf Tryd.prog 60 = Option.some 1 := by kernel_rfl
theorem ty_zeroCells_60 : zeroCells Tryd.prog 60 = Option.some [Go.Abs.CV.top] := by kernel_rfl
theorem ty_isBoolT_60 : isBoolT Tryd.prog 60 = Bool.false := by kernel_rfl
theorem ty_isPtrT_60 : isPtrT Tryd.prog 60 = Bool.false := by kernel_rfl
theorem ty_concreteT_60 : concreteT Tryd.prog 60 = Bool.true := by kernel_rfl
theorem ty_isU8_60 : isU8 Tryd.prog 60 = Bool.false := by kernel_rfl
theorem ty_shapeT_61 : shapeT Tryd.prog 61 = Option.some Option.none := by kernel_rfl
theorem ty_szOf_61 : szOf Tryd.prog 61 = Option.some 1 := by kernel_rfl
theorem ty_zeroCells_61 : zeroCells Tryd.prog 61 = Option.some [Go.Abs.CV.top] := by kernel_rfl
theorem ty_isBoolT_61 : isBoolT Tryd.prog 61 = Bool.false := by kernel_rfl
theorem ty_isPtrT_61 : isPtrT Tryd.prog 61 = Bool.false := by kernel_rfl
theorem ty_concreteT_61 : concreteT Tryd.prog 61 = Bool.true := by kernel_rfl
theorem ty_isU8_61 : isU8 Tryd.prog 61 = Bool.false := by kernel_rfl
theorem ty_shapeT_62 : shapeT Tryd.prog 62 = Option.some Option.none := by kernel_rfl
theorem ty_szOf_62 : szOf Tryd.prog 62 = Option.some 1 := by kernel_rfl
theorem ty_zeroCells_62 : zeroCells Tryd.prog 62 = Option.some [Go.Abs.CV.top] := by kernel_rfl
theorem ty_isBoolT_62 : isBoolT Tryd.prog 62 = Bool.false := by kernel_rfl
theorem ty_isPtrT_62 : isPtrT Tryd.prog 62 = Bool.false := by kernel_rfl
theorem ty_concreteT_62 : concreteT Tryd.prog 62 = Bool.true := by kernel_rfl
theorem ty_isU8_62 : isU8 Tryd.prog 62 = Bool.false := by kernel_rfl
theorem ty_shapeT_63 : shapeT Tryd.prog 63 = Option.some Option.none := by kernel_rfl
theorem ty_szOf_63 : szOf Tryd.prog 63 = Option.some 1 := by kernel_rfl
theorem ty_zeroCells_63 : zeroCells Tryd.prog 63 = Option.some [Go.Abs.CV.top] := by kernel_rfl
theorem ty_isBoolT_63 : isBoolT Tryd.prog 63 = Bool.false := by kernel_rfl
theorem ty_isPtrT_63 : isPtrT Tryd.prog 63 = Bool.false := by kernel_rfl
theorem ty_concreteT_63 : concreteT Tryd.prog 63 = Bool.true := by kernel_rfl
theorem ty_isU8_63 : isU8 Tryd.prog 63 = Bool.false := by kernel_rfl
theorem ty_shapeT_64 : shapeT Tryd.prog 64 = Option.some Option.none := by kernel_rfl
theorem ty_szOf_64 : szOf Tryd.prog 64 = Option.some 1 := by kernel_rfl
theorem ty_zeroCells_64 : zeroCells Tryd.prog 64 = Option.some [Go.Abs.CV.top] := by kernel_rfl
theorem ty_isBoolT_64 : isBoolT Tryd.prog 64 = Bool.false := by kernel_rfl
theorem ty_isPtrT_64 : isPtrT Tryd.prog 64 = Bool.false := by kernel_rfl
theorem ty_concreteT_64 : concreteT Tryd.prog 64 = Bool.true := by kernel_rfl
theorem ty_isU8_64 : isU8 Tryd.prog 64 = Bool.false := by kernel_rfl
theorem ty_shapeT_65 : shapeT Tryd.prog 65 = Option.some Option.none := by kernel_rfl
theorem ty_szOf_65 : szOf Tryd.prog 65 = Option.some 1 := by kernel_rfl
theorem ty_zeroCells_65 : zeroCells Tryd.prog 65 = Option.some [Go.Abs.CV.top] := by kernel_rfl
theorem ty_isBoolT_65 : isBoolT Tryd.prog 65 = Bool.false := by kernel_rfl
theorem ty_isPtrT_65 : isPtrT Tryd.prog 65 = Bool.false := by kernel_rfl
theorem ty_concreteT_65 : concreteT Tryd.prog 65 = Bool.true := by kernel_rfl
theorem ty_isU8_65 : isU8 Tryd.prog 65 = Bool.false := by kernel_rfl
theorem ty_shapeT_66 : shapeT Tryd.prog 66 = Option.some Option.none := by kernel_rfl
theorem ty_szOf_66 : szOf Tryd.prog 66 = Option.some 1 := by kernel_rfl
theorem ty_isBoolT_66 : isBoolT Tryd.prog 66 = Bool.false := by kernel_rfl
theorem ty_isPtrT_66 : isPtrT Tryd.prog 66 = Bool.false := by kernel_rfl
theorem ty_concreteT_66 : concreteT Tryd.prog 66 = Bool.true := by kernel_rfl
theorem ty_isU8_66 : isU8 Tryd.prog 66 = Bool.false := by kernel_rfl
theorem ty_shapeT_67 : shapeT Tryd.prog 67 = Option.some Option.none := by kernel_rfl
theorem ty_szOf_67 : szOf Tryd.prog 67 = Option.some 1 := by kernel_rfl
theorem ty_zeroCells_67 : zeroCells Tryd.prog 67 = Option.some [Go.Abs.CV.top] := by kernel_rfl
theorem ty_isBoolT_67 : isBoolT Tryd.prog 67 = Bool.false := by kernel_rfl
theorem ty_isPtrT_67 : isPtrT Tryd.prog 67 = Bool.false := by kernel_rfl
theorem ty_concreteT_67 : concreteT Tryd.prog 67 = Bool.true := by kernel_rfl
theorem ty_isU8_67 : isU8 Tryd.prog 67 = Bool.false := by kernel_rfl
theorem ty_shapeT_68 : shapeT Tryd.prog 68 = Option.some Option.none := by kernel_rfl
theorem ty_szOf_68 : szOf Tryd.prog 68 = Option.some 1 := by kernel_rfl
theorem ty_zeroCells_68 : zeroCells Tryd.prog 68 = Option.some [Go.Abs.CV.top] := by kernel_rfl
theorem ty_isBoolT_68 : isBoolT Tryd.prog 68 = Bool.false := by kernel_rfl
theorem ty_isPtrT_68 : isPtrT Tryd.prog 68 = Bool.false := by kernel_rfl
theorem ty_concreteT_68 : concreteT Tryd.prog 68 = Bool.true := by kernel_rfl
theorem ty_isU8_68 : isU8 Tryd.prog 68 = Bool.false := by kernel_rfl
theorem ty_shapeT_69 : shapeT Tryd.prog 69 = Option.some Option.none := by kernel_rfl
theorem ty_szOf_69 : szOf Tryd.prog 69 = Option.some 1 := by kernel_rfl
theorem ty_zeroCells_69 : zeroCells Tryd.prog 69 = Option.some [Go.Abs.CV.top] := by kernel_rfl
theorem ty_isBoolT_69 : isBoolT Tryd.prog 69 = Bool.false := by kernel_rfl
theorem ty_isPtrT_69 : isPtrT Tryd.prog 69 = Bool.false := by kernel_rfl
theorem ty_concreteT_69 : concreteT Tryd.prog 69 = Bool.true := by kernel_rfl
theorem ty_isU8_69 : isU8 Tryd.prog 69 = Bool.false := by kernel_rfl
theorem ty_shapeT_70 : shapeT Tryd.prog 70 = Option.some Option.none := by kernel_rfl
theorem ty_szOf_70 : szOf Tryd.prog 70 = Option.some 1 := by kernel_rfl
theorem ty_zeroCells_70 : zeroCells Tryd.prog 70 = Option.some [Go.Abs.CV.nilp] := by kernel_rfl
theorem ty_isBoolT_70 : isBoolT Tryd.prog 70 = Bool.false := by kernel_rfl
theorem ty_isPtrT_70 : isPtrT Tryd.prog 70 = Bool.true := by kernel_rfl
theorem ty_concreteT_70 : concreteT Tryd.prog 70 = Bool.true := by kernel_rfl
theorem ty_isU8_70 : isU8 Tryd.prog 70 = Bool.false := by kernel_rfl
theorem ty_tvZero_70 : tvZero Tryd.prog 70 = Option.some (Go.Abs.TV.c Go.Abs.CV.nilp) := by kernel_rfl
theorem ty_shapeT_71 : shapeT Tryd.prog 71 = Option.some Option.none := by kernel_rfl
theorem ty_szOf_71 : szOf Tryd.prog 71 = Option.some 1 := by kernel_rfl
theorem ty_zeroCells_71 : zeroCells Tryd.prog 71 = Option.some [Go.Abs.CV.top] := by kernel_rfl
theorem ty_isBoolT_71 : isBoolT Tryd.prog 71 = Bool.false := by kernel_rfl
theorem ty_isPtrT_71 : isPtrT Tryd.prog 71 = Bool.false := by kernel_rfl
theorem ty_concreteT_71 : concreteT Tryd.prog 71 = Bool.true := by kernel_rfl
theorem ty_isU8_71 : isU8 Tryd.prog 71 = Bool.false := by kernel_rfl
theorem ty_shapeT_72 : shapeT Tryd.prog 72 = Option.some Option.none := by kernel_rfl
theorem ty_szOf_72 : szOf Tryd.prog 72 = Option.some 1 := by kernel_rfl
theorem ty_zeroCells_72 : zeroCells Tryd.prog 72 = Option.some [Go.Abs.CV.top] := by kernel_rfl
theorem ty_isBoolT_72 : isBoolT Tryd.prog 72 = Bool.false := by kernel_rfl
theorem ty_isPtrT_72 : isPtrT Tryd.prog 72 = Bool.false := by kernel_rfl
theorem ty_concreteT_72 : concreteT Tryd.prog 72 = Bool.true := by kernel_rfl
theorem ty_isU8_72 : isU8 Tryd.prog 72 = Bool.false := by kernel_rfl
theorem ty_shapeT_73 : shapeT Tryd.prog 73 = Option.some Option.none := by kernel_rfl
theorem ty_szOf_73 : szOf Tryd.prog 73 = Option.some 1 := by kernel_rfl
theorem ty_zeroCells_73 : zeroCells Tryd.prog 73 = Option.some [Go.Abs.CV.top] := by kernel_rfl
theorem ty_isBoolT_73 : isBoolT Tryd.prog 73 = Bool.false := by kernel_rfl
theorem ty_isPtrT_73 : isPtrT Tryd.prog 73 = Bool.false := by kernel_rfl
theorem ty_concreteT_73 : concreteT Tryd.prog 73 = Bool.true := by kernel_rfl
theorem ty_isU8_73 : isU8 Tryd.prog 73 = Bool.false := by kernel_rfl
theorem ty_shapeT_74 : shapeT Tryd.prog 74 = Option.some Option.none := by kernel_rfl
theorem ty_szOf_74 : szOf Tryd.prog 74 = Option.some 1 := by kernel_rfl
theorem ty_zeroCells_74 : zeroCells Tryd.prog 74 = Option.some [Go.Abs.CV.top] := by kernel_rfl
theorem ty_isBoolT_74 : isBoolT Tryd.prog 74 = Bool.false := by kernel_rfl
theorem ty_isPtrT_74 : isPtrT Tryd.prog 74 = Bool.false := by kernel_rfl
theorem ty_concreteT_74 : concreteT Tryd.prog 74 = Bool.true := by kernel_rfl
theorem ty_isU8_74 : isU8 Tryd.prog 74 = Bool.false := by kernel_rfl
theorem ty_shapeT_75 : shapeT Tryd.prog 75 = Option.some Option.none := by kernel_rfl
theorem ty_szOf_75 : szOf Tryd.prog 75 = Option.some 1 := by kernel_rfl
theorem ty_zeroCells_75 : zeroCells Tryd.prog 75 = Option.some [Go.Abs.CV.top] := by kernel_rfl
theorem ty_isBoolT_75 : isBoolT Tryd.prog 75 = Bool.false := by kernel_rfl
theorem ty_isPtrT_75 : isPtrT Tryd.prog 75 = Bool.false := by kernel_rfl
theorem ty_concreteT_75 : concreteT Tryd.prog 75 = Bool.true := by kernel_rfl
theorem ty_isU8_75 : isU8 Tryd.prog 75 = Bool.false := by kernel_rfl
theorem ty_shapeT_76 : shapeT Tryd.prog 76 = Option.some Option.none := by kernel_rfl
theorem ty_szOf_76 : szOf Tryd.prog 76 = Option.some 1 := by kernel_rfl
theorem ty_zeroCells_76 : zeroCells Tryd.prog 76 = Option.some [Go.Abs.CV.top] := by kernel_rfl
theorem ty_isBoolT_76 : isBoolT Tryd.prog 76 = Bool.false := by kernel_rfl
theorem ty_isPtrT_76 : isPtrT Tryd.prog 76 = Bool.false := by kernel_rfl
theorem ty_concreteT_76 : concreteT Tryd.prog 76 = Bool.true := by kernel_rfl
theorem ty_isU8_76 : isU8 Tryd.prog 76 = Bool.false := by kernel_rfl
theorem ty_shapeT_77 : shapeT Tryd.prog 77 = Option.some Option.none := by kernel_rfl
theorem ty_szOf_77 : szOf Tryd.prog 77 = Option.some 1 := by kernel_rfl
theorem ty_zeroCells_77 : zeroCells Tryd.prog 77 = Option.some [Go.Abs.CV.top] := by kernel_rfl
theorem ty_isBoolT_77 : isBoolT Tryd.prog 77 = Bool.false := by kernel_rfl
theorem ty_isPtrT_77 : isPtrT Tryd.prog 77 = Bool.false := by kernel_rfl
theorem ty_concreteT_77 : concreteT Tryd.prog 77 = Bool.true := by kernel_rfl
theorem ty_isU8_77 : isU8 Tryd.prog 77 = Bool.false := by kernel_rfl
theorem ty_shapeT_78 : shapeT Tryd.prog 78 = Option.some Option.none := by kernel_rfl
theorem ty_szOf_78 : szOf Tryd.prog 78 = Option.some 1 := by kernel_rfl
theorem ty_zeroCells_78 : zeroCells Tryd.prog 78 = Option.some [Go.Abs.CV.top] := by kernel_rfl
theorem ty_isBoolT_78 : isBoolT Tryd.prog 78 = Bool.false := by kernel_rfl
theorem ty_isPtrT_78 : isPtrT Tryd.prog 78 = Bool.false := by kernel_rfl
theorem ty_concreteT_78 : concreteT Tryd.prog 78 = Bool.true := by kernel_rfl
theorem ty_isU8_78 : isU8 Tryd.prog 78 = Bool.false := by kernel_rfl
theorem ty_shapeT_79 : shapeT Tryd.prog 79 = Option.some Option.none := by kernel_rfl
theorem ty_szOf_79 : szOf Tryd.prog 79 = Option.some 1 := by kernel_rfl
theorem ty_zeroCells_79 : zeroCells Tryd.prog 79 = Option.some [Go.Abs.CV.top] := by kernel_rfl
theorem ty_isBoolT_79 : isBoolT Tryd.prog 79 = Bool.false := by kernel_rfl
theorem ty_isPtrT_79 : isPtrT Tryd.prog 79 = Bool.false := by kernel_rfl
theorem ty_concreteT_79 : concreteT Tryd.prog 79 = Bool.true := by kernel_rfl
theorem ty_isU8_79 : isU8 Tryd.prog 79 = Bool.false := by kernel_rfl
theorem ty_shapeT_80 : shapeT Tryd.prog 80 = Option.some Option.none := by kernel_rfl
theorem ty_szOf_80 : szOf Tryd.prog 80 = Option.some 1 := by kernel_rfl
theorem ty_zeroCells_80 : zeroCells Tryd.prog 80 = Option.some [Go.Abs.CV.nils] := by kernel_rfl
theorem ty_appInfo_80 : appInfo Tryd.prog 80 = Option.some (5, 1) := by kernel_rfl
theorem ty_descOf_80 : descOf Tryd.prog 80 = Option.some (Go.Abs.Desc.sl 5 Bool.true) := by kernel_rfl
theorem ty_isBoolT_80 : isBoolT Tryd.prog 80 = Bool.false := by kernel_rfl
theorem ty_isPtrT_80 : isPtrT Tryd.prog 80 = Bool.false := by kernel_rfl
theorem ty_concreteT_80 : concreteT Tryd.prog 80 = Bool.true := by kernel_rfl
theorem ty_isU8_80 : isU8 Tryd.prog 80 = Bool.false := by kernel_rfl
theorem ty_tvZero_80 : tvZero Tryd.prog 80 = Option.some (Go.Abs.TV.c Go.Abs.CV.nils) := by kernel_rfl
theorem ty_shapeT_81 : shapeT Tryd.prog 81 = Option.some Option.none := by kernel_rfl
theorem ty_szOf_81 : szOf Tryd.prog 81 = Option.some 1 := by kernel_rfl
theorem ty_zeroCells_81 : zeroCells Tryd.prog 81 = Option.some [Go.Abs.CV.nilp] := by kernel_rfl
theorem ty_isBoolT_81 : isBoolT Tryd.prog 81 = Bool.false := by kernel_rfl
theorem ty_isPtrT_81 : isPtrT Tryd.prog 81 = Bool.true := by kernel_rfl
theorem ty_concreteT_81 : concreteT Tryd.prog 81 = Bool.true := by kernel_rfl
theorem ty_isU8_81 : isU8 Tryd.prog 81 = Bool.false := by kernel_rfl
theorem ty_tvZero_81 : tvZero Tryd.prog 81 = Option.some (Go.Abs.TV.c Go.Abs.CV.nilp) := by kernel_rfl
theorem ty_shapeT_82 : shapeT Tryd.prog 82 = Option.some Option.none := by kernel_rfl
theorem ty_szOf_82 : szOf Tryd.prog 82 = Option.some 1 := by kernel_rfl
theorem ty_zeroCells_82 : zeroCells Tryd.prog 82 = Option.some [Go.Abs.CV.pv (Go.Abs.PV.str [])] := by kernel_rfl
theorem ty_descOf_82 : descOf Tryd.prog 82 = Option.some Go.Abs.Desc.str := by kernel_rfl
theorem ty_isBoolT_82 : isBoolT Tryd.prog 82 = Bool.false := by kernel_rfl
theorem ty_isPtrT_82 : isPtrT Tryd.prog 82 = Bool.false := by kernel_rfl
theorem ty_concreteT_82 : concreteT Tryd.prog 82 = Bool.true := by kernel_rfl
theorem ty_isU8_82 : isU8 Tryd.prog 82 = Bool.false := by kernel_rfl
theorem ty_tvZero_82 : tvZero Tryd.prog 82 = Option.some (Go.Abs.TV.c (Go.Abs.CV.pv (Go.Abs.PV.str []))) := by kernel_rfl
theorem ty_shapeT_83 : shapeT Tryd.prog 83 = Option.some (Option.some 2) := by kernel_rfl
theorem ty_szOf_83 : szOf Tryd.prog 83 = Option.some 2 := by kernel_rfl
theorem ty_zeroCells_83 : zeroCells Tryd.prog 83 = Option.some [Go.Abs.CV.pv (Go.Abs.PV.str []), Go.Abs.CV.nils] := by kernel_rfl
theorem ty_placesOf_83 : placesOf Tryd.prog 83 = Option.some [(0, 1), (1, 1)] := by kernel_rfl
theorem ty_isBoolT_83 : isBoolT Tryd.prog 83 = Bool.false := by kernel_rfl
theorem ty_isPtrT_83 : isPtrT Tryd.prog 83 = Bool.false := by kernel_rfl
theorem ty_concreteT_83 : concreteT Tryd.prog 83 = Bool.true := by kernel_rfl
theorem ty_isU8_83 : isU8 Tryd.prog 83 = Bool.false := by kernel_rfl
theorem ty_tvZero_83 : tvZero Tryd.prog 83 = Option.some (Go.Abs.TV.agg [Go.Abs.CV.pv (Go.Abs.PV.str []), Go.Abs.CV.nils]) := by kernel_rfl
theorem ty_fieldOff_83_0 : fieldOff Tryd.prog 83 0 = Option.some (0, 82) := by kernel_rfl
theorem ty_fieldOff_83_1 : fieldOff Tryd.prog 83 1 = Option.some (1, 22) := by kernel_rfl
theorem ty_shapeT_84 : shapeT Tryd.prog 84 = Option.some (Option.some 2) := by kernel_rfl
theorem ty_szOf_84 : szOf Tryd.prog 84 = Option.some 2 := by kernel_rfl
theorem ty_zeroCells_84 : zeroCells Tryd.prog 84 = Option.some [Go.Abs.CV.pv (Go.Abs.PV.str []), Go.Abs.CV.nils] := by kernel_rfl
theorem ty_placesOf_84 : placesOf Tryd.prog 84 = Option.some [(0, 1), (1, 1)] := by kernel_rfl
theorem ty_isBoolT_84 : isBoolT Tryd.prog 84 = Bool.false := by kernel_rfl
theorem ty_isPtrT_84 : isPtrT Tryd.prog 84 = Bool.false := by kernel_rfl
theorem ty_concreteT_84 : concreteT Tryd.prog 84 = Bool.true := by kernel_rfl
theorem ty_isU8_84 : isU8 Tryd.prog 84 = Bool.false := by kernel_rfl
theorem ty_tvZero_84 : tvZero Tryd.prog 84 = Option.some (Go.Abs.TV.agg [Go.Abs.CV.pv (Go.Abs.PV.str []), Go.Abs.CV.nils]) := by kernel_rfl
theorem ty_fieldOff_84_0 : fieldOff Tryd.prog 84 0 = Option.some (0, 82) := by kernel_rfl
theorem ty_fieldOff_84_1 : fieldOff Tryd.prog 84 1 = Option.some (1, 22) := by kernel_rfl
theorem ty_shapeT_85 : shapeT Tryd.prog 85 = Option.some Option.none := by kernel_rfl
theorem ty_szOf_85 : szOf Tryd.prog 85 = Option.some 1 := by kernel_rfl
theorem ty_zeroCells_85 : zeroCells Tryd.prog 85 = Option.some [Go.Abs.CV.top] := by kernel_rfl
theorem ty_isBoolT_85 : isBoolT Tryd.prog 85 = Bool.false := by kernel_rfl
theorem ty_isPtrT_85 : isPtrT Tryd.prog 85 = Bool.false := by kernel_rfl
theorem ty_concreteT_85 : concreteT Tryd.prog 85 = Bool.true := by kernel_rfl
theorem ty_isU8_85 : isU8 Tryd.prog 85 = Bool.false := by kernel_rfl
theorem ty_shapeT_86 : shapeT Tryd.prog 86 = Option.some Option.none := by kernel_rfl
theorem ty_szOf_86 : szOf Tryd.prog 86 = Option.some 1 := by kernel_rfl
theorem ty_zeroCells_86 : zeroCells Tryd.prog 86 = Option.some [Go.Abs.CV.top] := by kernel_rfl
theorem ty_isBoolT_86 : isBoolT Tryd.prog 86 = Bool.false := by kernel_rfl
theorem ty_isPtrT_86 : isPtrT Tryd.prog 86 = Bool.false := by kernel_rfl
theorem ty_concreteT_86 : concreteT Tryd.prog 86 = Bool.true := by kernel_rfl
theorem ty_isU8_86 : isU8 Tryd.prog 86 = Bool.false := by kernel_rfl
theorem ty_shapeT_87 : shapeT Tryd.prog 87 = Option.some Option.none := by kernel_rfl
theorem ty_szOf_87 : szOf Tryd.prog 87 = Option.some 1 := by kernel_rfl
theorem ty_zeroCells_87 : zeroCells Tryd.prog 87 = Option.some [Go.Abs.CV.top] := by kernel_rfl
theorem ty_isBoolT_87 : isBoolT Tryd.prog 87 = Bool.false := by kernel_rfl
theorem ty_isPtrT_87 : isPtrT Tryd.prog 87 = Bool.false := by kernel_rfl
theorem ty_concreteT_87 : concreteT Tryd.prog 87 = Bool.true := by kernel_rfl
theorem ty_isU8_87 : isU8 Tryd.prog 87 = Bool.false := by kernel_rfl
theorem ty_shapeT_88 : shapeT Tryd.prog 88 = Option.some Option.none := by kernel_rfl
theorem ty_szOf_88 : szOf Tryd.prog 88 = Option.some 1 := by kernel_rfl
theorem ty_zeroCells_88 : zeroCells Tryd.prog 88 = Option.some [Go.Abs.CV.top] := by kernel_rfl
theorem ty_isBoolT_88 : isBoolT Tryd.prog 88 = Bool.false := by kernel_rfl
theorem ty_isPtrT_88 : isPtrT Tryd.prog 88 = Bool.false := by kernel_rfl
theorem ty_concreteT_88 : concreteT Tryd.prog 88 = Bool.true := by kernel_rfl
theorem ty_isU8_88 : isU8 Tryd.prog 88 = Bool.false := by kernel_rfl
theorem ty_shapeT_89 : shapeT Tryd.prog 89 = Option.some Option.none := by kernel_rfl
theorem ty_szOf_89 : szOf Tryd.prog 89 = Option.some 1 := by kernel_rfl
theorem ty_zeroCells_89 : zeroCells Tryd.prog 89 = Option.some [Go.Abs.CV.top] := by kernel_rfl
theorem ty_isBoolT_89 : isBoolT Tryd.prog 89 = Bool.false := by kernel_rfl
theorem ty_isPtrT_89 : isPtrT Tryd.prog 89 = Bool.false := by kernel_rfl
theorem ty_concreteT_89 : concreteT Tryd.prog 89 = Bool.true := by kernel_rfl
theorem ty_isU8_89 : isU8 Tryd.prog 89 = Bool.false := by kernel_rfl
theorem ty_shapeT_90 : shapeT Tryd.prog 90 = Option.some Option.none := by kernel_rfl
theorem ty_szOf_90 : szOf Tryd.prog 90 = Option.some 1 := by kernel_rfl
theorem ty_zeroCells_90 : zeroCells Tryd.prog 90 = Option.some [Go.Abs.CV.top] := by kernel_rfl
theorem ty_isBoolT_90 : isBoolT Tryd.prog 90 = Bool.false := by kernel_rfl
theorem ty_isPtrT_90 : isPtrT Tryd.prog 90 = Bool.false := by kernel_rfl
theorem ty_concreteT_90 : concreteT Tryd.prog 90 = Bool.true := by kernel_rfl
theorem ty_isU8_90 : isU8 Tryd.prog 90 = Bool.false := by kernel_rfl
theorem ty_shapeT_91 : shapeT Tryd.prog 91 = Option.some Option.none := by kernel_rfl
theorem ty_szOf_91 : szOf Tryd.prog 91 = Option.some 1 := by kernel_rfl
theorem ty_zeroCells_91 : zeroCells Tryd.prog 91 = Option.some [Go.Abs.CV.top] := by kernel_rfl
theorem ty_isBoolT_91 : isBoolT Tryd.prog 91 = Bool.false := by kernel_rfl
theorem ty_isPtrT_91 : isPtrT Tryd.prog 91 = Bool.false := by kernel_rfl
theorem ty_concreteT_91 : concreteT Tryd.prog 91 = Bool.true := by kernel_rfl
theorem ty_isU8_91 : isU8 Tryd.prog 91 = Bool.false := by kernel_rfl
theorem ty_shapeT_92 : shapeT Tryd.prog 92 = Option.some Option.none := by kernel_rfl
theorem ty_szOf_92 : szOf Tryd.prog 92 = Option.some 1 := by kernel_rfl
theorem ty_zeroCells_92 : zeroCells Tryd.prog 92 = Option.some [Go.Abs.CV.top] := by kernel_rfl
theorem ty_isBoolT_92 : isBoolT Tryd.prog 92 = Bool.false := by kernel_rfl
theorem ty_isPtrT_92 : isPtrT Tryd.prog 92 = Bool.false := by kernel_rfl
theorem ty_concreteT_92 : concreteT Tryd.prog 92 = Bool.true := by kernel_rfl
theorem ty_isU8_92 : isU8 Tryd.prog 92 = Bool.false := by kernel_rfl
theorem ty_shapeT_93 : shapeT Tryd.prog 93 = Option.some Option.none := by kernel_rfl
theorem ty_szOf_93 : szOf Tryd.prog 93 = Option.some 1 := by kernel_rfl
theorem ty_zeroCells_93 : zeroCells Tryd.prog 93 = Option.some [Go.Abs.CV.top] := by kernel_rfl
theorem ty_isBoolT_93 : isBoolT Tryd.prog 93 = Bool.false := by kernel_rfl
theorem ty_isPtrT_93 : isPtrT Tryd.prog 93 = Bool.false := by kernel_rfl
theorem ty_concreteT_93 : concreteT Tryd.prog 93 = Bool.true := by kernel_rfl
theorem ty_isU8_93 : isU8 Tryd.prog 93 = Bool.false := by kernel_rfl
theorem ty_shapeT_94 : shapeT Tryd.prog 94 = Option.some Option.none := by kernel_rfl
theorem ty_szOf_94 : szOf Tryd.prog 94 = Option.some 1 := by kernel_rfl
theorem ty_zeroCells_94 : zeroCells Tryd.prog 94 = Option.some [Go.Abs.CV.top] := by kernel_rfl
theorem ty_isBoolT_94 : isBoolT Tryd.prog 94 = Bool.false := by kernel_rfl
theorem ty_isPtrT_94 : isPtrT Tryd.prog 94 = Bool.false := by kernel_rfl
theorem ty_concreteT_94 : concreteT Tryd.prog 94 = Bool.true := by kernel_rfl
theorem ty_isU8_94 : isU8 Tryd.prog 94 = Bool.false := by kernel_rfl
theorem ty_shapeT_95 : shapeT Tryd.prog 95 = Option.some Option.none := by kernel_rfl
theorem ty_szOf_95 : szOf Tryd.prog 95 = Option.some 1 := by kernel_rfl
theorem ty_zeroCells_95 : zeroCells Tryd.prog 95 = Option.some [Go.Abs.CV.top] := by kernel_rfl
theorem ty_isBoolT_95 : isBoolT Tryd.prog 95 = Bool.false := by kernel_rfl
theorem ty_isPtrT_95 : isPtrT Tryd.prog 95 = Bool.false := by kernel_rfl
theorem ty_concreteT_95 : concreteT Tryd.prog 95 = Bool.true := by kernel_rfl
theorem ty_isU8_95 : isU8 Tryd.prog 95 = Bool.false := by kernel_rfl
theorem ty_shapeT_96 : shapeT Tryd.prog 96 = Option.some (Option.some 24) := by kernel_rfl
theorem ty_szOf_96 : szOf Tryd.prog 96 = Option.some 24 := by kernel_rfl
theorem ty_zeroCells_96 : zeroCells Tryd.prog 96 = Option.some [Go.Abs.CV.pv (Go.Abs.PV.int Go.IntKind.u8 0), Go.Abs.CV.pv (Go.Abs.PV.int Go.IntKind.u8 0), Go.Abs.CV.pv (Go.Abs.PV.int Go.IntKind.u8 0), Go.Abs.CV.pv (Go.Abs.PV.int Go.IntKind.u8 0), Go.Abs.CV.pv (Go.Abs.PV.int Go.IntKind.u8 0), Go.Abs.CV.pv (Go.Abs.PV.int Go.IntKind.u8 0), Go.Abs.CV.pv (Go.Abs.PV.int Go.IntKind.u8 0), Go.Abs.CV.pv (Go.Abs.PV.int Go.IntKind.u8 0), Go.Abs.CV.pv (Go.Abs.PV.int Go.IntKind.u8 0), Go.Abs.CV.pv (Go.Abs.PV.int Go.IntKind.u8 0), Go.Abs.CV.pv (Go.Abs.PV.int Go.IntKind.u8 0), Go.Abs.CV.pv (Go.Abs.PV.int Go.IntKind.u8 0), Go.Abs.CV.pv (Go.Abs.PV.int Go.IntKind.u8 0), Go.Abs.CV.pv (Go.Abs.PV.int Go.IntKind.u8 0), Go.Abs.CV.pv (Go.Abs.PV.int Go.IntKind.u8 0), Go.Abs.CV.pv (Go.Abs.PV.int Go.IntKind.u8 0), Go.Abs.CV.pv (Go.Abs.PV.int Go.IntKind.u8 0), Go.Abs.CV.pv (Go.Abs.PV.int Go.IntKind.u8 0), Go.Abs.CV.pv (Go.Abs.PV.int Go.IntKind.u8 0), Go.Abs.CV.pv (Go.Abs.PV.int Go.IntKind.u8 0), Go.Abs.CV.pv (Go.Abs.PV.int Go.IntKind.u8 0), Go.Abs.CV.pv (Go.Abs.PV.int Go.IntKind.u8 0), Go.Abs.CV.pv (Go.Abs.PV.int Go.IntKind.u8 0), Go.Abs.CV.pv (Go.Abs.PV.int Go.IntKind.u8 0)] := by kernel_rfl
theorem ty_isBoolT_96 : isBoolT Tryd.prog 96 = Bool.false := by kernel_rfl
theorem ty_isPtrT_96 : isPtrT Tryd.prog 96 = Bool.false := by kernel_rfl
theorem ty_concreteT_96 : concreteT Tryd.prog 96 = Bool.true := by kernel_rfl
theorem ty_isU8_96 : isU8 Tryd.prog 96 = Bool.false := by kernel_rfl
theorem ty_tvZero_96 : tvZero Tryd.prog 96 = Option.some (Go.Abs.TV.agg [Go.Abs.CV.pv (Go.Abs.PV.int Go.IntKind.u8 0), Go.Abs.CV.pv (Go.Abs.PV.int Go.IntKind.u8 0), Go.Abs.CV.pv (Go.Abs.PV.int Go.IntKind.u8 0), Go.Abs.CV.pv (Go.Abs.PV.int Go.IntKind.u8 0), Go.Abs.CV.pv (Go.Abs.PV.int Go.IntKind.u8 0), Go.Abs.CV.pv (Go.Abs.PV.int Go.IntKind.u8 0), Go.Abs.CV.pv (Go.Abs.PV.int Go.IntKind.u8 0), Go.Abs.CV.pv (Go.Abs.PV.int Go.IntKind.u8 0), Go.Abs.CV.pv (Go.Abs.PV.int Go.IntKind.u8 0), Go.Abs.CV.pv (Go.Abs.PV.int Go.IntKind.u8 0), Go.Abs.CV.pv (Go.Abs.PV.int Go.IntKind.u8 0), Go.Abs.CV.pv (Go.Abs.PV.int Go.IntKind.u8 0), Go.Abs.CV.pv (Go.Abs.PV.int Go.IntKind.u8 0), Go.Abs.CV.pv (Go.Abs.PV.int Go.IntKind.u8 0), Go.Abs.CV.pv (Go.Abs.PV.int Go.IntKind.u8 0), Go.Abs.CV.pv (Go.Abs.PV.int Go.IntKind.u8 0), Go.Abs.CV.pv (Go.Abs.PV.int Go.IntKind.u8 0), Go.Abs.CV.pv (Go.Abs.PV.int Go.IntKind.u8 0), Go.Abs.CV.pv (Go.Abs.PV.int Go.IntKind.u8 0), Go.Abs.CV.pv (Go.Abs.PV.int Go.IntKind.u8 0), Go.Abs.CV.pv (Go.Abs.PV.int Go.IntKind.u8 0), Go.Abs.CV.pv (Go.Abs.PV.int Go.IntKind.u8 0), Go.Abs.CV.pv (Go.Abs.PV.int Go.IntKind.u8 0), Go.Abs.CV.pv (Go.Abs.PV.int Go.IntKind.u8 0)]) := by kernel_rfl
theorem ty_shapeT_97 : shapeT Tryd.prog 97 = Option.some Option.none := by kernel_rfl
theorem ty_szOf_97 : szOf Tryd.prog 97 = Option.some 1 := by kernel_rfl
theorem ty_zeroCells_97 : zeroCells Tryd.prog 97 = Option.some [Go.Abs.CV.pv (Go.Abs.PV.int Go.IntKind.u64 0)] := by kernel_rfl
theorem ty_descOf_97 : descOf Tryd.prog 97 = Option.some (Go.Abs.Desc.int Go.IntKind.u64) := by kernel_rfl
theorem ty_isBoolT_97 : isBoolT Tryd.prog 97 = Bool.false := by kernel_rfl
theorem ty_isPtrT_97 : isPtrT Tryd.prog 97 = Bool.false := by kernel_rfl
theorem ty_concreteT_97 : concreteT Tryd.prog 97 = Bool.true := by kernel_rfl
theorem ty_isU8_97 : isU8 Tryd.prog 97 = Bool.false := by kernel_rfl
theorem ty_tvZero_97 : tvZero Tryd.prog 97 = Option.some (Go.Abs.TV.c (Go.Abs.CV.pv (Go.Abs.PV.int Go.IntKind.u64 0))) := by kernel_rfl
theorem ty_shapeT_98 : shapeT Tryd.prog 98 = Option.some Option.none := by kernel_rfl
theorem ty_szOf_98 : szOf Tryd.prog 98 = Option.some 1 := by kernel_rfl
theorem ty_zeroCells_98 : zeroCells Tryd.prog 98 = Option.some [Go.Abs.CV.top] := by kernel_rfl
theorem ty_isBoolT_98 : isBoolT Tryd.prog 98 = Bool.false := by kernel_rfl
theorem ty_isPtrT_98 : isPtrT Tryd.prog 98 = Bool.false := by kernel_rfl
theorem ty_concreteT_98 : concreteT Tryd.prog 98 = Bool.true := by kernel_rfl
theorem ty_isU8_98 : isU8 Tryd.prog 98 = Bool.false := by kernel_rfl
theorem ty_shapeT_99 : shapeT Tryd.prog 99 = Option.some Option.none := by kernel_rfl
theorem ty_szOf_99 : szOf Tryd.prog 99 = Option.some 1 := by kernel_rfl
theorem ty_zeroCells_99 : zeroCells Tryd.prog 99 = Option.some [Go.Abs.CV.top] := by kernel_rfl
theorem ty_isBoolT_99 : isBoolT Tryd.prog 99 = Bool.false := by kernel_rfl
theorem ty_isPtrT_99 : isPtrT Tryd.prog 99 = Bool.false := by kernel_rfl
theorem ty_concreteT_99 : concreteT Tryd.prog 99 = Bool.true := by kernel_rfl
theorem ty_isU8_99 : isU8 Tryd.prog 99 = Bool.false := by kernel_rfl
theorem ty_shapeT_100 : shapeT Tryd.prog 100 = Option.some Option.none := by kernel_rfl
theorem ty_szOf_100 : szOf Tryd.prog 100 = Option.some 1 := by kernel_rfl
theorem ty_isBoolT_100 : isBoolT Tryd.prog 100 = Bool.false := by kernel_rfl
theorem ty_isPtrT_100 : isPtrT Tryd.prog 100 = Bool.false := by kernel_rfl
theorem ty_concreteT_100 : concreteT Tryd.prog 100 = Bool.true := by kernel_rfl
theorem ty_isU8_100 : isU8 Tryd.prog 100 = Bool.false := by kernel_rfl
theorem ty_shapeT_101 : shapeT Tryd.prog 101 = Option.some Option.none := by kernel_rfl
theorem ty_szOf_101 : szOf Tryd.prog 101 = Option.some 1 := by kernel_rfl
theorem ty_zeroCells_101 : zeroCells Tryd.prog 101 = Option.some [Go.Abs.CV.top] := by kernel_rfl
theorem ty_isBoolT_101 : isBoolT Tryd.prog 101 = Bool.false := by kernel_rfl
theorem ty_isPtrT_101 : isPtrT Tryd.prog 101 = Bool.false := by kernel_rfl
theorem ty_concreteT_101 : concreteT Tryd.prog 101 = Bool.true := by kernel_rfl
theorem ty_isU8_101 : isU8 Tryd.prog 101 = Bool.false := by kernel_rfl
theorem ty_shapeT_102 : shapeT Tryd.prog 102 = Option.some Option.none := by kernel_rfl
theorem ty_szOf_102 : szOf Tryd.prog 102 = Option.some 1 := by kernel_rfl
theorem ty_zeroCells_102 : zeroCells Tryd.prog 102 = Option.some [Go.Abs.CV.top] := by kernel_rfl
theorem ty_isBoolT_102 : isBoolT Tryd.prog 102 = Bool.false := by kernel_rfl
theorem ty_isPtrT_102 : isPtrT Tryd.prog 102 = Bool.false := by kernel_rfl
theorem ty_concreteT_102 : concreteT Tryd.prog 102 = Bool.true := by kernel_rfl
theorem ty_isU8_102 : isU8 Tryd.prog 102 = Bool.false := by kernel_rfl
theorem ty_shapeT_103 : shapeT Tryd.prog 103 = Option.some (Option.some 20) := by kernel_rfl
theorem ty_szOf_103 : szOf Tryd.prog 103 = Option.some 20 := by kernel_rfl
theorem ty_zeroCells_103 : zeroCells Tryd.prog 103 = Option.some [Go.Abs.CV.pv (Go.Abs.PV.int Go.IntKind.u64 0), Go.Abs.CV.pv (Go.Abs.PV.int Go.IntKind.u64 0), Go.Abs.CV.pv (Go.Abs.PV.int Go.IntKind.u64 0), Go.Abs.CV.pv (Go.Abs.PV.int Go.IntKind.u64 0), Go.Abs.CV.pv (Go.Abs.PV.int Go.IntKind.u64 0), Go.Abs.CV.pv (Go.Abs.PV.int Go.IntKind.u64 0), Go.Abs.CV.pv (Go.Abs.PV.int Go.IntKind.u64 0), Go.Abs.CV.pv (Go.Abs.PV.int Go.IntKind.u64 0), Go.Abs.CV.pv (Go.Abs.PV.int Go.IntKind.u64 0), Go.Abs.CV.pv (Go.Abs.PV.int Go.IntKind.u64 0), Go.Abs.CV.pv (Go.Abs.PV.int Go.IntKind.u64 0), Go.Abs.CV.pv (Go.Abs.PV.int Go.IntKind.u64 0), Go.Abs.CV.pv (Go.Abs.PV.int Go.IntKind.u64 0), Go.Abs.CV.pv (Go.Abs.PV.int Go.IntKind.u64 0), Go.Abs.CV.pv (Go.Abs.PV.int Go.IntKind.u64 0), Go.Abs.CV.pv (Go.Abs.PV.int Go.IntKind.u64 0), Go.Abs.CV.pv (Go.Abs.PV.int Go.IntKind.u64 0), Go.Abs.CV.pv (Go.Abs.PV.int Go.IntKind.u64 0), Go.Abs.CV.pv (Go.Abs.PV.int Go.IntKind.u64 0), Go.Abs.CV.pv (Go.Abs.PV.int Go.IntKind.u64 0)] := by kernel_rfl
theorem ty_isBoolT_103 : isBoolT Tryd.prog 103 = Bool.false := by kernel_rfl
theorem ty_isPtrT_103 : isPtrT Tryd.prog 103 = Bool.false := by kernel_rfl
theorem ty_concreteT_103 : concreteT Tryd.prog 103 = Bool.true := by kernel_rfl
theorem ty_isU8_103 : isU8 Tryd.prog 103 = Bool.false := by kernel_rfl
theorem ty_tvZero_103 : tvZero Tryd.prog 103 = Option.some (Go.Abs.TV.agg [Go.Abs.CV.pv (Go.Abs.PV.int Go.IntKind.u64 0), Go.Abs.CV.pv (Go.Abs.PV.int Go.IntKind.u64 0), Go.Abs.CV.pv (Go.Abs.PV.int Go.IntKind.u64 0), Go.Abs.CV.pv (Go.Abs.PV.int Go.IntKind.u64 0), Go.Abs.CV.pv (Go.Abs.PV.int Go.IntKind.u64 0), Go.Abs.CV.pv (Go.Abs.PV.int Go.IntKind.u64 0), Go.Abs.CV.pv (Go.Abs.PV.int Go.IntKind.u64 0), Go.Abs.CV.pv (Go.Abs.PV.int Go.IntKind.u64 0), Go.Abs.CV.pv (Go.Abs.PV.int Go.IntKind.u64 0), Go.Abs.CV.pv (Go.Abs.PV.int Go.IntKind.u64 0), Go.Abs.CV.pv (Go.Abs.PV.int Go.IntKind.u64 0), Go.Abs.CV.pv (Go.Abs.PV.int Go.IntKind.u64 0), Go.Abs.CV.pv (Go.Abs.PV.int Go.IntKind.u64 0), Go.Abs.CV.pv (Go.Abs.PV.int Go.IntKind.u64 0), Go.Abs.CV.pv (Go.Abs.PV.int Go.IntKind.u64 0), Go.Abs.CV.pv (Go.Abs.PV.int Go.IntKind.u64 0), Go.Abs.CV.pv (Go.Abs.PV.int Go.IntKind.u64 0), Go.Abs.CV.pv (Go.Abs.PV.int Go.IntKind.u64 0), Go.Abs.CV.pv (Go.Abs.PV.int Go.IntKind.u64 0), Go.Abs.CV.pv (Go.Abs.PV.int Go.IntKind.u64 0)]) := by kernel_rfl
theorem ty_shapeT_104 : shapeT Tryd.prog 104 = Option.some Option.none := by kernel_rfl
theorem ty_szOf_104 : szOf Tryd.prog 104 = Option.some 1 := by kernel_rfl
theorem ty_zeroCells_104 : zeroCells Tryd.prog 104 = Option.some [Go.Abs.CV.pv (Go.Abs.PV.int Go.IntKind.u32 0)] := by kernel_rfl
theorem ty_descOf_104 : descOf Tryd.prog 104 = Option.some (Go.Abs.Desc.int Go.IntKind.u32) := by kernel_rfl
theorem ty_isBoolT_104 : isBoolT Tryd.prog 104 = Bool.false := by kernel_rfl
theorem ty_isPtrT_104 : isPtrT Tryd.prog 104 = Bool.false := by kernel_rfl
theorem ty_concreteT_104 : concreteT Tryd.prog 104 = Bool.true := by kernel_rfl
theorem ty_isU8_104 : isU8 Tryd.prog 104 = Bool.false := by kernel_rfl
theorem ty_tvZero_104 : tvZero Tryd.prog 104 = Option.some (Go.Abs.TV.c (Go.Abs.CV.pv (Go.Abs.PV.int Go.IntKind.u32 0))) := by kernel_rfl
theorem ty_shapeT_105 : shapeT Tryd.prog 105 = Option.some (Option.some 65) := by kernel_rfl
theorem ty_szOf_105 : szOf Tryd.prog 105 = Option.some 65 := by kernel_rfl
theorem ty_zeroCells_105 : zeroCells Tryd.prog 105 = Option.some [Go.Abs.CV.pv (Go.Abs.PV.int Go.IntKind.u8 0), Go.Abs.CV.pv (Go.Abs.PV.int Go.IntKind.u8 0), Go.Abs.CV.pv (Go.Abs.PV.int Go.IntKind.u8 0), Go.Abs.CV.pv (Go.Abs.PV.int Go.IntKind.u8 0), Go.Abs.CV.pv (Go.Abs.PV.int Go.IntKind.u8 0), Go.Abs.CV.pv (Go.Abs.PV.int Go.IntKind.u8 0), Go.Abs.CV.pv (Go.Abs.PV.int Go.IntKind.u8 0), Go.Abs.CV.pv (Go.Abs.PV.int Go.IntKind.u8 0), Go.Abs.CV.pv (Go.Abs.PV.int Go.IntKind.u8 0), Go.Abs.CV.pv (Go.Abs.PV.int Go.IntKind.u8 0), Go.Abs.CV.pv (Go.Abs.PV.int Go.IntKind.u8 0), Go.Abs.CV.pv (Go.Abs.PV.int Go.IntKind.u8 0), Go.Abs.CV.pv (Go.Abs.PV.int Go.IntKind.u8 0), Go.Abs.CV.pv (Go.Abs.PV.int Go.IntKind.u8 0), Go.Abs.CV.pv (Go.Abs.PV.int Go.IntKind.u8 0), Go.Abs.CV.pv (Go.Abs.PV.int Go.IntKind.u8 0), Go.Abs.CV.pv (Go.Abs.PV.int Go.IntKind.u8 0), Go.Abs.CV.pv (Go.Abs.PV.int Go.IntKind.u8 0), Go.Abs.CV.pv (Go.Abs.PV.int Go.IntKind.u8 0), Go.Abs.CV.pv (Go.Abs.PV.int Go.IntKind.u8 0), Go.Abs.CV.pv (Go.Abs.PV.int Go.IntKind.u8 0), Go.Abs.CV.pv (Go.Abs.PV.int Go.IntKind.u8 0), Go.Abs.CV.pv (Go.Abs.PV.int Go.IntKind.u8 0), Go.Abs.CV.pv (Go.Abs.PV.int Go.IntKind.u8 0), Go.Abs.CV.pv (Go.Abs.PV.int Go.IntKind.u8 0), Go.Abs.CV.pv (Go.Abs.PV.int Go.IntKind.u8 0), Go.Abs.CV.pv (Go.Abs.PV.int Go.IntKind.u8 0), Go.Abs.CV.pv (Go.Abs.PV.int Go.IntKind.u8 0), Go.Abs.CV.pv (Go.Abs.PV.int Go.IntKind.u8 0), Go.Abs.CV.pv (Go.Abs.PV.int Go.IntKind.u8 0), Go.Abs.CV.pv (Go.Abs.PV.int Go.IntKind.u8 0), Go.Abs.CV.pv (Go.Abs.PV.int Go.IntKind.u8 0), Go.Abs.CV.pv (Go.Abs.PV.int Go.IntKind.u8 0), Go.Abs.CV.pv (Go.Abs.PV.int Go.IntKind.u8 0), Go.Abs.CV.pv (Go.Abs.PV.int Go.IntKind.u8 0), Go.Abs.CV.pv (Go.Abs.PV.int Go.IntKind.u8 0), Go.Abs.CV.pv (Go.Abs.PV.int Go.IntKind.u8 0), Go.Abs.CV.pv (Go.Abs.PV.int Go.IntKind.u8 0), Go.Abs.CV.pv (Go.Abs.PV.int Go.IntKind.u8 0), Go.Abs.CV.pv (Go.Abs.PV.int Go.IntKind.u8 0), Go.Abs.CV.pv (Go.Abs.PV.int Go.IntKind.u8 0), Go.Abs.CV.pv (Go.Abs.PV.int Go.IntKind.u8 0), Go.Abs.CV.pv (Go.Abs.PV.int Go.IntKind.u8 0), Go.Abs.CV.pv (Go.Abs.PV.int Go.IntKind.u8 0), Go.Abs.CV.pv (Go.Abs.PV.int Go.IntKind.u8 0), Go.Abs.CV.pv (Go.Abs.PV.int Go.IntKind.u8 0), Go.Abs.CV.pv (Go.Abs.PV.int Go.IntKind.u8 0), Go.Abs.CV.pv (Go.Abs.PV.int Go.IntKind.u8 0), Go.Abs.CV.pv (Go.Abs.PV.int Go.IntKind.u8 0), Go.Abs.CV.pv (Go.Abs.PV.int Go.IntKind.u8 0), Go.Abs.CV.pv (Go.Abs.PV.int Go.IntKind.u8 0), Go.Abs.CV.pv (Go.Abs.PV.int Go.IntKind.u8 0), Go.Abs.CV.pv (Go.Abs.PV.int Go.IntKind.u8 0), Go.Abs.CV.pv (Go.Abs.PV.int Go.IntKind.u8 0), Go.Abs.CV.pv (Go.Abs.PV.int Go.IntKind.u8 0), Go.Abs.CV.pv (Go.Abs.PV.int Go.IntKind.u8 0), Go.Abs.CV.pv (Go.Abs.PV.int Go.IntKind.u8 0), Go.Abs.CV.pv (Go.Abs.PV.int Go.IntKind.u8 0), Go.Abs.CV.pv (Go.Abs.PV.int Go.IntKind.u8 0), Go.Abs.CV.pv (Go.Abs.PV.int Go.IntKind.u8 0), Go.Abs.CV.pv (Go.Abs.PV.int Go.IntKind.u8 0), Go.Abs.CV.pv (Go.Abs.PV.int Go.IntKind.u8 0), Go.Abs.CV.pv (Go.Abs.PV.int Go.IntKind.u8 0), Go.Abs.CV.pv (Go.Abs.PV.int Go.IntKind.u8 0), Go.Abs.CV.pv (Go.Abs.PV.int Go.IntKind.u8 0)] := by kernel_rfl
theorem ty_isBoolT_105 : isBoolT Tryd.prog 105 = Bool.false := by kernel_rfl
theorem ty_isPtrT_105 : isPtrT Tryd.prog 105 = Bool.false := by kernel_rfl
theorem ty_concreteT_105 : concreteT Tryd.prog 105 = Bool.true := by kernel_rfl
theorem ty_isU8_105 : isU8 Tryd.prog 105 = Bool.false := by kernel_rfl
theorem ty_tvZero_105 : tvZero Tryd.prog 105 = Option.some (Go.Abs.TV.agg [Go.Abs.CV.pv (Go.Abs.PV.int Go.IntKind.u8 0), Go.Abs.CV.pv (Go.Abs.PV.int Go.IntKind.u8 0), Go.Abs.CV.pv (Go.Abs.PV.int Go.IntKind.u8 0), Go.Abs.CV.pv (Go.Abs.PV.int Go.IntKind.u8 0), Go.Abs.CV.pv (Go.Abs.PV.int Go.IntKind.u8 0), Go.Abs.CV.pv (Go.Abs.PV.int Go.IntKind.u8 0), Go.Abs.CV.pv (Go.Abs.PV.int Go.IntKind.u8 0), Go.Abs.CV.pv (Go.Abs.PV.int Go.IntKind.u8 0), Go.Abs.CV.pv (Go.Abs.PV.int Go.IntKind.u8 0), Go.Abs.CV.pv (Go.Abs.PV.int Go.IntKind.u8 0), Go.Abs.CV.pv (Go.Abs.PV.int Go.IntKind.u8 0), Go.Abs.CV.pv (Go.Abs.PV.int Go.IntKind.u8 0), Go.Abs.CV.pv (Go.Abs.PV.int Go.IntKind.u8 0), Go.Abs.CV.pv (Go.Abs.PV.int Go.IntKind.u8 0), Go.Abs.CV.pv (Go.Abs.PV.int Go.IntKind.u8 0), Go.Abs.CV.pv (Go.Abs.PV.int Go.IntKind.u8 0), Go.Abs.CV.pv (Go.Abs.PV.int Go.IntKind.u8 0), Go.Abs.CV.pv (Go.Abs.PV.int Go.IntKind.u8 0), Go.Abs.CV.pv (Go.Abs.PV.int Go.IntKind.u8 0), Go.Abs.CV.pv (Go.Abs.PV.int Go.IntKind.u8 0), Go.Abs.CV.pv (Go.Abs.PV.int Go.IntKind.u8 0), Go.Abs.CV.pv (Go.Abs.PV.int Go.IntKind.u8 0), Go.Abs.CV.pv (Go.Abs.PV.int Go.IntKind.u8 0), Go.Abs.CV.pv (Go.Abs.PV.int Go.IntKind.u8 0), Go.Abs.CV.pv (Go.Abs.PV.int Go.IntKind.u8 0), Go.Abs.CV.pv (Go.Abs.PV.int Go.IntKind.u8 0), Go.Abs.CV.pv (Go.Abs.PV.int Go.IntKind.u8 0), Go.Abs.CV.pv (Go.Abs.PV.int Go.IntKind.u8 0), Go.Abs.CV.pv (Go.Abs.PV.int Go.IntKind.u8 0), Go.Abs.CV.pv (Go.Abs.PV.int Go.IntKind.u8 0), Go.Abs.CV.pv (Go.Abs.PV.int Go.IntKind.u8 0), Go.Abs.CV.pv (Go.Abs.PV.int Go.IntKind.u8 0), Go.Abs.CV.pv (Go.Abs.PV.int Go.IntKind.u8 0), Go.Abs.CV.pv (Go.Abs.PV.int Go.IntKind.u8 0), Go.Abs.CV.pv (Go.Abs.PV.int Go.IntKind.u8 0), Go.Abs.CV.pv (Go.Abs.PV.int Go.IntKind.u8 0), Go.Abs.CV.pv (Go.Abs.PV.int Go.IntKind.u8 0), Go.Abs.CV.pv (Go.Abs.PV.int Go.IntKind.u8 0), Go.Abs.CV.pv (Go.Abs.PV.int Go.IntKind.u8 0), Go.Abs.CV.pv (Go.Abs.PV.int Go.IntKind.u8 0), Go.Abs.CV.pv (Go.Abs.PV.int Go.IntKind.u8 0), Go.Abs.CV.pv (Go.Abs.PV.int Go.IntKind.u8 0), Go.Abs.CV.pv (Go.Abs.PV.int Go.IntKind.u8 0), Go.Abs.CV.pv (Go.Abs.PV.int Go.IntKind.u8 0), Go.Abs.CV.pv (Go.Abs.PV.int Go.IntKind.u8 0), Go.Abs.CV.pv (Go.Abs.PV.int Go.IntKind.u8 0), Go.Abs.CV.pv (Go.Abs.PV.int Go.IntKind.u8 0), Go.Abs.CV.pv (Go.Abs.PV.int Go.IntKind.u8 0), Go.Abs.CV.pv (Go.Abs.PV.int Go.IntKind.u8 0), Go.Abs.CV.pv (Go.Abs.PV.int Go.IntKind.u8 0), Go.Abs.CV.pv (Go.Abs.PV.int Go.IntKind.u8 0), Go.Abs.CV.pv (Go.Abs.PV.int Go.IntKind.u8 0), Go.Abs.CV.pv (Go.Abs.PV.int Go.IntKind.u8 0), Go.Abs.CV.pv (Go.Abs.PV.int Go.IntKind.u8 0), Go.Abs.CV.pv (Go.Abs.PV.int Go.IntKind.u8 0), Go.Abs.CV.pv (Go.Abs.PV.int Go.IntKind.u8 0), Go.Abs.CV.pv (Go.Abs.PV.int Go.IntKind.u8 0), Go.Abs.CV.pv (Go.Abs.PV.int Go.IntKind.u8 0), Go.Abs.CV.pv (Go.Abs.PV.int Go.IntKind.u8 0), Go.Abs.CV.pv (Go.Abs.PV.int Go.IntKind.u8 0), Go.Abs.CV.pv (Go.Abs.PV.int Go.IntKind.u8 0), Go.Abs.CV.pv (Go.Abs.PV.int Go.IntKind.u8 0), Go.Abs.CV.pv (Go.Abs.PV.int Go.IntKind.u8 0), Go.Abs.CV.pv (Go.Abs.PV.int Go.IntKind.u8 0), Go.Abs.CV.pv (Go.Abs.PV.int Go.IntKind.u8 0)]) := by kernel_rfl
theorem ty_shapeT_106 : shapeT Tryd.prog 106 = Option.some Option.none := by kernel_rfl
theorem ty_szOf_106 : szOf Tryd.prog 106 = Option.some 1 := by kernel_rfl
theorem ty_zeroCells_106 : zeroCells Tryd.prog 106 = Option.some [Go.Abs.CV.top] := by kernel_rfl
theorem ty_isBoolT_106 : isBoolT Tryd.prog 106 = Bool.false := by kernel_rfl
theorem ty_isPtrT_106 : isPtrT Tryd.prog 106 = Bool.false := by kernel_rfl
theorem ty_concreteT_106 : concreteT Tryd.prog 106 = Bool.true := by kernel_rfl
theorem ty_isU8_106 : isU8 Tryd.prog 106 = Bool.false := by kernel_rfl
theorem ty_shapeT_107 : shapeT Tryd.prog 107 = Option.some Option.none := by kernel_rfl
theorem ty_szOf_107 : szOf Tryd.prog 107 = Option.some 1 := by kernel_rfl
theorem ty_zeroCells_107 : zeroCells Tryd.prog 107 = Option.some [Go.Abs.CV.pv (Go.Abs.PV.int Go.IntKind.u64 0)] := by kernel_rfl
theorem ty_descOf_107 : descOf Tryd.prog 107 = Option.some (Go.Abs.Desc.int Go.IntKind.u64) := by kernel_rfl
theorem ty_isBoolT_107 : isBoolT Tryd.prog 107 = Bool.false := by kernel_rfl
theorem ty_isPtrT_107 : isPtrT Tryd.prog 107 = Bool.false := by kernel_rfl
theorem ty_concreteT_107 : concreteT Tryd.prog 107 = Bool.true := by kernel_rfl
theorem ty_isU8_107 : isU8 Tryd.prog 107 = Bool.false := by kernel_rfl
theorem ty_tvZero_107 : tvZero Tryd.prog 107 = Option.some (Go.Abs.TV.c (Go.Abs.CV.pv (Go.Abs.PV.int Go.IntKind.u64 0))) := by kernel_rfl
theorem ty_shapeT_108 : shapeT Tryd.prog 108 = Option.some Option.none := by kernel_rfl
theorem ty_szOf_108 : szOf Tryd.prog 108 = Option.some 1 := by kernel_rfl
theorem ty_zeroCells_108 : zeroCells Tryd.prog 108 = Option.some [Go.Abs.CV.top] := by kernel_rfl
theorem ty_isBoolT_108 : isBoolT Tryd.prog 108 = Bool.false := by kernel_rfl
theorem ty_isPtrT_108 : isPtrT Tryd.prog 108 = Bool.false := by kernel_rfl
theorem ty_concreteT_108 : concreteT Tryd.prog 108 = Bool.true := by kernel_rfl
theorem ty_isU8_108 : isU8 Tryd.prog 108 = Bool.false := by kernel_rfl
theorem ty_shapeT_109 : shapeT Tryd.prog 109 = Option.some Option.none := by kernel_rfl
theorem ty_szOf_109 : szOf Tryd.prog 109 = Option.some 1 := by kernel_rfl
theorem ty_zeroCells_109 : zeroCells Tryd.prog 109 = Option.some [Go.Abs.CV.top] := by kernel_rfl
theorem ty_isBoolT_109 : isBoolT Tryd.prog 109 = Bool.false := by kernel_rfl
theorem ty_isPtrT_109 : isPtrT Tryd.prog 109 = Bool.false := by kernel_rfl
theorem ty_concreteT_109 : concreteT Tryd.prog 109 = Bool.true := by kernel_rfl
theorem ty_isU8_109 : isU8 Tryd.prog 109 = Bool.false := by kernel_rfl
theorem ty_shapeT_110 : shapeT Tryd.prog 110 = Option.some (Option.some 256) := by kernel_rfl
theorem ty_szOf_110 : szOf Tryd.prog 110 = Option.some 256 := by kernel_rfl
theorem ty_zeroCells_110 : zeroCells Tryd.prog 110 = Option.some [Go.Abs.CV.pv (Go.Abs.PV.bool Bool.false), Go.Abs.CV.pv (Go.Abs.PV.bool Bool.false), Go.Abs.CV.pv (Go.Abs.PV.bool Bool.false), Go.Abs.CV.pv (Go.Abs.PV.bool Bool.false), Go.Abs.CV.pv (Go.Abs.PV.bool Bool.false), Go.Abs.CV.pv (Go.Abs.PV.bool Bool.false), Go.Abs.CV.pv (Go.Abs.PV.bool Bool.false), Go.Abs.CV.pv (Go.Abs.PV.bool Bool.false), Go.Abs.CV.pv (Go.Abs.PV.bool Bool.false), Go.Abs.CV.pv (Go.Abs.PV.bool Bool.false), Go.Abs.CV.pv (Go.Abs.PV.bool Bool.false), Go.Abs.CV.pv (Go.Abs.PV.bool Bool.false), Go.Abs.CV.pv (Go.Abs.PV.bool Bool.false), Go.Abs.CV.pv (Go.Abs.PV.bool Bool.false), Go.Abs.CV.pv (Go.Abs.PV.bool Bool.false), Go.Abs.CV.pv (Go.Abs.PV.bool Bool.false), Go.Abs.CV.pv (Go.Abs.PV.bool Bool.false), Go.Abs.CV.pv (Go.Abs.PV.bool Bool.false), Go.Abs.CV.pv (Go.Abs.PV.bool Bool.false), Go.Abs.CV.pv (Go.Abs.PV.bool Bool.false), Go.Abs.CV.pv (Go.Abs.PV.bool Bool.false), Go.Abs.CV.pv (Go.Abs.PV.bool Bool.false), Go.Abs.CV.pv (Go.Abs.PV.bool Bool.false), Go.Abs.CV.pv (Go.Abs.PV.bool Bool.false), Go.Abs.CV.pv (Go.Abs.PV.bool Bool.false), Go.Abs.CV.pv (Go.Abs.PV.bool Bool.false), Go.Abs.CV.pv (Go.Abs.PV.bool Bool.false), Go.Abs.CV.pv (Go.Abs.PV.bool Bool.false), Go.Abs.CV.pv (Go.Abs.PV.bool Bool.false), Go.Abs.CV.pv (Go.Abs.PV.bool Bool.false), Go.Abs.CV.pv (Go.Abs.PV.bool Bool.false), Go.Abs.CV.pv (Go.Abs.PV.bool Bool.false), Go.Abs.CV.pv (Go.Abs.PV.bool Bool.false), Go.Abs.CV.pv (Go.Abs.PV.bool Bool.false), Go.Abs.CV.pv (Go.Abs.PV.bool Bool.false), Go.Abs.CV.pv (Go.Abs.PV.bool Bool.false), Go.Abs.CV.pv (Go.Abs.PV.bool Bool.false), Go.Abs.CV.pv (Go.Abs.PV.bool Bool.false), Go.Abs.CV.pv (Go.Abs.PV.bool Bool.false), Go.Abs.CV.pv (Go.Abs.PV.bool Bool.false), Go.Abs.CV.pv (Go.Abs.PV.bool Bool.false), Go.Abs.CV.pv (Go.Abs.PV.bool Bool.false), Go.Abs.CV.pv (Go.Abs.PV.bool Bool.false), Go.Abs.CV.pv (Go.Abs.PV.bool Bool.false), Go.Abs.CV.pv (Go.Abs.PV.bool Bool.false), Go.Abs.CV.pv (Go.Abs.PV.bool Bool.false), Go.Abs.CV.pv (Go.Abs.PV.bool Bool.false), Go.Abs.CV.pv (Go.Abs.PV.bool Bool.false), Go.Abs.CV.pv (Go.Abs.PV.bool Bool.false), Go.Abs.CV.pv (Go.Abs.PV.bool Bool.false), Go.Abs.CV.pv (Go.Abs.PV.bool Bool.false), Go.Abs.CV.pv (Go.Abs.PV.bool Bool.false), Go.Abs.CV.pv (Go.Abs.PV.bool Bool.false), Go.Abs.CV.pv (Go.Abs.PV.bool Bool.false), Go.Abs.CV.pv (Go.Abs.PV.bool Bool.false), Go.Abs.CV.pv (Go.Abs.PV.bool Bool.false), Go.Abs.CV.pv (Go.Abs.PV.bool Bool.false), Go.Abs.CV.pv (Go.Abs.PV.bool Bool.false), Go.Abs.CV.pv (Go.Abs.PV.bool Bool.false), Go.Abs.CV.pv (Go.Abs.PV.bool Bool.false), Go.Abs.CV.pv (Go.Abs.PV.bool Bool.false), Go.Abs.CV.pv (Go.Abs.PV.bool Bool.false), Go.Abs.CV.pv (Go.Abs.PV.bool Bool.false), Go.Abs.CV.pv (Go.Abs.PV.bool Bool.false), Go.Abs.CV.pv (Go.Abs.PV.bool Bool.false), Go.Abs.CV.pv (Go.Abs.PV.bool Bool.false), Go.Abs.CV.pv (Go.Abs.PV.bool Bool.false), Go.Abs.CV.pv (Go.Abs.PV.bool Bool.false), Go.Abs.CV.pv (Go.Abs.PV.bool Bool.false), Go.Abs.CV.pv (Go.Abs.PV.bool Bool.false), Go.Abs.CV.pv (Go.Abs.PV.bool Bool.false), Go.Abs.CV.pv (Go.Abs.PV.bool Bool.false), Go.Abs.CV.pv (Go.Abs.PV.bool Bool.false), Go.Abs.CV.pv (Go.Abs.PV.bool Bool.false), Go.Abs.CV.pv (Go.Abs.PV.bool Bool.false), Go.Abs.CV.pv (Go.Abs.PV.bool Bool.false), Go.Abs.CV.pv (Go.Abs.PV.bool Bool.false), Go.Abs.CV.pv (Go.Abs.PV.bool Bool.false), Go.Abs.CV.pv (Go.Abs.PV.bool Bool.false), Go.Abs.CV.pv (Go.Abs.PV.bool Bool.false), Go.Abs.CV.pv (Go.Abs.PV.bool Bool.false), Go.Abs.CV.pv (Go.Abs.PV.bool Bool.false), Go.Abs.CV.pv (Go.Abs.PV.bool Bool.false), Go.Abs.CV.pv (Go.Abs.PV.bool Bool.false), Go.Abs.CV.pv (Go.Abs.PV.bool Bool.false), Go.Abs.CV.pv (Go.Abs.PV.bool Bool.false), Go.Abs.CV.pv (Go.Abs.PV.bool Bool.false), Go.Abs.CV.pv (Go.Abs.PV.bool Bool.false), Go.Abs.CV.pv (Go.Abs.PV.bool Bool.false), Go.Abs.CV.pv (Go.Abs.PV.bool Bool.false), Go.Abs.CV.pv (Go.Abs.PV.bool Bool.false), Go.Abs.CV.pv (Go.Abs.PV.bool Bool.false), Go.Abs.CV.pv (Go.Abs.PV.bool Bool.false), Go.Abs.CV.pv (Go.Abs.PV.bool Bool.false), Go.Abs.CV.pv (Go.Abs.PV.bool Bool.false), Go.Abs.CV.pv (Go.Abs.PV.bool Bool.false), Go.Abs.CV.pv (Go.Abs.PV.bool Bool.false), Go.Abs.CV.pv (Go.Abs.PV.bool Bool.false), Go.Abs.CV.pv (Go.Abs.PV.bool Bool.false), Go.Abs.CV.pv (Go.Abs.PV.bool Bool.false), Go.Abs.CV.pv (Go.Abs.PV.bool Bool.false), Go.Abs.CV.pv (Go.Abs.PV.bool Bool.false), Go.Abs.CV.pv (Go.Abs.PV.bool Bool.false), Go.Abs.CV.pv (Go.Abs.PV.bool Bool.false), Go.Abs.CV.pv (Go.Abs.PV.bool Bool.false), Go.Abs.CV.pv (Go.Abs.PV.bool Bool.false), Go.Abs.CV.pv (Go.Abs.PV.bool Bool.false), Go.Abs.CV.pv (Go.Abs.PV.bool Bool.false), Go.Abs.CV.pv (Go.Abs.PV.bool Bool.false), Go.Abs.CV.pv (Go.Abs.PV.bool Bool.false), Go.Abs.CV.pv (Go.Abs.PV.bool Bool.false), Go.Abs.CV.pv (Go.Abs.PV.bool Bool.false), Go.Abs.CV.pv (Go.Abs.PV.bool Bool.false), Go.Abs.CV.pv (Go.Abs.PV.bool Bool.false), Go.Abs.CV.pv (Go.Abs.PV.bool Bool.false), Go.Abs.CV.pv (Go.Abs.PV.bool Bool.false), Go.Abs.CV.pv (Go.Abs.PV.bool Bool.false), Go.Abs.CV.pv (Go.Abs.PV.bool Bool.false), Go.Abs.CV.pv (Go.Abs.PV.bool Bool.false), Go.Abs.CV.pv (Go.Abs.PV.bool Bool.false), Go.Abs.CV.pv (Go.Abs.PV.bool Bool.false), Go.Abs.CV.pv (Go.Abs.PV.bool Bool.false), Go.Abs.CV.pv (Go.Abs.PV.bool Bool.false), Go.Abs.CV.pv (Go.Abs.PV.bool Bool.false), Go.Abs.CV.pv (Go.Abs.PV.bool Bool.false), Go.Abs.CV.pv (Go.Abs.PV.bool Bool.false), Go.Abs.CV.pv (Go.Abs.PV.bool Bool.false), Go.Abs.CV.pv (Go.Abs.PV.bool Bool.false), Go.Abs.CV.pv (Go.Abs.PV.bool Bool.false), Go.Abs.CV.pv (Go.Abs.PV.bool Bool.false), Go.Abs.CV.pv (Go.Abs.PV.bool Bool.false), Go.Abs.CV.pv (Go.Abs.PV.bool Bool.false), Go.Abs.CV.pv (Go.Abs.PV.bool Bool.false), Go.Abs.CV.pv (Go.Abs.PV.bool Bool.false), Go.Abs.CV.pv (Go.Abs.PV.bool Bool.false), Go.Abs.CV.pv (Go.Abs.PV.bool Bool.false), Go.Abs.CV.pv (Go.Abs.PV.bool Bool.false), Go.Abs.CV.pv (Go.Abs.PV.bool Bool.false), Go.Abs.CV.pv (Go.Abs.PV.bool Bool.false), Go.Abs.CV.pv (Go.Abs.PV.bool Bool.false), Go.Abs.CV.pv (Go.Abs.PV.bool Bool.false), Go.Abs.CV.pv (Go.Abs.PV.bool Bool.false), Go.Abs.CV.pv (Go.Abs.PV.bool Bool.false), Go.Abs.CV.pv (Go.Abs.PV.bool Bool.false), Go.Abs.CV.pv (Go.Abs.PV.bool Bool.false), Go.Abs.CV.pv (Go.Abs.PV.bool Bool.false), Go.Abs.CV.pv (Go.Abs.PV.bool Bool.false), Go.Abs.CV.pv (Go.Abs.PV.bool Bool.false), Go.Abs.CV.pv (Go.Abs.PV.bool Bool.false), Go.Abs.CV.pv (Go.Abs.PV.bool Bool.false), Go.Abs.CV.pv (Go.Abs.PV.bool Bool.false), Go.Abs.CV.pv (Go.Abs.PV.bool Bool.false), Go.Abs.CV.pv (Go.Abs.PV.bool Bool.false), Go.Abs.CV.pv (Go.Abs.PV.bool Bool.false), Go.Abs.CV.pv (Go.Abs.PV.bool Bool.false), Go.Abs.CV.pv (Go.Abs.PV.bool Bool.false), Go.Abs.CV.pv (Go.Abs.PV.bool Bool.false), Go.Abs.CV.pv (Go.Abs.PV.bool Bool.false), Go.Abs.CV.pv (Go.Abs.PV.bool Bool.false), Go.Abs.CV.pv (Go.Abs.PV.bool Bool.false), Go.Abs.CV.pv (Go.Abs.PV.bool Bool.false), Go.Abs.CV.pv (Go.Abs.PV.bool Bool.false), Go.Abs.CV.pv (Go.Abs.PV.bool Bool.false), Go.Abs.CV.pv (Go.Abs.PV.bool Bool.false), Go.Abs.CV.pv (Go.Abs.PV.bool Bool.false), Go.Abs.CV.pv (Go.Abs.PV.bool Bool.false), Go.Abs.CV.pv (Go.Abs.PV.bool Bool.false), Go.Abs.CV.pv (Go.Abs.PV.bool Bool.false), Go.Abs.CV.pv (Go.Abs.PV.bool Bool.false), Go.Abs.CV.pv (Go.Abs.PV.bool Bool.false), Go.Abs.CV.pv (Go.Abs.PV.bool Bool.false), Go.Abs.CV.pv (Go.Abs.PV.bool Bool.false), Go.Abs.CV.pv (Go.Abs.PV.bool Bool.false), Go.Abs.CV.pv (Go.Abs.PV.bool Bool.false), Go.Abs.CV.pv (Go.Abs.PV.bool Bool.false), Go.Abs.CV.pv (Go.Abs.PV.bool Bool.false), Go.Abs.CV.pv (Go.Abs.PV.bool Bool.false), Go.Abs.CV.pv (Go.Abs.PV.bool Bool.false), Go.Abs.CV.pv (Go.Abs.PV.bool Bool.false), Go.Abs.CV.pv (Go.Abs.PV.bool Bool.false), Go.Abs.CV.pv (Go.Abs.PV.bool Bool.false), Go.Abs.CV.pv (Go.Abs.PV.bool Bool.false), Go.Abs.CV.pv (Go.Abs.PV.bool Bool.false), Go.Abs.CV.pv (Go.Abs.PV.bool Bool.false), Go.Abs.CV.pv (Go.Abs.PV.bool Bool.false), Go.Abs.CV.pv (Go.Abs.PV.bool Bool.false), Go.Abs.CV.pv (Go.Abs.PV.bool Bool.false), Go.Abs.CV.pv (Go.Abs.PV.bool Bool.false), Go.Abs.CV.pv (Go.Abs.PV.bool Bool.false), Go.Abs.CV.pv (Go.Abs.PV.bool Bool.false), Go.Abs.CV.pv (Go.Abs.PV.bool Bool.false), Go.Abs.CV.pv (Go.Abs.PV.bool Bool.false), Go.Abs.CV.pv (Go.Abs.PV.bool Bool.false), Go.Abs.CV.pv (Go.Abs.PV.bool Bool.false), Go.Abs.CV.pv (Go.Abs.PV.bool Bool.false), Go.Abs.CV.pv (Go.Abs.PV.bool Bool.false), Go.Abs.CV.pv (Go.Abs.PV.bool Bool.false), Go.Abs.CV.pv (Go.Abs.PV.bool Bool.false), Go.Abs.CV.pv (Go.Abs.PV.bool Bool.false), Go.Abs.CV.pv (Go.Abs.PV.bool Bool.false), Go.Abs.CV.pv (Go.Abs.PV.bool Bool.false), Go.Abs.CV.pv (Go.Abs.PV.bool Bool.false), Go.Abs.CV.pv (Go.Abs.PV.bool Bool.false), Go.Abs.CV.pv (Go.Abs.PV.bool Bool.false), Go.Abs.CV.pv (Go.Abs.PV.bool Bool.false), Go.Abs.CV.pv (Go.Abs.PV.bool Bool.false), Go.Abs.CV.pv (Go.Abs.PV.bool Bool.false), Go.Abs.CV.pv (Go.Abs.PV.bool Bool.false), Go.Abs.CV.pv (Go.Abs.PV.bool Bool.false), Go.Abs.CV.pv (Go.Abs.PV.bool Bool.false), Go.Abs.CV.pv (Go.Abs.PV.bool Bool.false), Go.Abs.CV.pv (Go.Abs.PV.bool Bool.false), Go.Abs.CV.pv (Go.Abs.PV.bool Bool.false), Go.Abs.CV.pv (Go.Abs.PV.bool Bool.false), Go.Abs.CV.pv (Go.Abs.PV.bool Bool.false), Go.Abs.CV.pv (Go.Abs.PV.bool Bool.false), Go.Abs.CV.pv (Go.Abs.PV.bool Bool.false), Go.Abs.CV.pv (Go.Abs.PV.bool Bool.false), Go.Abs.CV.pv (Go.Abs.PV.bool Bool.false), Go.Abs.CV.pv (Go.Abs.PV.bool Bool.false), Go.Abs.CV.pv (Go.Abs.PV.bool Bool.false), Go.Abs.CV.pv (Go.Abs.PV.bool Bool.false), Go.Abs.CV.pv (Go.Abs.PV.bool Bool.false), Go.Abs.CV.pv (Go.Abs.PV.bool Bool.false), Go.Abs.CV.pv (Go.Abs.PV.bool Bool.false), Go.Abs.CV.pv (Go.Abs.PV.bool Bool.false), Go.Abs.CV.pv (Go.Abs.PV.bool Bool.false), Go.Abs.CV.pv (Go.Abs.PV.bool Bool.false), Go.Abs.CV.pv (Go.Abs.PV.bool Bool.false), Go.Abs.CV.pv (Go.Abs.PV.bool Bool.false), Go.Abs.CV.pv (Go.Abs.PV.bool Bool.false), Go.Abs.CV.pv (Go.Abs.PV.bool Bool.false), Go.Abs.CV.pv (Go.Abs.PV.bool Bool.false), Go.Abs.CV.pv (Go.Abs.PV.bool Bool.false), Go.Abs.CV.pv (Go.Abs.PV.bool Bool.false), Go.Abs.CV.pv (Go.Abs.PV.bool Bool.false), Go.Abs.CV.pv (Go.Abs.PV.bool Bool.false), Go.Abs.CV.pv (Go.Abs.PV.bool Bool.false), Go.Abs.CV.pv (Go.Abs.PV.bool Bool.false), Go.Abs.CV.pv (Go.Abs.PV.bool Bool.false), Go.Abs.CV.pv (Go.Abs.PV.bool Bool.false), Go.Abs.CV.pv (Go.Abs.PV.bool Bool.false), Go.Abs.CV.pv (Go.Abs.PV.bool Bool.false), Go.Abs.CV.pv (Go.Abs.PV.bool Bool.false), Go.Abs.CV.pv (Go.Abs.PV.bool Bool.false), Go.Abs.CV.pv (Go.Abs.PV.bool Bool.false), Go.Abs.CV.pv (Go.Abs.PV.bool Bool.false), Go.Abs.CV.pv (Go.Abs.PV.bool Bool.false), Go.Abs.CV.pv (Go.Abs.PV.bool Bool.false), Go.Abs.CV.pv (Go.Abs.PV.bool Bool.false), Go.Abs.CV.pv (Go.Abs.PV.bool Bool.false), Go.Abs.CV.pv (Go.Abs.PV.bool Bool.false), Go.Abs.CV.pv (Go.Abs.PV.bool Bool.false), Go.Abs.CV.pv (Go.Abs.PV.bool Bool.false), Go.Abs.CV.pv (Go.Abs.PV.bool Bool.false), Go.Abs.CV.pv (Go.Abs.PV.bool Bool.false)] := by kernel_rfl
theorem ty_isBoolT_110 : isBoolT Tryd.prog 110 = Bool.false := by kernel_rfl
theorem ty_isPtrT_110 : isPtrT Tryd.prog 110 = Bool.false := by kernel_rfl
theorem ty_concreteT_110 : concreteT Tryd.prog 110 = Bool.true := by kernel_rfl
theorem ty_isU8_110 : isU8 Tryd.prog 110 = Bool.false := by kernel_rfl
theorem ty_tvZero_110 : tvZero Tryd.prog 110 = Option.some (Go.Abs.TV.agg [Go.Abs.CV.pv (Go.Abs.PV.bool Bool.false), Go.Abs.CV.pv (Go.Abs.PV.bool Bool.false), Go.Abs.CV.pv (Go.Abs.PV.bool Bool.false), Go.Abs.CV.pv (Go.Abs.PV.bool Bool.false), Go.Abs.CV.pv (Go.Abs.PV.bool Bool.false), Go.Abs.CV.pv (Go.Abs.PV.bool Bool.false), Go.Abs.CV.pv (Go.Abs.PV.bool Bool.false), Go.Abs.CV.pv (Go.Abs.PV.bool Bool.false), Go.Abs.CV.pv (Go.Abs.PV.bool Bool.false), Go.Abs.CV.pv (Go.Abs.PV.bool Bool.false), Go.Abs.CV.pv (Go.Abs.PV.bool Bool.false), Go.Abs.CV.pv (Go.Abs.PV.bool Bool.false), Go.Abs.CV.pv (Go.Abs.PV.bool Bool.false), Go.Abs.CV.pv (Go.Abs.PV.bool Bool.false), Go.Abs.CV.pv (Go.Abs.PV.bool Bool.false), Go.Abs.CV.pv (Go.Abs.PV.bool Bool.false), Go.Abs.CV.pv (Go.Abs.PV.bool Bool.false), Go.Abs.CV.pv (Go.Abs.PV.bool Bool.false), Go.Abs.CV.pv (Go.Abs.PV.bool Bool.false), Go.Abs.CV.pv (Go.Abs.PV.bool Bool.false), Go.Abs.CV.pv (Go.Abs.PV.bool Bool.false), Go.Abs.CV.pv (Go.Abs.PV.bool Bool.false), Go.Abs.CV.pv (Go.Abs.PV.bool Bool.false), Go.Abs.CV.pv (Go.Abs.PV.bool Bool.false), Go.Abs.CV.pv (Go.Abs.PV.bool Bool.false), Go.Abs.CV.pv (Go.Abs.PV.bool Bool.false), Go.Abs.CV.pv (Go.Abs.PV.bool Bool.false), Go.Abs.CV.pv (Go.Abs.PV.bool Bool.false), Go.Abs.CV.pv (Go.Abs.PV.bool Bool.false), Go.Abs.CV.pv (Go.Abs.PV.bool Bool.false), Go.Abs.CV.pv (Go.Abs.PV.bool Bool.false), Go.Abs.CV.pv (Go.Abs.PV.bool Bool.false), Go.Abs.CV.pv (Go.Abs.PV.bool Bool.false), Go.Abs.CV.pv (Go.Abs.PV.bool Bool.false), Go.Abs.CV.pv (Go.Abs.PV.bool Bool.false), Go.Abs.CV.pv (Go.Abs.PV.bool Bool.false), Go.Abs.CV.pv (Go.Abs.PV.bool Bool.false), Go.Abs.CV.pv (Go.Abs.PV.bool Bool.false), Go.Abs.CV.pv (Go.Abs.PV.bool Bool.false), Go.Abs.CV.pv (Go.Abs.PV.bool Bool.false), Go.Abs.CV.pv (Go.Abs.PV.bool Bool.false), Go.Abs.CV.pv (Go.Abs.PV.bool Bool.false), Go.Abs.CV.pv (Go.Abs.PV.bool Bool.false), Go.Abs.CV.pv (Go.Abs.PV.bool Bool.false), Go.Abs.CV.pv (Go.Abs.PV.bool Bool.false), Go.Abs.CV.pv (Go.Abs.PV.bool Bool.false), Go.Abs.CV.pv (Go.Abs.PV.bool Bool.false), Go.Abs.CV.pv (Go.Abs.PV.bool Bool.false), Go.Abs.CV.pv (Go.Abs.PV.bool Bool.false), Go.Abs.CV.pv (Go.Abs.PV.bool Bool.false), Go.Abs.CV.pv (Go.Abs.PV.bool Bool.false), Go.Abs.CV.pv (Go.Abs.PV.bool Bool.false), Go.Abs.CV.pv (Go.Abs.PV.bool Bool.false), Go.Abs.CV.pv (Go.Abs.PV.bool Bool.false), Go.Abs.CV.pv (Go.Abs.PV.bool Bool.false), Go.Abs.CV.pv (Go.Abs.PV.bool Bool.false), Go.Abs.CV.pv (Go.Abs.PV.bool Bool.false), Go.Abs.CV.pv (Go.Abs.PV.bool Bool.false), Go.Abs.CV.pv (Go.Abs.PV.bool Bool.false), Go.Abs.CV.pv (Go.Abs.PV.bool Bool.false), Go.Abs.CV.pv (Go.Abs.PV.bool Bool.false), Go.Abs.CV.pv (Go.Abs.PV.bool Bool.false), Go.Abs.CV.pv (Go.Abs.PV.bool Bool.false), Go.Abs.CV.pv (Go.Abs.PV.bool Bool.false), Go.Abs.CV.pv (Go.Abs.PV.bool Bool.false), Go.Abs.CV.pv (Go.Abs.PV.bool Bool.false), Go.Abs.CV.pv (Go.Abs.PV.bool Bool.false), Go.Abs.CV.pv (Go.Abs.PV.bool Bool.false), Go.Abs.CV.pv (Go.Abs.PV.bool Bool.false), Go.Abs.CV.pv (Go.Abs.PV.bool Bool.false), Go.Abs.CV.pv (Go.Abs.PV.bool Bool.false), Go.Abs.CV.pv (Go.Abs.PV.bool Bool.false), Go.Abs.CV.pv (Go.Abs.PV.bool Bool.false), Go.Abs.CV.pv (Go.Abs.PV.bool Bool.false), Go.Abs.CV.pv (Go.Abs.PV.bool Bool.false), Go.Abs.CV.pv (Go.Abs.PV.bool Bool.false), Go.Abs.CV.pv (Go.Abs.PV.bool Bool.false), Go.Abs.CV.pv (Go.Abs.PV.bool Bool.false), Go.Abs.CV.pv (Go.Abs.PV.bool Bool.false), Go.Abs.CV.pv (Go.Abs.PV.bool Bool.false), Go.Abs.CV.pv (Go.Abs.PV.bool Bool.false), Go.Abs.CV.pv (Go.Abs.PV.bool Bool.false), Go.Abs.CV.pv (Go.Abs.PV.bool Bool.false), Go.Abs.CV.pv (Go.Abs.PV.bool Bool.false), Go.Abs.CV.pv (Go.Abs.PV.bool Bool.false), Go.Abs.CV.pv (Go.Abs.PV.bool Bool.false), Go.Abs.CV.pv (Go.Abs.PV.bool Bool.false), Go.Abs.CV.pv (Go.Abs.PV.bool Bool.false), Go.Abs.CV.pv (Go.Abs.PV.bool Bool.false), Go.Abs.CV.pv (Go.Abs.PV.bool Bool.false), Go.Abs.CV.pv (Go.Abs.PV.bool Bool.false), Go.Abs.CV.pv (Go.Abs.PV.bool Bool.false), Go.Abs.CV.pv (Go.Abs.PV.bool Bool.false), Go.Abs.CV.pv (Go.Abs.PV.bool Bool.false), Go.Abs.CV.pv (Go.Abs.PV.bool Bool.false), Go.Abs.CV.pv (Go.Abs.PV.bool Bool.false), Go.Abs.CV.pv (Go.Abs.PV.bool Bool.false), Go.Abs.CV.pv (Go.Abs.PV.bool Bool.false), Go.Abs.CV.pv (Go.Abs.PV.bool Bool.false), Go.Abs.CV.pv (Go.Abs.PV.bool Bool.false), Go.Abs.CV.pv (Go.Abs.PV.bool Bool.false), Go.Abs.CV.pv (Go.Abs.PV.bool Bool.false), Go.Abs.CV.pv (Go.Abs.PV.bool Bool.false), Go.Abs.CV.pv (Go.Abs.PV.bool Bool.false), Go.Abs.CV.pv (Go.Abs.PV.bool Bool.false), Go.Abs.CV.pv (Go.Abs.PV.bool Bool.false), Go.Abs.CV.pv (Go.Abs.PV.bool Bool.false), Go.Abs.CV.pv (Go.Abs.PV.bool Bool.false), Go.Abs.CV.pv (Go.Abs.PV.bool Bool.false), Go.Abs.CV.pv (Go.Abs.PV.bool Bool.false), Go.Abs.CV.pv (Go.Abs.PV.bool Bool.false), Go.Abs.CV.pv (Go.Abs.PV.bool Bool.false), Go.Abs.CV.pv (Go.Abs.PV.bool Bool.false), Go.Abs.CV.pv (Go.Abs.PV.bool Bool.false), Go.Abs.CV.pv (Go.Abs.PV.bool Bool.false), Go.Abs.CV.pv (Go.Abs.PV.bool Bool.false), Go.Abs.CV.pv (Go.Abs.PV.bool Bool.false), Go.Abs.CV.pv (Go.Abs.PV.bool Bool.false), Go.Abs.CV.pv (Go.Abs.PV.bool Bool.false), Go.Abs.CV.pv (Go.Abs.PV.bool Bool.false), Go.Abs.CV.pv (Go.Abs.PV.bool Bool.false), Go.Abs.CV.pv (Go.Abs.PV.bool Bool.false), Go.Abs.CV.pv (Go.Abs.PV.bool Bool.false), Go.Abs.CV.pv (Go.Abs.PV.bool Bool.false), Go.Abs.CV.pv (Go.Abs.PV.bool Bool.false), Go.Abs.CV.pv (Go.Abs.PV.bool Bool.false), Go.Abs.CV.pv (Go.Abs.PV.bool Bool.false), Go.Abs.CV.pv (Go.Abs.PV.bool Bool.false), Go.Abs.CV.pv (Go.Abs.PV.bool Bool.false), Go.Abs.CV.pv (Go.Abs.PV.bool Bool.false), Go.Abs.CV.pv (Go.Abs.PV.bool Bool.false), Go.Abs.CV.pv (Go.Abs.PV.bool Bool.false), Go.Abs.CV.pv (Go.Abs.PV.bool Bool.false), Go.Abs.CV.pv (Go.Abs.PV.bool Bool.false), Go.Abs.CV.pv (Go.Abs.PV.bool Bool.false), Go.Abs.CV.pv (Go.Abs.PV.bool Bool.false), Go.Abs.CV.pv (Go.Abs.PV.bool Bool.false), Go.Abs.CV.pv (Go.Abs.PV.bool Bool.false), Go.Abs.CV.pv (Go.Abs.PV.bool Bool.false), Go.Abs.CV.pv (Go.Abs.PV.bool Bool.false), Go.Abs.CV.pv (Go.Abs.PV.bool Bool.false), Go.Abs.CV.pv (Go.Abs.PV.bool Bool.false), Go.Abs.CV.pv (Go.Abs.PV.bool Bool.false), Go.Abs.CV.pv (Go.Abs.PV.bool Bool.false), Go.Abs.CV.pv (Go.Abs.PV.bool Bool.false), Go.Abs.CV.pv (Go.Abs.PV.bool Bool.false), Go.Abs.CV.pv (Go.Abs.PV.bool Bool.false), Go.Abs.CV.pv (Go.Abs.PV.bool Bool.false), Go.Abs.CV.pv (Go.Abs.PV.bool Bool.false), Go.Abs.CV.pv (Go.Abs.PV.bool Bool.false), Go.Abs.CV.pv (Go.Abs.PV.bool Bool.false), Go.Abs.CV.pv (Go.Abs.PV.bool Bool.false), Go.Abs.CV.pv (Go.Abs.PV.bool Bool.false), Go.Abs.CV.pv (Go.Abs.PV.bool Bool.false), Go.Abs.CV.pv (Go.Abs.PV.bool Bool.false), Go.Abs.CV.pv (Go.Abs.PV.bool Bool.false), Go.Abs.CV.pv (Go.Abs.PV.bool Bool.false), Go.Abs.CV.pv (Go.Abs.PV.bool Bool.false), Go.Abs.CV.pv (Go.Abs.PV.bool Bool.false), Go.Abs.CV.pv (Go.Abs.PV.bool Bool.false), Go.Abs.CV.pv (Go.Abs.PV.bool Bool.false), Go.Abs.CV.pv (Go.Abs.PV.bool Bool.false), Go.Abs.CV.pv (Go.Abs.PV.bool Bool.false), Go.Abs.CV.pv (Go.Abs.PV.bool Bool.false), Go.Abs.CV.pv (Go.Abs.PV.bool Bool.false), Go.Abs.CV.pv (Go.Abs.PV.bool Bool.false), Go.Abs.CV.pv (Go.Abs.PV.bool Bool.false), Go.Abs.CV.pv (Go.Abs.PV.bool Bool.false), Go.Abs.CV.pv (Go.Abs.PV.bool Bool.false), Go.Abs.CV.pv (Go.Abs.PV.bool Bool.false), Go.Abs.CV.pv (Go.Abs.PV.bool Bool.false), Go.Abs.CV.pv (Go.Abs.PV.bool Bool.false), Go.Abs.CV.pv (Go.Abs.PV.bool Bool.false), Go.Abs.CV.pv (Go.Abs.PV.bool Bool.false), Go.Abs.CV.pv (Go.Abs.PV.bool Bool.false), Go.Abs.CV.pv (Go.Abs.PV.bool Bool.false), Go.Abs.CV.pv (Go.Abs.PV.bool Bool.false), Go.Abs.CV.pv (Go.Abs.PV.bool Bool.false), Go.Abs.CV.pv (Go.Abs.PV.bool Bool.false), Go.Abs.CV.pv (Go.Abs.PV.bool Bool.false), Go.Abs.CV.pv (Go.Abs.PV.bool Bool.false), Go.Abs.CV.pv (Go.Abs.PV.bool Bool.false), Go.Abs.CV.pv (Go.Abs.PV.bool Bool.false), Go.Abs.CV.pv (Go.Abs.PV.bool Bool.false), Go.Abs.CV.pv (Go.Abs.PV.bool Bool.false), Go.Abs.CV.pv (Go.Abs.PV.bool Bool.false), Go.Abs.CV.pv (Go.Abs.PV.bool Bool.false), Go.Abs.CV.pv (Go.Abs.PV.bool Bool.false), Go.Abs.CV.pv (Go.Abs.PV.bool Bool.false), Go.Abs.CV.pv (Go.Abs.PV.bool Bool.false), Go.Abs.CV.pv (Go.Abs.PV.bool Bool.false), Go.Abs.CV.pv (Go.Abs.PV.bool Bool.false), Go.Abs.CV.pv (Go.Abs.PV.bool Bool.false), Go.Abs.CV.pv (Go.Abs.PV.bool Bool.false), Go.Abs.CV.pv (Go.Abs.PV.bool Bool.false), Go.Abs.CV.pv (Go.Abs.PV.bool Bool.false), Go.Abs.CV.pv (Go.Abs.PV.bool Bool.false), Go.Abs.CV.pv (Go.Abs.PV.bool Bool.false), Go.Abs.CV.pv (Go.Abs.PV.bool Bool.false), Go.Abs.CV.pv (Go.Abs.PV.bool Bool.false), Go.Abs.CV.pv (Go.Abs.PV.bool Bool.false), Go.Abs.CV.pv (Go.Abs.PV.bool Bool.false), Go.Abs.CV.pv (Go.Abs.PV.bool Bool.false), Go.Abs.CV.pv (Go.Abs.PV.bool Bool.false), Go.Abs.CV.pv (Go.Abs.PV.bool Bool.false), Go.Abs.CV.pv (Go.Abs.PV.bool Bool.false), Go.Abs.CV.pv (Go.Abs.PV.bool Bool.false), Go.Abs.CV.pv (Go.Abs.PV.bool Bool.false), Go.Abs.CV.pv (Go.Abs.PV.bool Bool.false), Go.Abs.CV.pv (Go.Abs.PV.bool Bool.false), Go.Abs.CV.pv (Go.Abs.PV.bool Bool.false), Go.Abs.CV.pv (Go.Abs.PV.bool Bool.false), Go.Abs.CV.pv (Go.Abs.PV.bool Bool.false), Go.Abs.CV.pv (Go.Abs.PV.bool Bool.false), Go.Abs.CV.pv (Go.Abs.PV.bool Bool.false), Go.Abs.CV.pv (Go.Abs.PV.bool Bool.false), Go.Abs.CV.pv (Go.Abs.PV.bool Bool.false), Go.Abs.CV.pv (Go.Abs.PV.bool Bool.false), Go.Abs.CV.pv (Go.Abs.PV.bool Bool.false), Go.Abs.CV.pv (Go.Abs.PV.bool Bool.false), Go.Abs.CV.pv (Go.Abs.PV.bool Bool.false), Go.Abs.CV.pv (Go.Abs.PV.bool Bool.false), Go.Abs.CV.pv (Go.Abs.PV.bool Bool.false), Go.Abs.CV.pv (Go.Abs.PV.bool Bool.false), Go.Abs.CV.pv (Go.Abs.PV.bool Bool.false), Go.Abs.CV.pv (Go.Abs.PV.bool Bool.false), Go.Abs.CV.pv (Go.Abs.PV.bool Bool.false), Go.Abs.CV.pv (Go.Abs.PV.bool Bool.false), Go.Abs.CV.pv (Go.Abs.PV.bool Bool.false), Go.Abs.CV.pv (Go.Abs.PV.bool Bool.false), Go.Abs.CV.pv (Go.Abs.PV.bool Bool.false), Go.Abs.CV.pv (Go.Abs.PV.bool Bool.false), Go.Abs.CV.pv (Go.Abs.PV.bool Bool.false), Go.Abs.CV.pv (Go.Abs.PV.bool Bool.false), Go.Abs.CV.pv (Go.Abs.PV.bool Bool.false), Go.Abs.CV.pv (Go.Abs.PV.bool Bool.false), Go.Abs.CV.pv (Go.Abs.PV.bool Bool.false), Go.Abs.CV.pv (Go.Abs.PV.bool Bool.false), Go.Abs.CV.pv (Go.Abs.PV.bool Bool.false), Go.Abs.CV.pv (Go.Abs.PV.bool Bool.false), Go.Abs.CV.pv (Go.Abs.PV.bool Bool.false), Go.Abs.CV.pv (Go.Abs.PV.bool Bool.false), Go.Abs.CV.pv (Go.Abs.PV.bool Bool.false), Go.Abs.CV.pv (Go.Abs.PV.bool Bool.false), Go.Abs.CV.pv (Go.Abs.PV.bool Bool.false), Go.Abs.CV.pv (Go.Abs.PV.bool Bool.false), Go.Abs.CV.pv (Go.Abs.PV.bool Bool.false), Go.Abs.CV.pv (Go.Abs.PV.bool Bool.false), Go.Abs.CV.pv (Go.Abs.PV.bool Bool.false), Go.Abs.CV.pv (Go.Abs.PV.bool Bool.false), Go.Abs.CV.pv (Go.Abs.PV.bool Bool.false), Go.Abs.CV.pv (Go.Abs.PV.bool Bool.false), Go.Abs.CV.pv (Go.Abs.PV.bool Bool.false), Go.Abs.CV.pv (Go.Abs.PV.bool Bool.false), Go.Abs.CV.pv (Go.Abs.PV.bool Bool.false), Go.Abs.CV.pv (Go.Abs.PV.bool Bool.false)]) := by kernel_rfl
theorem ty_shapeT_111 : shapeT Tryd.prog 111 = Option.some (Option.some 256) := by kernel_rfl
theorem ty_szOf_111 : szOf Tryd.prog 111 = Option.some 256 := by kernel_rfl
theorem ty_zeroCells_111 : zeroCells Tryd.prog 111 = Option.some [Go.Abs.CV.pv (Go.Abs.PV.bool Bool.false), Go.Abs.CV.pv (Go.Abs.PV.bool Bool.false), Go.Abs.CV.pv (Go.Abs.PV.bool Bool.false), Go.Abs.CV.pv (Go.Abs.PV.bool Bool.false), Go.Abs.CV.pv (Go.Abs.PV.bool Bool.false), Go.Abs.CV.pv (Go.Abs.PV.bool Bool.false), Go.Abs.CV.pv (Go.Abs.PV.bool Bool.false), Go.Abs.CV.pv (Go.Abs.PV.bool Bool.false), Go.Abs.CV.pv (Go.Abs.PV.bool Bool.false), Go.Abs.CV.pv (Go.Abs.PV.bool Bool.false), Go.Abs.CV.pv (Go.Abs.PV.bool Bool.false), Go.Abs.CV.pv (Go.Abs.PV.bool Bool.false), Go.Abs.CV.pv (Go.Abs.PV.bool Bool.false), Go.Abs.CV.pv (Go.Abs.PV.bool Bool.false), Go.Abs.CV.pv (Go.Abs.PV.bool Bool.false), Go.Abs.CV.pv (Go.Abs.PV.bool Bool.false), Go.Abs.CV.pv (Go.Abs.PV.bool Bool.false), Go.Abs.CV.pv (Go.Abs.PV.bool Bool.false), Go.Abs.CV.pv (Go.Abs.PV.bool Bool.false), Go.Abs.CV.pv (Go.Abs.PV.bool Bool.false), Go.Abs.CV.pv (Go.Abs.PV.bool Bool.false), Go.Abs.CV.pv (Go.Abs.PV.bool Bool.false), Go.Abs.CV.pv (Go.Abs.PV.bool Bool.false), Go.Abs.CV.pv (Go.Abs.PV.bool Bool.false), Go.Abs.CV.pv (Go.Abs.PV.bool Bool.false), Go.Abs.CV.pv (Go.Abs.PV.bool Bool.false), Go.Abs.CV.pv (Go.Abs.PV.bool Bool.false), Go.Abs.CV.pv (Go.Abs.PV.bool Bool.false), Go.Abs.CV.pv (Go.Abs.PV.bool Bool.false), Go.Abs.CV.pv (Go.Abs.PV.bool Bool.false), Go.Abs.CV.pv (Go.Abs.PV.bool Bool.false), Go.Abs.CV.pv (Go.Abs.PV.bool Bool.false), Go.Abs.CV.pv (Go.Abs.PV.bool Bool.false), Go.Abs.CV.pv (Go.Abs.PV.bool Bool.false), Go.Abs.CV.pv (Go.Abs.PV.bool Bool.false), Go.Abs.CV.pv (Go.Abs.PV.bool Bool.false), Go.Abs.CV.pv (Go.Abs.PV.bool Bool.false), Go.Abs.CV.pv (Go.Abs.PV.bool Bool.false), Go.Abs.CV.pv (Go.Abs.PV.bool Bool.false), Go.Abs.CV.pv (Go.Abs.PV.bool Bool.false), Go.Abs.CV.pv (Go.Abs.PV.bool Bool.false), Go.Abs.CV.pv (Go.Abs.PV.bool Bool.false), Go.Abs.CV.pv (Go.Abs.PV.bool Bool.false), Go.Abs.CV.pv (Go.Abs.PV.bool Bool.false), Go.Abs.CV.pv (Go.Abs.PV.bool Bool.false), Go.Abs.CV.pv (Go.Abs.PV.bool Bool.false), Go.Abs.CV.pv (Go.Abs.PV.bool Bool.false), Go.Abs.CV.pv (Go.Abs.PV.bool Bool.false), Go.Abs.CV.pv (Go.Abs.PV.bool Bool.false), Go.Abs.CV.pv (Go.Abs.PV.bool Bool.false), Go.Abs.CV.pv (Go.Abs.PV.bool Bool.false), Go.Abs.CV.pv (Go.Abs.PV.bool Bool.false), Go.Abs.CV.pv (Go.Abs.PV.bool Bool.false), Go.Abs.CV.pv (Go.Abs.PV.bool Bool.false), Go.Abs.CV.pv (Go.Abs.PV.bool Bool.false), Go.Abs.CV.pv (Go.Abs.PV.bool Bool.false), Go.Abs.CV.pv (Go.Abs.PV.bool Bool.false), Go.Abs.CV.pv (Go.Abs.PV.bool Bool.false), Go.Abs.CV.pv (Go.Abs.PV.bool Bool.false), Go.Abs.CV.pv (Go.Abs.PV.bool Bool.false), Go.Abs.CV.pv (Go.Abs.PV.bool Bool.false), Go.Abs.CV.pv (Go.Abs.PV.bool Bool.false), Go.Abs.CV.pv (Go.Abs.PV.bool Bool.false), Go.Abs.CV.pv (Go.Abs.PV.bool Bool.false), Go.Abs.CV.pv (Go.Abs.PV.bool Bool.false), Go.Abs.CV.pv (Go.Abs.PV.bool Bool.false), Go.Abs.CV.pv (Go.Abs.PV.bool Bool.false), Go.Abs.CV.pv (Go.Abs.PV.bool Bool.false), Go.Abs.CV.pv (Go.Abs.PV.bool Bool.false), Go.Abs.CV.pv (Go.Abs.PV.bool Bool.false), Go.Abs.CV.pv (Go.Abs.PV.bool Bool.false), Go.Abs.CV.pv (Go.Abs.PV.bool Bool.false), Go.Abs.CV.pv (Go.Abs.PV.bool Bool.false), Go.Abs.CV.pv (Go.Abs.PV.bool Bool.false), Go.Abs.CV.pv (Go.Abs.PV.bool Bool.false), Go.Abs.CV.pv (Go.Abs.PV.bool Bool.false), Go.Abs.CV.pv (Go.Abs.PV.bool Bool.false), Go.Abs.CV.pv (Go.Abs.PV.bool Bool.false), Go.Abs.CV.pv (Go.Abs.PV.bool Bool.false), Go.Abs.CV.pv (Go.Abs.PV.bool Bool.false), Go.Abs.CV.pv (Go.Abs.PV.bool Bool.false), Go.Abs.CV.pv (Go.Abs.PV.bool Bool.false), Go.Abs.CV.pv (Go.Abs.PV.bool Bool.false), Go.Abs.CV.pv (Go.Abs.PV.bool Bool.false), Go.Abs.CV.pv (Go.Abs.PV.bool Bool.false), Go.Abs.CV.pv (Go.Abs.PV.bool Bool.false), Go.Abs.CV.pv (Go.Abs.PV.bool Bool.false), Go.Abs.CV.pv (Go.Abs.PV.bool Bool.false), Go.Abs.CV.pv (Go.Abs.PV.bool Bool.false), Go.Abs.CV.pv (Go.Abs.PV.bool Bool.false), Go.Abs.CV.pv (Go.Abs.PV.bool Bool.false), Go.Abs.CV.pv (Go.Abs.PV.bool Bool.false), Go.Abs.CV.pv (Go.Abs.PV.bool Bool.false), Go.Abs.CV.pv (Go.Abs.PV.bool Bool.false), Go.Abs.CV.pv (Go.Abs.PV.bool Bool.false), Go.Abs.CV.pv (Go.Abs.PV.bool Bool.false), Go.Abs.CV.pv (Go.Abs.PV.bool Bool.false), Go.Abs.CV.pv (Go.Abs.PV.bool Bool.false), Go.Abs.CV.pv (Go.Abs.PV.bool Bool.false), Go.Abs.CV.pv (Go.Abs.PV.bool Bool.false), Go.Abs.CV.pv (Go.Abs.PV.bool Bool.false), Go.Abs.CV.pv (Go.Abs.PV.bool Bool.false), Go.Abs.CV.pv (Go.Abs.PV.bool Bool.false), Go.Abs.CV.pv (Go.Abs.PV.bool Bool.false), Go.Abs.CV.pv (Go.Abs.PV.bool Bool.false), Go.Abs.CV.pv (Go.Abs.PV.bool Bool.false), Go.Abs.CV.pv (Go.Abs.PV.bool Bool.false), Go.Abs.CV.pv (Go.Abs.PV.bool Bool.false), Go.Abs.CV.pv (Go.Abs.PV.bool Bool.false), Go.Abs.CV.pv (Go.Abs.PV.bool Bool.false), Go.Abs.CV.pv (Go.Abs.PV.bool Bool.false), Go.Abs.CV.pv (Go.Abs.PV.bool Bool.false), Go.Abs.CV.pv (Go.Abs.PV.bool Bool.false), Go.Abs.CV.pv (Go.Abs.PV.bool Bool.false), Go.Abs.CV.pv (Go.Abs.PV.bool Bool.false), Go.Abs.CV.pv (Go.Abs.PV.bool Bool.false), Go.Abs.CV.pv (Go.Abs.PV.bool Bool.false), Go.Abs.CV.pv (Go.Abs.PV.bool Bool.false), Go.Abs.CV.pv (Go.Abs.PV.bool Bool.false), Go.Abs.CV.pv (Go.Abs.PV.bool Bool.false), Go.Abs.CV.pv (Go.Abs.PV.bool Bool.false), Go.Abs.CV.pv (Go.Abs.PV.bool Bool.false), Go.Abs.CV.pv (Go.Abs.PV.bool Bool.false), Go.Abs.CV.pv (Go.Abs.PV.bool Bool.false), Go.Abs.CV.pv (Go.Abs.PV.bool Bool.false), Go.Abs.CV.pv (Go.Abs.PV.bool Bool.false), Go.Abs.CV.pv (Go.Abs.PV.bool Bool.false), Go.Abs.CV.pv (Go.Abs.PV.bool Bool.false), Go.Abs.CV.pv (Go.Abs.PV.bool Bool.false), Go.Abs.CV.pv (Go.Abs.PV.bool Bool.false), Go.Abs.CV.pv (Go.Abs.PV.bool Bool.false), Go.Abs.CV.pv (Go.Abs.PV.bool Bool.false), Go.Abs.CV.pv (Go.Abs.PV.bool Bool.false), Go.Abs.CV.pv (Go.Abs.PV.bool Bool.false), Go.Abs.CV.pv (Go.Abs.PV.bool Bool.false), Go.Abs.CV.pv (Go.Abs.PV.bool Bool.false), Go.Abs.CV.pv (Go.Abs.PV.bool Bool.false), Go.Abs.CV.pv (Go.Abs.PV.bool Bool.false), Go.Abs.CV.pv (Go.Abs.PV.bool Bool.false), Go.Abs.CV.pv (Go.Abs.PV.bool Bool.false), Go.Abs.CV.pv (Go.Abs.PV.bool Bool.false), Go.Abs.CV.pv (Go.Abs.PV.bool Bool.false), Go.Abs.CV.pv (Go.Abs.PV.bool Bool.false), Go.Abs.CV.pv (Go.Abs.PV.bool Bool.false), Go.Abs.CV.pv (Go.Abs.PV.bool Bool.false), Go.Abs.CV.pv (Go.Abs.PV.bool Bool.false), Go.Abs.CV.pv (Go.Abs.PV.bool Bool.false), Go.Abs.CV.pv (Go.Abs.PV.bool Bool.false), Go.Abs.CV.pv (Go.Abs.PV.bool Bool.false), Go.Abs.CV.pv (Go.Abs.PV.bool Bool.false), Go.Abs.CV.pv (Go.Abs.PV.bool Bool.false), Go.Abs.CV.pv (Go.Abs.PV.bool Bool.false), Go.Abs.CV.pv (Go.Abs.PV.bool Bool.false), Go.Abs.CV.pv (Go.Abs.PV.bool Bool.false), Go.Abs.CV.pv (Go.Abs.PV.bool Bool.false), Go.Abs.CV.pv (Go.Abs.PV.bool Bool.false), Go.Abs.CV.pv (Go.Abs.PV.bool Bool.false), Go.Abs.CV.pv (Go.Abs.PV.bool Bool.false), Go.Abs.CV.pv (Go.Abs.PV.bool Bool.false), Go.Abs.CV.pv (Go.Abs.PV.bool Bool.false), Go.Abs.CV.pv (Go.Abs.PV.bool Bool.false), Go.Abs.CV.pv (Go.Abs.PV.bool Bool.false), Go.Abs.CV.pv (Go.Abs.PV.bool Bool.false), Go.Abs.CV.pv (Go.Abs.PV.bool Bool.false), Go.Abs.CV.pv (Go.Abs.PV.bool Bool.false), Go.Abs.CV.pv (Go.Abs.PV.bool Bool.false), Go.Abs.CV.pv (Go.Abs.PV.bool Bool.false), Go.Abs.CV.pv (Go.Abs.PV.bool Bool.false), Go.Abs.CV.pv (Go.Abs.PV.bool Bool.false), Go.Abs.CV.pv (Go.Abs.PV.bool Bool.false), Go.Abs.CV.pv (Go.Abs.PV.bool Bool.false), Go.Abs.CV.pv (Go.Abs.PV.bool Bool.false), Go.Abs.CV.pv (Go.Abs.PV.bool Bool.false), Go.Abs.CV.pv (Go.Abs.PV.bool Bool.false), Go.Abs.CV.pv (Go.Abs.PV.bool Bool.false), Go.Abs.CV.pv (Go.Abs.PV.bool Bool.false), Go.Abs.CV.pv (Go.Abs.PV.bool Bool.false), Go.Abs.CV.pv (Go.Abs.PV.bool Bool.false), Go.Abs.CV.pv (Go.Abs.PV.bool Bool.false), Go.Abs.CV.pv (Go.Abs.PV.bool Bool.false), Go.Abs.CV.pv (Go.Abs.PV.bool Bool.false), Go.Abs.CV.pv (Go.Abs.PV.bool Bool.false), Go.Abs.CV.pv (Go.Abs.PV.bool Bool.false), Go.Abs.CV.pv (Go.Abs.PV.bool Bool.false), Go.Abs.CV.pv (Go.Abs.PV.bool Bool.false), Go.Abs.CV.pv (Go.Abs.PV.bool Bool.false), Go.Abs.CV.pv (Go.Abs.PV.bool Bool.false), Go.Abs.CV.pv (Go.Abs.PV.bool Bool.false), Go.Abs.CV.pv (Go.Abs.PV.bool Bool.false), Go.Abs.CV.pv (Go.Abs.PV.bool Bool.false), Go.Abs.CV.pv (Go.Abs.PV.bool Bool.false), Go.Abs.CV.pv (Go.Abs.PV.bool Bool.false), Go.Abs.CV.pv (Go.Abs.PV.bool Bool.false), Go.Abs.CV.pv (Go.Abs.PV.bool Bool.false), Go.Abs.CV.pv (Go.Abs.PV.bool Bool.false), Go.Abs.CV.pv (Go.Abs.PV.bool Bool.false), Go.Abs.CV.pv (Go.Abs.PV.bool Bool.false), Go.Abs.CV.pv (Go.Abs.PV.bool Bool.false), Go.Abs.CV.pv (Go.Abs.PV.bool Bool.false), Go.Abs.CV.pv (Go.Abs.PV.bool Bool.false), Go.Abs.CV.pv (Go.Abs.PV.bool Bool.false), Go.Abs.CV.pv (Go.Abs.PV.bool Bool.false), Go.Abs.CV.pv (Go.Abs.PV.bool Bool.false), Go.Abs.CV.pv (Go.Abs.PV.bool Bool.false), Go.Abs.CV.pv (Go.Abs.PV.bool Bool.false), Go.Abs.CV.pv (Go.Abs.PV.bool Bool.false), Go.Abs.CV.pv (Go.Abs.PV.bool Bool.false), Go.Abs.CV.pv (Go.Abs.PV.bool Bool.false), Go.Abs.CV.pv (Go.Abs.PV.bool Bool.false), Go.Abs.CV.pv (Go.Abs.PV.bool Bool.false), Go.Abs.CV.pv (Go.Abs.PV.bool Bool.false), Go.Abs.CV.pv (Go.Abs.PV.bool Bool.false), Go.Abs.CV.pv (Go.Abs.PV.bool Bool.false), Go.Abs.CV.pv (Go.Abs.PV.bool Bool.false), Go.Abs.CV.pv (Go.Abs.PV.bool Bool.false), Go.Abs.CV.pv (Go.Abs.PV.bool Bool.false), Go.Abs.CV.pv (Go.Abs.PV.bool Bool.false), Go.Abs.CV.pv (Go.Abs.PV.bool Bool.false), Go.Abs.CV.pv (Go.Abs.PV.bool Bool.false), Go.Abs.CV.pv (Go.Abs.PV.bool Bool.false), Go.Abs.CV.pv (Go.Abs.PV.bool Bool.false), Go.Abs.CV.pv (Go.Abs.PV.bool Bool.false), Go.Abs.CV.pv (Go.Abs.PV.bool Bool.false), Go.Abs.CV.pv (Go.Abs.PV.bool Bool.false), Go.Abs.CV.pv (Go.Abs.PV.bool Bool.false), Go.Abs.CV.pv (Go.Abs.PV.bool Bool.false), Go.Abs.CV.pv (Go.Abs.PV.bool Bool.false), Go.Abs.CV.pv (Go.Abs.PV.bool Bool.false), Go.Abs.CV.pv (Go.Abs.PV.bool Bool.false), Go.Abs.CV.pv (Go.Abs.PV.bool Bool.false), Go.Abs.CV.pv (Go.Abs.PV.bool Bool.false), Go.Abs.CV.pv (Go.Abs.PV.bool Bool.false), Go.Abs.CV.pv (Go.Abs.PV.bool Bool.false), Go.Abs.CV.pv (Go.Abs.PV.bool Bool.false), Go.Abs.CV.pv (Go.Abs.PV.bool Bool.false), Go.Abs.CV.pv (Go.Abs.PV.bool Bool.false), Go.Abs.CV.pv (Go.Abs.PV.bool Bool.false), Go.Abs.CV.pv (Go.Abs.PV.bool Bool.false), Go.Abs.CV.pv (Go.Abs.PV.bool Bool.false), Go.Abs.CV.pv (Go.Abs.PV.bool Bool.false), Go.Abs.CV.pv (Go.Abs.PV.bool Bool.false), Go.Abs.CV.pv (Go.Abs.PV.bool Bool.false), Go.Abs.CV.pv (Go.Abs.PV.bool Bool.false), Go.Abs.CV.pv (Go.Abs.PV.bool Bool.false), Go.Abs.CV.pv (Go.Abs.PV.bool Bool.false), Go.Abs.CV.pv (Go.Abs.PV.bool Bool.false), Go.Abs.CV.pv (Go.Abs.PV.bool Bool.false), Go.Abs.CV.pv (Go.Abs.PV.bool Bool.false), Go.Abs.CV.pv (Go.Abs.PV.bool Bool.false), Go.Abs.CV.pv (Go.Abs.PV.bool Bool.false), Go.Abs.CV.pv (Go.Abs.PV.bool Bool.false), Go.Abs.CV.pv (Go.Abs.PV.bool Bool.false), Go.Abs.CV.pv (Go.Abs.PV.bool Bool.false), Go.Abs.CV.pv (Go.Abs.PV.bool Bool.false), Go.Abs.CV.pv (Go.Abs.PV.bool Bool.false), Go.Abs.CV.pv (Go.Abs.PV.bool Bool.false)] := by kernel_rfl
theorem ty_isBoolT_111 : isBoolT Tryd.prog 111 = Bool.false := by kernel_rfl
theorem ty_isPtrT_111 : isPtrT Tryd.prog 111 = Bool.false := by kernel_rfl
theorem ty_concreteT_111 : concreteT Tryd.prog 111 = Bool.true := by kernel_rfl
theorem ty_isU8_111 : isU8 Tryd.prog 111 = Bool.false := by kernel_rfl
theorem ty_tvZero_111 : tvZero Tryd.prog 111 = Option.some (Go.Abs.TV.agg [Go.Abs.CV.pv (Go.Abs.PV.bool Bool.false), Go.Abs.CV.pv (Go.Abs.PV.bool Bool.false), Go.Abs.CV.pv (Go.Abs.PV.bool Bool.false), Go.Abs.CV.pv (Go.Abs.PV.bool Bool.false), Go.Abs.CV.pv (Go.Abs.PV.bool Bool.false), Go.Abs.CV.pv (Go.Abs.PV.bool Bool.false), Go.Abs.CV.pv (Go.Abs.PV.bool Bool.false), Go.Abs.CV.pv (Go.Abs.PV.bool Bool.false), Go.Abs.CV.pv (Go.Abs.PV.bool Bool.false), Go.Abs.CV.pv (Go.Abs.PV.bool Bool.false), Go.Abs.CV.pv (Go.Abs.PV.bool Bool.false), Go.Abs.CV.pv (Go.Abs.PV.bool Bool.false), Go.Abs.CV.pv (Go.Abs.PV.bool Bool.false), Go.Abs.CV.pv (Go.Abs.PV.bool Bool.false), Go.Abs.CV.pv (Go.Abs.PV.bool Bool.false), Go.Abs.CV.pv (Go.Abs.PV.bool Bool.false), Go.Abs.CV.pv (Go.Abs.PV.bool Bool.false), Go.Abs.CV.pv (Go.Abs.PV.bool Bool.false), Go.Abs.CV.pv (Go.Abs.PV.bool Bool.false), Go.Abs.CV.pv (Go.Abs.PV.bool Bool.false), Go.Abs.CV.pv (Go.Abs.PV.bool Bool.false), Go.Abs.CV.pv (Go.Abs.PV.bool Bool.false), Go.Abs.CV.pv (Go.Abs.PV.bool Bool.false), Go.Abs.CV.pv (Go.Abs.PV.bool Bool.false), Go.Abs.CV.pv (Go.Abs.PV.bool Bool.false), Go.Abs.CV.pv (Go.Abs.PV.bool Bool.false), Go.Abs.CV.pv (Go.Abs.PV.bool Bool.false), Go.Abs.CV.pv (Go.Abs.PV.bool Bool.false), Go.Abs.CV.pv (Go.Abs.PV.bool Bool.false), Go.Abs.CV.pv (Go.Abs.PV.bool Bool.false), Go.Abs.CV.pv (Go.Abs.PV.bool Bool.false), Go.Abs.CV.pv (Go.Abs.PV.bool Bool.false), Go.Abs.CV.pv (Go.Abs.PV.bool Bool.false), Go.Abs.CV.pv (Go.Abs.PV.bool Bool.false), Go.Abs.CV.pv (Go.Abs.PV.bool Bool.false), Go.Abs.CV.pv (Go.Abs.PV.bool Bool.false), Go.Abs.CV.pv (Go.Abs.PV.bool Bool.false), Go.Abs.CV.pv (Go.Abs.PV.bool Bool.false), Go.Abs.CV.pv (Go.Abs.PV.bool Bool.false), Go.Abs.CV.pv (Go.Abs.PV.bool Bool.false), Go.Abs.CV.pv (Go.Abs.PV.bool Bool.false), Go.Abs.CV.pv (Go.Abs.PV.bool Bool.false), Go.Abs.CV.pv (Go.Abs.PV.bool Bool.false), Go.Abs.CV.pv (Go.Abs.PV.bool Bool.false), Go.Abs.CV.pv (Go.Abs.PV.bool Bool.false), Go.Abs.CV.pv (Go.Abs.PV.bool Bool.false), Go.Abs.CV.pv (Go.Abs.PV.bool Bool.false), Go.Abs.CV.pv (Go.Abs.PV.bool Bool.false), Go.Abs.CV.pv (Go.Abs.PV.bool Bool.false), Go.Abs.CV.pv (Go.Abs.PV.bool Bool.false), Go.Abs.CV.pv (Go.Abs.PV.bool Bool.false), Go.Abs.CV.pv (Go.Abs.PV.bool Bool.false), Go.Abs.CV.pv (Go.Abs.PV.bool Bool.false), Go.Abs.CV.pv (Go.Abs.PV.bool Bool.false), Go.Abs.CV.pv (Go.Abs.PV.bool Bool.false), Go.Abs.CV.pv (Go.Abs.PV.bool Bool.false), Go.Abs.CV.pv (Go.Abs.PV.bool Bool.false), Go.Abs.CV.pv (Go.Abs.PV.bool Bool.false), Go.Abs.CV.pv (Go.Abs.PV.bool Bool.false), Go.Abs.CV.pv (Go.Abs.PV.bool Bool.false), Go.Abs.CV.pv (Go.Abs.PV.bool Bool.false), Go.Abs.CV.pv (Go.Abs.PV.bool Bool.false), Go.Abs.CV.pv (Go.Abs.PV.bool Bool.false), Go.Abs.CV.pv (Go.Abs.PV.bool Bool.false), Go.Abs.CV.pv (Go.Abs.PV.bool Bool.false), Go.Abs.CV.pv (Go.Abs.PV.bool Bool.false), Go.Abs.CV.pv (Go.Abs.PV.bool Bool.false), Go.Abs.CV.pv (Go.Abs.PV.bool Bool.false), Go.Abs.CV.pv (Go.Abs.PV.bool Bool.false), Go.Abs.CV.pv (Go.Abs.PV.bool Bool.false), Go.Abs.CV.pv (Go.Abs.PV.bool Bool.false), Go.Abs.CV.pv (Go.Abs.PV.bool Bool.false), Go.Abs.CV.pv (Go.Abs.PV.bool Bool.false), Go.Abs.CV.pv (Go.Abs.PV.bool Bool.false), Go.Abs.CV.pv (Go.Abs.PV.bool Bool.false), Go.Abs.CV.pv (Go.Abs.PV.bool Bool.false), Go.Abs.CV.pv (Go.Abs.PV.bool Bool.false), Go.Abs.CV.pv (Go.Abs.PV.bool Bool.false), Go.Abs.CV.pv (Go.Abs.PV.bool Bool.false), Go.Abs.CV.pv (Go.Abs.PV.bool Bool.false), Go.Abs.CV.pv (Go.Abs.PV.bool Bool.false), Go.Abs.CV.pv (Go.Abs.PV.bool Bool.false), Go.Abs.CV.pv (Go.Abs.PV.bool Bool.false), Go.Abs.CV.pv (Go.Abs.PV.bool Bool.false), Go.Abs.CV.pv (Go.Abs.PV.bool Bool.false), Go.Abs.CV.pv (Go.Abs.PV.bool Bool.false), Go.Abs.CV.pv (Go.Abs.PV.bool Bool.false), Go.Abs.CV.pv (Go.Abs.PV.bool Bool.false), Go.Abs.CV.pv (Go.Abs.PV.bool Bool.false), Go.Abs.CV.pv (Go.Abs.PV.bool Bool.false), Go.Abs.CV.pv (Go.Abs.PV.bool Bool.false), Go.Abs.CV.pv (Go.Abs.PV.bool Bool.false), Go.Abs.CV.pv (Go.Abs.PV.bool Bool.false), Go.Abs.CV.pv (Go.Abs.PV.bool Bool.false), Go.Abs.CV.pv (Go.Abs.PV.bool Bool.false), Go.Abs.CV.pv (Go.Abs.PV.bool Bool.false), Go.Abs.CV.pv (Go.Abs.PV.bool Bool.false), Go.Abs.CV.pv (Go.Abs.PV.bool Bool.false), Go.Abs.CV.pv (Go.Abs.PV.bool Bool.false), Go.Abs.CV.pv (Go.Abs.PV.bool Bool.false), Go.Abs.CV.pv (Go.Abs.PV.bool Bool.false), Go.Abs.CV.pv (Go.Abs.PV.bool Bool.false), Go.Abs.CV.pv (Go.Abs.PV.bool Bool.false), Go.Abs.CV.pv (Go.Abs.PV.bool Bool.false), Go.Abs.CV.pv (Go.Abs.PV.bool Bool.false), Go.Abs.CV.pv (Go.Abs.PV.bool Bool.false), Go.Abs.CV.pv (Go.Abs.PV.bool Bool.false), Go.Abs.CV.pv (Go.Abs.PV.bool Bool.false), Go.Abs.CV.pv (Go.Abs.PV.bool Bool.false), Go.Abs.CV.pv (Go.Abs.PV.bool Bool.false), Go.Abs.CV.pv (Go.Abs.PV.bool Bool.false), Go.Abs.CV.pv (Go.Abs.PV.bool Bool.false), Go.Abs.CV.pv (Go.Abs.PV.bool Bool.false), Go.Abs.CV.pv (Go.Abs.PV.bool Bool.false), Go.Abs.CV.pv (Go.Abs.PV.bool Bool.false), Go.Abs.CV.pv (Go.Abs.PV.bool Bool.false), Go.Abs.CV.pv (Go.Abs.PV.bool Bool.false), Go.Abs.CV.pv (Go.Abs.PV.bool Bool.false), Go.Abs.CV.pv (Go.Abs.PV.bool Bool.false), Go.Abs.CV.pv (Go.Abs.PV.bool Bool.false), Go.Abs.CV.pv (Go.Abs.PV.bool Bool.false), Go.Abs.CV.pv (Go.Abs.PV.bool Bool.false), Go.Abs.CV.pv (Go.Abs.PV.bool Bool.false), Go.Abs.CV.pv (Go.Abs.PV.bool Bool.false), Go.Abs.CV.pv (Go.Abs.PV.bool Bool.false), Go.Abs.CV.pv (Go.Abs.PV.bool Bool.false), Go.Abs.CV.pv (Go.Abs.PV.bool Bool.false), Go.Abs.CV.pv (Go.Abs.PV.bool Bool.false), Go.Abs.CV.pv (Go.Abs.PV.bool Bool.false), Go.Abs.CV.pv (Go.Abs.PV.bool Bool.false), Go.Abs.CV.pv (Go.Abs.PV.bool Bool.false), Go.Abs.CV.pv (Go.Abs.PV.bool Bool.false), Go.Abs.CV.pv (Go.Abs.PV.bool Bool.false), Go.Abs.CV.pv (Go.Abs.PV.bool Bool.false), Go.Abs.CV.pv (Go.Abs.PV.bool Bool.false), Go.Abs.CV.pv (Go.Abs.PV.bool Bool.false), Go.Abs.CV.pv (Go.Abs.PV.bool Bool.false), Go.Abs.CV.pv (Go.Abs.PV.bool Bool.false), Go.Abs.CV.pv (Go.Abs.PV.bool Bool.false), Go.Abs.CV.pv (Go.Abs.PV.bool Bool.false), Go.Abs.CV.pv (Go.Abs.PV.bool Bool.false), Go.Abs.CV.pv (Go.Abs.PV.bool Bool.false), Go.Abs.CV.pv (Go.Abs.PV.bool Bool.false), Go.Abs.CV.pv (Go.Abs.PV.bool Bool.false), Go.Abs.CV.pv (Go.Abs.PV.bool Bool.false), Go.Abs.CV.pv (Go.Abs.PV.bool Bool.false), Go.Abs.CV.pv (Go.Abs.PV.bool Bool.false), Go.Abs.CV.pv (Go.Abs.PV.bool Bool.false), Go.Abs.CV.pv (Go.Abs.PV.bool Bool.false), Go.Abs.CV.pv (Go.Abs.PV.bool Bool.false), Go.Abs.CV.pv (Go.Abs.PV.bool Bool.false), Go.Abs.CV.pv (Go.Abs.PV.bool Bool.false), Go.Abs.CV.pv (Go.Abs.PV.bool Bool.false), Go.Abs.CV.pv (Go.Abs.PV.bool Bool.false), Go.Abs.CV.pv (Go.Abs.PV.bool Bool.false), Go.Abs.CV.pv (Go.Abs.PV.bool Bool.false), Go.Abs.CV.pv (Go.Abs.PV.bool Bool.false), Go.Abs.CV.pv (Go.Abs.PV.bool Bool.false), Go.Abs.CV.pv (Go.Abs.PV.bool Bool.false), Go.Abs.CV.pv (Go.Abs.PV.bool Bool.false), Go.Abs.CV.pv (Go.Abs.PV.bool Bool.false), Go.Abs.CV.pv (Go.Abs.PV.bool Bool.false), Go.Abs.CV.pv (Go.Abs.PV.bool Bool.false), Go.Abs.CV.pv (Go.Abs.PV.bool Bool.false), Go.Abs.CV.pv (Go.Abs.PV.bool Bool.false), Go.Abs.CV.pv (Go.Abs.PV.bool Bool.false), Go.Abs.CV.pv (Go.Abs.PV.bool Bool.false), Go.Abs.CV.pv (Go.Abs.PV.bool Bool.false), Go.Abs.CV.pv (Go.Abs.PV.bool Bool.false), Go.Abs.CV.pv (Go.Abs.PV.bool Bool.false), Go.Abs.CV.pv (Go.Abs.PV.bool Bool.false), Go.Abs.CV.pv (Go.Abs.PV.bool Bool.false), Go.Abs.CV.pv (Go.Abs.PV.bool Bool.false), Go.Abs.CV.pv (Go.Abs.PV.bool Bool.false), Go.Abs.CV.pv (Go.Abs.PV.bool Bool.false), Go.Abs.CV.pv (Go.Abs.PV.bool Bool.false), Go.Abs.CV.pv (Go.Abs.PV.bool Bool.false), Go.Abs.CV.pv (Go.Abs.PV.bool Bool.false), Go.Abs.CV.pv (Go.Abs.PV.bool Bool.false), Go.Abs.CV.pv (Go.Abs.PV.bool Bool.false), Go.Abs.CV.pv (Go.Abs.PV.bool Bool.false), Go.Abs.CV.pv (Go.Abs.PV.bool Bool.false), Go.Abs.CV.pv (Go.Abs.PV.bool Bool.false), Go.Abs.CV.pv (Go.Abs.PV.bool Bool.false), Go.Abs.CV.pv (Go.Abs.PV.bool Bool.false), Go.Abs.CV.pv (Go.Abs.PV.bool Bool.false), Go.Abs.CV.pv (Go.Abs.PV.bool Bool.false), Go.Abs.CV.pv (Go.Abs.PV.bool Bool.false), Go.Abs.CV.pv (Go.Abs.PV.bool Bool.false), Go.Abs.CV.pv (Go.Abs.PV.bool Bool.false), Go.Abs.CV.pv (Go.Abs.PV.bool Bool.false), Go.Abs.CV.pv (Go.Abs.PV.bool Bool.false), Go.Abs.CV.pv (Go.Abs.PV.bool Bool.false), Go.Abs.CV.pv (Go.Abs.PV.bool Bool.false), Go.Abs.CV.pv (Go.Abs.PV.bool Bool.false), Go.Abs.CV.pv (Go.Abs.PV.bool Bool.false), Go.Abs.CV.pv (Go.Abs.PV.bool Bool.false), Go.Abs.CV.pv (Go.Abs.PV.bool Bool.false), Go.Abs.CV.pv (Go.Abs.PV.bool Bool.false), Go.Abs.CV.pv (Go.Abs.PV.bool Bool.false), Go.Abs.CV.pv (Go.Abs.PV.bool Bool.false), Go.Abs.CV.pv (Go.Abs.PV.bool Bool.false), Go.Abs.CV.pv (Go.Abs.PV.bool Bool.false), Go.Abs.CV.pv (Go.Abs.PV.bool Bool.false), Go.Abs.CV.pv (Go.Abs.PV.bool Bool.false), Go.Abs.CV.pv (Go.Abs.PV.bool Bool.false), Go.Abs.CV.pv (Go.Abs.PV.bool Bool.false), Go.Abs.CV.pv (Go.Abs.PV.bool Bool.false), Go.Abs.CV.pv (Go.Abs.PV.bool Bool.false), Go.Abs.CV.pv (Go.Abs.PV.bool Bool.false), Go.Abs.CV.pv (Go.Abs.PV.bool Bool.false), Go.Abs.CV.pv (Go.Abs.PV.bool Bool.false), Go.Abs.CV.pv (Go.Abs.PV.bool Bool.false), Go.Abs.CV.pv (Go.Abs.PV.bool Bool.false), Go.Abs.CV.pv (Go.Abs.PV.bool Bool.false), Go.Abs.CV.pv (Go.Abs.PV.bool Bool.false), Go.Abs.CV.pv (Go.Abs.PV.bool Bool.false), Go.Abs.CV.pv (Go.Abs.PV.bool Bool.false), Go.Abs.CV.pv (Go.Abs.PV.bool Bool.false), Go.Abs.CV.pv (Go.Abs.PV.bool Bool.false), Go.Abs.CV.pv (Go.Abs.PV.bool Bool.false), Go.Abs.CV.pv (Go.Abs.PV.bool Bool.false), Go.Abs.CV.pv (Go.Abs.PV.bool Bool.false), Go.Abs.CV.pv (Go.Abs.PV.bool Bool.false), Go.Abs.CV.pv (Go.Abs.PV.bool Bool.false), Go.Abs.CV.pv (Go.Abs.PV.bool Bool.false), Go.Abs.CV.pv (Go.Abs.PV.bool Bool.false), Go.Abs.CV.pv (Go.Abs.PV.bool Bool.false), Go.Abs.CV.pv (Go.Abs.PV.bool Bool.false), Go.Abs.CV.pv (Go.Abs.PV.bool Bool.false), Go.Abs.CV.pv (Go.Abs.PV.bool Bool.false), Go.Abs.CV.pv (Go.Abs.PV.bool Bool.false), Go.Abs.CV.pv (Go.Abs.PV.bool Bool.false), Go.Abs.CV.pv (Go.Abs.PV.bool Bool.false), Go.Abs.CV.pv (Go.Abs.PV.bool Bool.false), Go.Abs.CV.pv (Go.Abs.PV.bool Bool.false), Go.Abs.CV.pv (Go.Abs.PV.bool Bool.false), Go.Abs.CV.pv (Go.Abs.PV.bool Bool.false), Go.Abs.CV.pv (Go.Abs.PV.bool Bool.false), Go.Abs.CV.pv (Go.Abs.PV.bool Bool.false), Go.Abs.CV.pv (Go.Abs.PV.bool Bool.false), Go.Abs.CV.pv (Go.Abs.PV.bool Bool.false), Go.Abs.CV.pv (Go.Abs.PV.bool Bool.false), Go.Abs.CV.pv (Go.Abs.PV.bool Bool.false), Go.Abs.CV.pv (Go.Abs.PV.bool Bool.false), Go.Abs.CV.pv (Go.Abs.PV.bool Bool.false), Go.Abs.CV.pv (Go.Abs.PV.bool Bool.false), Go.Abs.CV.pv (Go.Abs.PV.bool Bool.false), Go.Abs.CV.pv (Go.Abs.PV.bool Bool.false), Go.Abs.CV.pv (Go.Abs.PV.bool Bool.false), Go.Abs.CV.pv (Go.Abs.PV.bool Bool.false), Go.Abs.CV.pv (Go.Abs.PV.bool Bool.false), Go.Abs.CV.pv (Go.Abs.PV.bool Bool.false), Go.Abs.CV.pv (Go.Abs.PV.bool Bool.false), Go.Abs.CV.pv (Go.Abs.PV.bool Bool.false), Go.Abs.CV.pv (Go.Abs.PV.bool Bool.false)]) := by kernel_rfl
theorem ty_shapeT_112 : shapeT Tryd.prog 112 = Option.some Option.none := by kernel_rfl
theorem ty_szOf_112 : szOf Tryd.prog 112 = Option.some 1 := by kernel_rfl
theorem ty_isBoolT_112 : isBoolT Tryd.prog 112 = Bool.false := by kernel_rfl
theorem ty_isPtrT_112 : isPtrT Tryd.prog 112 = Bool.false := by kernel_rfl
theorem ty_concreteT_112 : concreteT Tryd.prog 112 = Bool.true := by kernel_rfl
theorem ty_isU8_112 : isU8 Tryd.prog 112 = Bool.false := by kernel_rfl
theorem ty_shapeT_113 : shapeT Tryd.prog 113 = Option.some Option.none := by kernel_rfl
theorem ty_szOf_113 : szOf Tryd.prog 113 = Option.some 1 := by kernel_rfl
theorem ty_zeroCells_113 : zeroCells Tryd.prog 113 = Option.some [Go.Abs.CV.top] := by kernel_rfl
theorem ty_isBoolT_113 : isBoolT Tryd.prog 113 = Bool.false := by kernel_rfl
theorem ty_isPtrT_113 : isPtrT Tryd.prog 113 = Bool.false := by kernel_rfl
theorem ty_concreteT_113 : concreteT Tryd.prog 113 = Bool.true := by kernel_rfl
theorem ty_isU8_113 : isU8 Tryd.prog 113 = Bool.false := by kernel_rfl
theorem ty_shapeT_114 : shapeT Tryd.prog 114 = Option.some Option.none := by kernel_rfl
theorem ty_szOf_114 : szOf Tryd.prog 114 = Option.some 1 := by kernel_rfl
theorem ty_zeroCells_114 : zeroCells Tryd.prog 114 = Option.some [Go.Abs.CV.top] := by kernel_rfl
theorem ty_isBoolT_114 : isBoolT Tryd.prog 114 = Bool.false := by kernel_rfl
theorem ty_isPtrT_114 : isPtrT Tryd.prog 114 = Bool.false := by kernel_rfl
theorem ty_concreteT_114 : concreteT Tryd.prog 114 = Bool.true := by kernel_rfl
theorem ty_isU8_114 : isU8 Tryd.prog 114 = Bool.false := by kernel_rfl
theorem ty_shapeT_115 : shapeT Tryd.prog 115 = Option.some Option.none := by kernel_rfl
theorem ty_szOf_115 : szOf Tryd.prog 115 = Option.some 1 := by kernel_rfl
theorem ty_isBoolT_115 : isBoolT Tryd.prog 115 = Bool.false := by kernel_rfl
theorem ty_isPtrT_115 : isPtrT Tryd.prog 115 = Bool.false := by kernel_rfl
theorem ty_concreteT_115 : concreteT Tryd.prog 115 = Bool.true := by kernel_rfl
theorem ty_isU8_115 : isU8 Tryd.prog 115 = Bool.false := by kernel_rfl
theorem ty_shapeT_116 : shapeT Tryd.prog 116 = Option.some Option.none := by kernel_rfl
theorem ty_szOf_116 : szOf Tryd.prog 116 = Option.some 1 := by kernel_rfl
theorem ty_zeroCells_116 : zeroCells Tryd.prog 116 = Option.some [Go.Abs.CV.top] := by kernel_rfl
theorem ty_isBoolT_116 : isBoolT Tryd.prog 116 = Bool.false := by kernel_rfl
theorem ty_isPtrT_116 : isPtrT Tryd.prog 116 = Bool.false := by kernel_rfl
theorem ty_concreteT_116 : concreteT Tryd.prog 116 = Bool.true := by kernel_rfl
theorem ty_isU8_116 : isU8 Tryd.prog 116 = Bool.false := by kernel_rfl
theorem ty_shapeT_117 : shapeT Tryd.prog 117 = Option.some Option.none := by kernel_rfl
theorem ty_szOf_117 : szOf Tryd.prog 117 = Option.some 1 := by kernel_rfl
theorem ty_zeroCells_117 : zeroCells Tryd.prog 117 = Option.some [Go.Abs.CV.top] := by kernel_rfl
theorem ty_isBoolT_117 : isBoolT Tryd.prog 117 = Bool.false := by kernel_rfl
theorem ty_isPtrT_117 : isPtrT Tryd.prog 117 = Bool.false := by kernel_rfl
theorem ty_concreteT_117 : concreteT Tryd.prog 117 = Bool.true := by kernel_rfl
theorem ty_isU8_117 : isU8 Tryd.prog 117 = Bool.false := by kernel_rfl
theorem ty_shapeT_118 : shapeT Tryd.prog 118 = Option.some Option.none := by kernel_rfl
theorem ty_szOf_118 : szOf Tryd.prog 118 = Option.some 1 := by kernel_rfl
theorem ty_zeroCells_118 : zeroCells Tryd.prog 118 = Option.some [Go.Abs.CV.nilp] := by kernel_rfl
theorem ty_isBoolT_118 : isBoolT Tryd.prog 118 = Bool.false := by kernel_rfl
theorem ty_isPtrT_118 : isPtrT Tryd.prog 118 = Bool.true := by kernel_rfl
theorem ty_concreteT_118 : concreteT Tryd.prog 118 = Bool.true := by kernel_rfl
theorem ty_isU8_118 : isU8 Tryd.prog 118 = Bool.false := by kernel_rfl
theorem ty_tvZero_118 : tvZero Tryd.prog 118 = Option.some (Go.Abs.TV.c Go.Abs.CV.nilp) := by kernel_rfl
theorem ty_shapeT_119 : shapeT Tryd.prog 119 = Option.some (Option.some 32) := by kernel_rfl
theorem ty_szOf_119 : szOf Tryd.prog 119 = Option.some 32 := by kernel_rfl
theorem ty_zeroCells_119 : zeroCells Tryd.prog 119 = Option.some [Go.Abs.CV.pv (Go.Abs.PV.int Go.IntKind.u8 0), Go.Abs.CV.pv (Go.Abs.PV.int Go.IntKind.u8 0), Go.Abs.CV.pv (Go.Abs.PV.int Go.IntKind.u8 0), Go.Abs.CV.pv (Go.Abs.PV.int Go.IntKind.u8 0), Go.Abs.CV.pv (Go.Abs.PV.int Go.IntKind.u8 0), Go.Abs.CV.pv (Go.Abs.PV.int Go.IntKind.u8 0), Go.Abs.CV.pv (Go.Abs.PV.int Go.IntKind.u8 0), Go.Abs.CV.pv (Go.Abs.PV.int Go.IntKind.u8 0), Go.Abs.CV.pv (Go.Abs.PV.int Go.IntKind.u8 0), Go.Abs.CV.pv (Go.Abs.PV.int Go.IntKind.u8 0), Go.Abs.CV.pv (Go.Abs.PV.int Go.IntKind.u8 0), Go.Abs.CV.pv (Go.Abs.PV.int Go.IntKind.u8 0), Go.Abs.CV.pv (Go.Abs.PV.int Go.IntKind.u8 0), Go.Abs.CV.pv (Go.Abs.PV.int Go.IntKind.u8 0), Go.Abs.CV.pv (Go.Abs.PV.int Go.IntKind.u8 0), Go.Abs.CV.pv (Go.Abs.PV.int Go.IntKind.u8 0), Go.Abs.CV.pv (Go.Abs.PV.int Go.IntKind.u8 0), Go.Abs.CV.pv (Go.Abs.PV.int Go.IntKind.u8 0), Go.Abs.CV.pv (Go.Abs.PV.int Go.IntKind.u8 0), Go.Abs.CV.pv (Go.Abs.PV.int Go.IntKind.u8 0), Go.Abs.CV.pv (Go.Abs.PV.int Go.IntKind.u8 0), Go.Abs.CV.pv (Go.Abs.PV.int Go.IntKind.u8 0), Go.Abs.CV.pv (Go.Abs.PV.int Go.IntKind.u8 0), Go.Abs.CV.pv (Go.Abs.PV.int Go.IntKind.u8 0), Go.Abs.CV.pv (Go.Abs.PV.int Go.IntKind.u8 0), Go.Abs.CV.pv (Go.Abs.PV.int Go.IntKind.u8 0), Go.Abs.CV.pv (Go.Abs.PV.int Go.IntKind.u8 0), Go.Abs.CV.pv (Go.Abs.PV.int Go.IntKind.u8 0), Go.Abs.CV.pv (Go.Abs.PV.int Go.IntKind.u8 0), Go.Abs.CV.pv (Go.Abs.PV.int Go.IntKind.u8 0), Go.Abs.CV.pv (Go.Abs.PV.int Go.IntKind.u8 0), Go.Abs.CV.pv (Go.Abs.PV.int Go.IntKind.u8 0)] := by kernel_rfl
theorem ty_isBoolT_119 : isBoolT Tryd.prog 119 = Bool.false := by kernel_rfl
theorem ty_isPtrT_119 : isPtrT Tryd.prog 119 = Bool.false := by kernel_rfl
theorem ty_concreteT_119 : concreteT Tryd.prog 119 = Bool.true := by kernel_rfl
theorem ty_isU8_119 : isU8 Tryd.prog 119 = Bool.false := by kernel_rfl
theorem ty_tvZero_119 : tvZero Tryd.prog 119 = Option.some (Go.Abs.TV.agg [Go.Abs.CV.pv (Go.Abs.PV.int Go.IntKind.u8 0), Go.Abs.CV.pv (Go.Abs.PV.int Go.IntKind.u8 0), Go.Abs.CV.pv (Go.Abs.PV.int Go.IntKind.u8 0), Go.Abs.CV.pv (Go.Abs.PV.int Go.IntKind.u8 0), Go.Abs.CV.pv (Go.Abs.PV.int Go.IntKind.u8 0), Go.Abs.CV.pv (Go.Abs.PV.int Go.IntKind.u8 0), Go.Abs.CV.pv (Go.Abs.PV.int Go.IntKind.u8 0), Go.Abs.CV.pv (Go.Abs.PV.int Go.IntKind.u8 0), Go.Abs.CV.pv (Go.Abs.PV.int Go.IntKind.u8 0), Go.Abs.CV.pv (Go.Abs.PV.int Go.IntKind.u8 0), Go.Abs.CV.pv (Go.Abs.PV.int Go.IntKind.u8 0), Go.Abs.CV.pv (Go.Abs.PV.int Go.IntKind.u8 0), Go.Abs.CV.pv (Go.Abs.PV.int Go.IntKind.u8 0), Go.Abs.CV.pv (Go.Abs.PV.int Go.IntKind.u8 0), Go.Abs.CV.pv (Go.Abs.PV.int Go.IntKind.u8 0), Go.Abs.CV.pv (Go.Abs.PV.int Go.IntKind.u8 0), Go.Abs.CV.pv (Go.Abs.PV.int Go.IntKind.u8 0), Go.Abs.CV.pv (Go.Abs.PV.int Go.IntKind.u8 0), Go.Abs.CV.pv (Go.Abs.PV.int Go.IntKind.u8 0), Go.Abs.CV.pv (Go.Abs.PV.int Go.IntKind.u8 0), Go.Abs.CV.pv (Go.Abs.PV.int Go.IntKind.u8 0), Go.Abs.CV.pv (Go.Abs.PV.int Go.IntKind.u8 0), Go.Abs.CV.pv (Go.Abs.PV.int Go.IntKind.u8 0), Go.Abs.CV.pv (Go.Abs.PV.int Go.IntKind.u8 0), Go.Abs.CV.pv (Go.Abs.PV.int Go.IntKind.u8 0), Go.Abs.CV.pv (Go.Abs.PV.int Go.IntKind.u8 0), Go.Abs.CV.pv (Go.Abs.PV.int Go.IntKind.u8 0), Go.Abs.CV.pv (Go.Abs.PV.int Go.IntKind.u8 0), Go.Abs.CV.pv (Go.Abs.PV.int Go.IntKind.u8 0), Go.Abs.CV.pv (Go.Abs.PV.int Go.IntKind.u8 0), Go.Abs.CV.pv (Go.Abs.PV.int Go.IntKind.u8 0), Go.Abs.CV.pv (Go.Abs.PV.int Go.IntKind.u8 0)]) := by kernel_rfl
theorem ty_shapeT_120 : shapeT Tryd.prog 120 = Option.some (Option.some 64) := by kernel_rfl
theorem ty_szOf_120 : szOf Tryd.prog 120 = Option.some 64 := by kernel_rfl
theorem ty_zeroCells_120 : zeroCells Tryd.prog 120 = Option.some [Go.Abs.CV.pv (Go.Abs.PV.int Go.IntKind.u8 0), Go.Abs.CV.pv (Go.Abs.PV.int Go.IntKind.u8 0), Go.Abs.CV.pv (Go.Abs.PV.int Go.IntKind.u8 0), Go.Abs.CV.pv (Go.Abs.PV.int Go.IntKind.u8 0), Go.Abs.CV.pv (Go.Abs.PV.int Go.IntKind.u8 0), Go.Abs.CV.pv (Go.Abs.PV.int Go.IntKind.u8 0), Go.Abs.CV.pv (Go.Abs.PV.int Go.IntKind.u8 0), Go.Abs.CV.pv (Go.Abs.PV.int Go.IntKind.u8 0), Go.Abs.CV.pv (Go.Abs.PV.int Go.IntKind.u8 0), Go.Abs.CV.pv (Go.Abs.PV.int Go.IntKind.u8 0), Go.Abs.CV.pv (Go.Abs.PV.int Go.IntKind.u8 0), Go.Abs.CV.pv (Go.Abs.PV.int Go.IntKind.u8 0), Go.Abs.CV.pv (Go.Abs.PV.int Go.IntKind.u8 0), Go.Abs.CV.pv (Go.Abs.PV.int Go.IntKind.u8 0), Go.Abs.CV.pv (Go.Abs.PV.int Go.IntKind.u8 0), Go.Abs.CV.pv (Go.Abs.PV.int Go.IntKind.u8 0), Go.Abs.CV.pv (Go.Abs.PV.int Go.IntKind.u8 0), Go.Abs.CV.pv (Go.Abs.PV.int Go.IntKind.u8 0), Go.Abs.CV.pv (Go.Abs.PV.int Go.IntKind.u8 0), Go.Abs.CV.pv (Go.Abs.PV.int Go.IntKind.u8 0), Go.Abs.CV.pv (Go.Abs.PV.int Go.IntKind.u8 0), Go.Abs.CV.pv (Go.Abs.PV.int Go.IntKind.u8 0), Go.Abs.CV.pv (Go.Abs.PV.int Go.IntKind.u8 0), Go.Abs.CV.pv (Go.Abs.PV.int Go.IntKind.u8 0), Go.Abs.CV.pv (Go.Abs.PV.int Go.IntKind.u8 0), Go.Abs.CV.pv (Go.Abs.PV.int Go.IntKind.u8 0), Go.Abs.CV.pv (Go.Abs.PV.int Go.IntKind.u8 0), Go.Abs.CV.pv (Go.Abs.PV.int Go.IntKind.u8 0), Go.Abs.CV.pv (Go.Abs.PV.int Go.IntKind.u8 0), Go.Abs.CV.pv (Go.Abs.PV.int Go.IntKind.u8 0), Go.Abs.CV.pv (Go.Abs.PV.int Go.IntKind.u8 0), Go.Abs.CV.pv (Go.Abs.PV.int Go.IntKind.u8 0), Go.Abs.CV.pv (Go.Abs.PV.int Go.IntKind.u8 0), Go.Abs.CV.pv (Go.Abs.PV.int Go.IntKind.u8 0), Go.Abs.CV.pv (Go.Abs.PV.int Go.IntKind.u8 0), Go.Abs.CV.pv (Go.Abs.PV.int Go.IntKind.u8 0), Go.Abs.CV.pv (Go.Abs.PV.int Go.IntKind.u8 0), Go.Abs.CV.pv (Go.Abs.PV.int Go.IntKind.u8 0), Go.Abs.CV.pv (Go.Abs.PV.int Go.IntKind.u8 0), Go.Abs.CV.pv (Go.Abs.PV.int Go.IntKind.u8 0), Go.Abs.CV.pv (Go.Abs.PV.int Go.IntKind.u8 0), Go.Abs.CV.pv (Go.Abs.PV.int Go.IntKind.u8 0), Go.Abs.CV.pv (Go.Abs.PV.int Go.IntKind.u8 0), Go.Abs.CV.pv (Go.Abs.PV.int Go.IntKind.u8 0), Go.Abs.CV.pv (Go.Abs.PV.int Go.IntKind.u8 0), Go.Abs.CV.pv (Go.Abs.PV.int Go.IntKind.u8 0), Go.Abs.CV.pv (Go.Abs.PV.int Go.IntKind.u8 0), Go.Abs.CV.pv (Go.Abs.PV.int Go.IntKind.u8 0), Go.Abs.CV.pv (Go.Abs.PV.int Go.IntKind.u8 0), Go.Abs.CV.pv (Go.Abs.PV.int Go.IntKind.u8 0), Go.Abs.CV.pv (Go.Abs.PV.int Go.IntKind.u8 0), Go.Abs.CV.pv (Go.Abs.PV.int Go.IntKind.u8 0), Go.Abs.CV.pv (Go.Abs.PV.int Go.IntKind.u8 0), Go.Abs.CV.pv (Go.Abs.PV.int Go.IntKind.u8 0), Go.Abs.CV.pv (Go.Abs.PV.int Go.IntKind.u8 0), Go.Abs.CV.pv (Go.Abs.PV.int Go.IntKind.u8 0), Go.Abs.CV.pv (Go.Abs.PV.int Go.IntKind.u8 0), Go.Abs.CV.pv (Go.Abs.PV.int Go.IntKind.u8 0), Go.Abs.CV.pv (Go.Abs.PV.int Go.IntKind.u8 0), Go.Abs.CV.pv (Go.Abs.PV.int Go.IntKind.u8 0), Go.Abs.CV.pv (Go.Abs.PV.int Go.IntKind.u8 0), Go.Abs.CV.pv (Go.Abs.PV.int Go.IntKind.u8 0), Go.Abs.CV.pv (Go.Abs.PV.int Go.IntKind.u8 0), Go.Abs.CV.pv (Go.Abs.PV.int Go.IntKind.u8 0)] := by kernel_rfl
theorem ty_isBoolT_120 : isBoolT Tryd.prog 120 = Bool.false := by kernel_rfl
theorem ty_isPtrT_120 : isPtrT Tryd.prog 120 = Bool.false := by kernel_rfl
theorem ty_concreteT_120 : concreteT Tryd.prog 120 = Bool.true := by kernel_rfl
theorem ty_isU8_120 : isU8 Tryd.prog 120 = Bool.false := by kernel_rfl
theorem ty_tvZero_120 : tvZero Tryd.prog 120 = Option.some (Go.Abs.TV.agg [Go.Abs.CV.pv (Go.Abs.PV.int Go.IntKind.u8 0), Go.Abs.CV.pv (Go.Abs.PV.int Go.IntKind.u8 0), Go.Abs.CV.pv (Go.Abs.PV.int Go.IntKind.u8 0), Go.Abs.CV.pv (Go.Abs.PV.int Go.IntKind.u8 0), Go.Abs.CV.pv (Go.Abs.PV.int Go.IntKind.u8 0), Go.Abs.CV.pv (Go.Abs.PV.int Go.IntKind.u8 0), Go.Abs.CV.pv (Go.Abs.PV.int Go.IntKind.u8 0), Go.Abs.CV.pv (Go.Abs.PV.int Go.IntKind.u8 0), Go.Abs.CV.pv (Go.Abs.PV.int Go.IntKind.u8 0), Go.Abs.CV.pv (Go.Abs.PV.int Go.IntKind.u8 0), Go.Abs.CV.pv (Go.Abs.PV.int Go.IntKind.u8 0), Go.Abs.CV.pv (Go.Abs.PV.int Go.IntKind.u8 0), Go.Abs.CV.pv (Go.Abs.PV.int Go.IntKind.u8 0), Go.Abs.CV.pv (Go.Abs.PV.int Go.IntKind.u8 0), Go.Abs.CV.pv (Go.Abs.PV.int Go.IntKind.u8 0), Go.Abs.CV.pv (Go.Abs.PV.int Go.IntKind.u8 0), Go.Abs.CV.pv (Go.Abs.PV.int Go.IntKind.u8 0), Go.Abs.CV.pv (Go.Abs.PV.int Go.IntKind.u8 0), Go.Abs.CV.pv (Go.Abs.PV.int Go.IntKind.u8 0), Go.Abs.CV.pv (Go.Abs.PV.int Go.IntKind.u8 0), Go.Abs.CV.pv (Go.Abs.PV.int Go.IntKind.u8 0), Go.Abs.CV.pv (Go.Abs.PV.int Go.IntKind.u8 0), Go.Abs.CV.pv (Go.Abs.PV.int Go.IntKind.u8 0), Go.Abs.CV.pv (Go.Abs.PV.int Go.IntKind.u8 0), Go.Abs.CV.pv (Go.Abs.PV.int Go.IntKind.u8 0), Go.Abs.CV.pv (Go.Abs.PV.int Go.IntKind.u8 0), Go.Abs.CV.pv (Go.Abs.PV.int Go.IntKind.u8 0), Go.Abs.CV.pv (Go.Abs.PV.int Go.IntKind.u8 0), Go.Abs.CV.pv (Go.Abs.PV.int Go.IntKind.u8 0), Go.Abs.CV.pv (Go.Abs.PV.int Go.IntKind.u8 0), Go.Abs.CV.pv (Go.Abs.PV.int Go.IntKind.u8 0), Go.Abs.CV.pv (Go.Abs.PV.int Go.IntKind.u8 0), Go.Abs.CV.pv (Go.Abs.PV.int Go.IntKind.u8 0), Go.Abs.CV.pv (Go.Abs.PV.int Go.IntKind.u8 0), Go.Abs.CV.pv (Go.Abs.PV.int Go.IntKind.u8 0), Go.Abs.CV.pv (Go.Abs.PV.int Go.IntKind.u8 0), Go.Abs.CV.pv (Go.Abs.PV.int Go.IntKind.u8 0), Go.Abs.CV.pv (Go.Abs.PV.int Go.IntKind.u8 0), Go.Abs.CV.pv (Go.Abs.PV.int Go.IntKind.u8 0), Go.Abs.CV.pv (Go.Abs.PV.int Go.IntKind.u8 0), Go.Abs.CV.pv (Go.Abs.PV.int Go.IntKind.u8 0), Go.Abs.CV.pv (Go.Abs.PV.int Go.IntKind.u8 0), Go.Abs.CV.pv (Go.Abs.PV.int Go.IntKind.u8 0), Go.Abs.CV.pv (Go.Abs.PV.int Go.IntKind.u8 0), Go.Abs.CV.pv (Go.Abs.PV.int Go.IntKind.u8 0), Go.Abs.CV.pv (Go.Abs.PV.int Go.IntKind.u8 0), Go.Abs.CV.pv (Go.Abs.PV.int Go.IntKind.u8 0), Go.Abs.CV.pv (Go.Abs.PV.int Go.IntKind.u8 0), Go.Abs.CV.pv (Go.Abs.PV.int Go.IntKind.u8 0), Go.Abs.CV.pv (Go.Abs.PV.int Go.IntKind.u8 0), Go.Abs.CV.pv (Go.Abs.PV.int Go.IntKind.u8 0), Go.Abs.CV.pv (Go.Abs.PV.int Go.IntKind.u8 0), Go.Abs.CV.pv (Go.Abs.PV.int Go.IntKind.u8 0), Go.Abs.CV.pv (Go.Abs.PV.int Go.IntKind.u8 0), Go.Abs.CV.pv (Go.Abs.PV.int Go.IntKind.u8 0), Go.Abs.CV.pv (Go.Abs.PV.int Go.IntKind.u8 0), Go.Abs.CV.pv (Go.Abs.PV.int Go.IntKind.u8 0), Go.Abs.CV.pv (Go.Abs.PV.int Go.IntKind.u8 0), Go.Abs.CV.pv (Go.Abs.PV.int Go.IntKind.u8 0), Go.Abs.CV.pv (Go.Abs.PV.int Go.IntKind.u8 0), Go.Abs.CV.pv (Go.Abs.PV.int Go.IntKind.u8 0), Go.Abs.CV.pv (Go.Abs.PV.int Go.IntKind.u8 0), Go.Abs.CV.pv (Go.Abs.PV.int Go.IntKind.u8 0), Go.Abs.CV.pv (Go.Abs.PV.int Go.IntKind.u8 0)]) := by kernel_rfl
theorem ty_shapeT_121 : shapeT Tryd.prog 121 = Option.some Option.none := by kernel_rfl
theorem ty_szOf_121 : szOf Tryd.prog 121 = Option.some 1 := by kernel_rfl
theorem ty_zeroCells_121 : zeroCells Tryd.prog 121 = Option.some [Go.Abs.CV.top] := by kernel_rfl
theorem ty_isBoolT_121 : isBoolT Tryd.prog 121 = Bool.false := by kernel_rfl
theorem ty_isPtrT_121 : isPtrT Tryd.prog 121 = Bool.false := by kernel_rfl
theorem ty_concreteT_121 : concreteT Tryd.prog 121 = Bool.true := by kernel_rfl
theorem ty_isU8_121 : isU8 Tryd.prog 121 = Bool.false := by kernel_rfl
theorem ty_shapeT_122 : shapeT Tryd.prog 122 = Option.some (Option.some 4) := by kernel_rfl
theorem ty_szOf_122 : szOf Tryd.prog 122 = Option.some 4 := by kernel_rfl
theorem ty_zeroCells_122 : zeroCells Tryd.prog 122 = Option.some [Go.Abs.CV.nilp, Go.Abs.CV.nilp, Go.Abs.CV.nilp, Go.Abs.CV.pv (Go.Abs.PV.str [])] := by kernel_rfl
theorem ty_placesOf_122 : placesOf Tryd.prog 122 = Option.some [(0, 1), (1, 1), (2, 1), (3, 1)] := by kernel_rfl
theorem ty_isBoolT_122 : isBoolT Tryd.prog 122 = Bool.false := by kernel_rfl
theorem ty_isPtrT_122 : isPtrT Tryd.prog 122 = Bool.false := by kernel_rfl
theorem ty_concreteT_122 : concreteT Tryd.prog 122 = Bool.true := by kernel_rfl
theorem ty_isU8_122 : isU8 Tryd.prog 122 = Bool.false := by kernel_rfl
theorem ty_tvZero_122 : tvZero Tryd.prog 122 = Option.some (Go.Abs.TV.agg [Go.Abs.CV.nilp, Go.Abs.CV.nilp, Go.Abs.CV.nilp, Go.Abs.CV.pv (Go.Abs.PV.str [])]) := by kernel_rfl
theorem ty_fieldOff_122_0 : fieldOff Tryd.prog 122 0 = Option.some (0, 17) := by kernel_rfl
theorem ty_fieldOff_122_1 : fieldOff Tryd.prog 122 1 = Option.some (1, 17) := by kernel_rfl
theorem ty_fieldOff_122_2 : fieldOff Tryd.prog 122 2 = Option.some (2, 17) := by kernel_rfl
theorem ty_fieldOff_122_3 : fieldOff Tryd.prog 122 3 = Option.some (3, 9) := by kernel_rfl
theorem ty_shapeT_123 : shapeT Tryd.prog 123 = Option.some (Option.some 4) := by kernel_rfl
theorem ty_szOf_123 : szOf Tryd.prog 123 = Option.some 4 := by kernel_rfl
theorem ty_zeroCells_123 : zeroCells Tryd.prog 123 = Option.some [Go.Abs.CV.nilp, Go.Abs.CV.nilp, Go.Abs.CV.nilp, Go.Abs.CV.pv (Go.Abs.PV.str [])] := by kernel_rfl
theorem ty_placesOf_123 : placesOf Tryd.prog 123 = Option.some [(0, 1), (1, 1), (2, 1), (3, 1)] := by kernel_rfl
theorem ty_isBoolT_123 : isBoolT Tryd.prog 123 = Bool.false := by kernel_rfl
theorem ty_isPtrT_123 : isPtrT Tryd.prog 123 = Bool.false := by kernel_rfl
theorem ty_concreteT_123 : concreteT Tryd.prog 123 = Bool.true := by kernel_rfl
theorem ty_isU8_123 : isU8 Tryd.prog 123 = Bool.false := by kernel_rfl
theorem ty_tvZero_123 : tvZero Tryd.prog 123 = Option.some (Go.Abs.TV.agg [Go.Abs.CV.nilp, Go.Abs.CV.nilp, Go.Abs.CV.nilp, Go.Abs.CV.pv (Go.Abs.PV.str [])]) := by kernel_rfl
theorem ty_fieldOff_123_0 : fieldOff Tryd.prog 123 0 = Option.some (0, 17) := by kernel_rfl
theorem ty_fieldOff_123_1 : fieldOff Tryd.prog 123 1 = Option.some (1, 17) := by kernel_rfl
theorem ty_fieldOff_123_2 : fieldOff Tryd.prog 123 2 = Option.some (2, 17) := by kernel_rfl
theorem ty_fieldOff_123_3 : fieldOff Tryd.prog 123 3 = Option.some (3, 9) := by kernel_rfl
theorem ty_shapeT_124 : shapeT Tryd.prog 124 = Option.some (Option.some 0) := by kernel_rfl
theorem ty_szOf_124 : szOf Tryd.prog 124 = Option.some 0 := by kernel_rfl
theorem ty_zeroCells_124 : zeroCells Tryd.prog 124 = Option.some [] := by kernel_rfl
theorem ty_isBoolT_124 : isBoolT Tryd.prog 124 = Bool.false := by kernel_rfl
theorem ty_isPtrT_124 : isPtrT Tryd.prog 124 = Bool.false := by kernel_rfl
theorem ty_concreteT_124 : concreteT Tryd.prog 124 = Bool.true := by kernel_rfl
theorem ty_isU8_124 : isU8 Tryd.prog 124 = Bool.false := by kernel_rfl
theorem ty_tvZero_124 : tvZero Tryd.prog 124 = Option.some (Go.Abs.TV.agg []) := by kernel_rfl
theorem ty_shapeT_125 : shapeT Tryd.prog 125 = Option.some (Option.some 0) := by kernel_rfl
theorem ty_szOf_125 : szOf Tryd.prog 125 = Option.some 0 := by kernel_rfl
theorem ty_zeroCells_125 : zeroCells Tryd.prog 125 = Option.some [] := by kernel_rfl
theorem ty_placesOf_125 : placesOf Tryd.prog 125 = Option.some [(0, 0)] := by kernel_rfl
theorem ty_isBoolT_125 : isBoolT Tryd.prog 125 = Bool.false := by kernel_rfl
theorem ty_isPtrT_125 : isPtrT Tryd.prog 125 = Bool.false := by kernel_rfl
theorem ty_concreteT_125 : concreteT Tryd.prog 125 = Bool.true := by kernel_rfl
theorem ty_isU8_125 : isU8 Tryd.prog 125 = Bool.false := by kernel_rfl
theorem ty_tvZero_125 : tvZero Tryd.prog 125 = Option.some (Go.Abs.TV.agg []) := by kernel_rfl
theorem ty_fieldOff_125_0 : fieldOff Tryd.prog 125 0 = Option.some (0, 124) := by kernel_rfl
theorem ty_shapeT_126 : shapeT Tryd.prog 126 = Option.some (Option.some 0) := by kernel_rfl
theorem ty_szOf_126 : szOf Tryd.prog 126 = Option.some 0 := by kernel_rfl
theorem ty_zeroCells_126 : zeroCells Tryd.prog 126 = Option.some [] := by kernel_rfl
theorem ty_placesOf_126 : placesOf Tryd.prog 126 = Option.some [(0, 0)] := by kernel_rfl
theorem ty_isBoolT_126 : isBoolT Tryd.prog 126 = Bool.false := by kernel_rfl
theorem ty_isPtrT_126 : isPtrT Tryd.prog 126 = Bool.false := by kernel_rfl
theorem ty_concreteT_126 : concreteT Tryd.prog 126 = Bool.true := by kernel_rfl
theorem ty_isU8_126 : isU8 Tryd.prog 126 = Bool.false := by kernel_rfl
theorem ty_tvZero_126 : tvZero Tryd.prog 126 = Option.some (Go.Abs.TV.agg []) := by kernel_rfl
theorem ty_fieldOff_126_0 : fieldOff Tryd.prog 126 0 = Option.some (0, 124) := by kernel_rfl
theorem ty_shapeT_127 : shapeT Tryd.prog 127 = Option.some Option.none := by kernel_rfl
theorem ty_szOf_127 : szOf Tryd.prog 127 = Option.some 1 := by kernel_rfl
theorem ty_zeroCells_127 : zeroCells Tryd.prog 127 = Option.some [Go.Abs.CV.pv (Go.Abs.PV.int Go.IntKind.u8 0)] := by kernel_rfl
theorem ty_descOf_127 : descOf Tryd.prog 127 = Option.some (Go.Abs.Desc.int Go.IntKind.u8) := by kernel_rfl
theorem ty_isBoolT_127 : isBoolT Tryd.prog 127 = Bool.false := by kernel_rfl
theorem ty_isPtrT_127 : isPtrT Tryd.prog 127 = Bool.false := by kernel_rfl
theorem ty_concreteT_127 : concreteT Tryd.prog 127 = Bool.true := by kernel_rfl
theorem ty_isU8_127 : isU8 Tryd.prog 127 = Bool.true := by kernel_rfl
theorem ty_tvZero_127 : tvZero Tryd.prog 127 = Option.some (Go.Abs.TV.c (Go.Abs.CV.pv (Go.Abs.PV.int Go.IntKind.u8 0))) := by kernel_rfl
theorem ty_shapeT_128 : shapeT Tryd.prog 128 = Option.some Option.none := by kernel_rfl
theorem ty_szOf_128 : szOf Tryd.prog 128 = Option.some 1 := by kernel_rfl
theorem ty_zeroCells_128 : zeroCells Tryd.prog 128 = Option.some [Go.Abs.CV.pv (Go.Abs.PV.int Go.IntKind.u8 0)] := by kernel_rfl
theorem ty_descOf_128 : descOf Tryd.prog 128 = Option.some (Go.Abs.Desc.int Go.IntKind.u8) := by kernel_rfl
theorem ty_isBoolT_128 : isBoolT Tryd.prog 128 = Bool.false := by kernel_rfl
theorem ty_isPtrT_128 : isPtrT Tryd.prog 128 = Bool.false := by kernel_rfl
theorem ty_concreteT_128 : concreteT Tryd.prog 128 = Bool.true := by kernel_rfl
theorem ty_isU8_128 : isU8 Tryd.prog 128 = Bool.true := by kernel_rfl
theorem ty_tvZero_128 : tvZero Tryd.prog 128 = Option.some (Go.Abs.TV.c (Go.Abs.CV.pv (Go.Abs.PV.int Go.IntKind.u8 0))) := by kernel_rfl
theorem ty_shapeT_129 : shapeT Tryd.prog 129 = Option.some Option.none := by kernel_rfl
theorem ty_szOf_129 : szOf Tryd.prog 129 = Option.some 1 := by kernel_rfl
theorem ty_zeroCells_129 : zeroCells Tryd.prog 129 = Option.some [Go.Abs.CV.top] := by kernel_rfl
theorem ty_isBoolT_129 : isBoolT Tryd.prog 129 = Bool.false := by kernel_rfl
theorem ty_isPtrT_129 : isPtrT Tryd.prog 129 = Bool.false := by kernel_rfl
theorem ty_concreteT_129 : concreteT Tryd.prog 129 = Bool.true := by kernel_rfl
theorem ty_isU8_129 : isU8 Tryd.prog 129 = Bool.false := by kernel_rfl
theorem ty_shapeT_130 : shapeT Tryd.prog 130 = Option.some Option.none := by kernel_rfl
theorem ty_szOf_130 : szOf Tryd.prog 130 = Option.some 1 := by kernel_rfl
theorem ty_zeroCells_130 : zeroCells Tryd.prog 130 = Option.some [Go.Abs.CV.nilp] := by kernel_rfl
theorem ty_isBoolT_130 : isBoolT Tryd.prog 130 = Bool.false := by kernel_rfl
theorem ty_isPtrT_130 : isPtrT Tryd.prog 130 = Bool.true := by kernel_rfl
theorem ty_concreteT_130 : concreteT Tryd.prog 130 = Bool.true := by kernel_rfl
theorem ty_isU8_130 : isU8 Tryd.prog 130 = Bool.false := by kernel_rfl
theorem ty_tvZero_130 : tvZero Tryd.prog 130 = Option.some (Go.Abs.TV.c Go.Abs.CV.nilp) := by kernel_rfl
theorem ty_shapeT_131 : shapeT Tryd.prog 131 = Option.some Option.none := by kernel_rfl
theorem ty_szOf_131 : szOf Tryd.prog 131 = Option.some 1 := by kernel_rfl
theorem ty_zeroCells_131 : zeroCells Tryd.prog 131 = Option.some [Go.Abs.CV.pv (Go.Abs.PV.int Go.IntKind.i32 0)] := by kernel_rfl
theorem ty_descOf_131 : descOf Tryd.prog 131 = Option.some (Go.Abs.Desc.int Go.IntKind.i32) := by kernel_rfl
theorem ty_isBoolT_131 : isBoolT Tryd.prog 131 = Bool.false := by kernel_rfl
theorem ty_isPtrT_131 : isPtrT Tryd.prog 131 = Bool.false := by kernel_rfl
theorem ty_concreteT_131 : concreteT Tryd.prog 131 = Bool.true := by kernel_rfl
theorem ty_isU8_131 : isU8 Tryd.prog 131 = Bool.false := by kernel_rfl
theorem ty_tvZero_131 : tvZero Tryd.prog 131 = Option.some (Go.Abs.TV.c (Go.Abs.CV.pv (Go.Abs.PV.int Go.IntKind.i32 0))) := by kernel_rfl
theorem ty_shapeT_132 : shapeT Tryd.prog 132 = Option.some Option.none := by kernel_rfl
theorem ty_szOf_132 : szOf Tryd.prog 132 = Option.some 1 := by kernel_rfl
theorem ty_zeroCells_132 : zeroCells Tryd.prog 132 = Option.some [Go.Abs.CV.pv (Go.Abs.PV.int Go.IntKind.i32 0)] := by kernel_rfl
theorem ty_descOf_132 : descOf Tryd.prog 132 = Option.some (Go.Abs.Desc.int Go.IntKind.i32) := by kernel_rfl
theorem ty_isBoolT_132 : isBoolT Tryd.prog 132 = Bool.false := by kernel_rfl
theorem ty_isPtrT_132 : isPtrT Tryd.prog 132 = Bool.false := by kernel_rfl
theorem ty_concreteT_132 : concreteT Tryd.prog 132 = Bool.true := by kernel_rfl
theorem ty_isU8_132 : isU8 Tryd.prog 132 = Bool.false := by kernel_rfl
theorem ty_tvZero_132 : tvZero Tryd.prog 132 = Option.some (Go.Abs.TV.c (Go.Abs.CV.pv (Go.Abs.PV.int Go.IntKind.i32 0))) := by kernel_rfl
theorem ty_shapeT_133 : shapeT Tryd.prog 133 = Option.some (Option.some 11) := by kernel_rfl
theorem ty_szOf_133 : szOf Tryd.prog 133 = Option.some 11 := by kernel_rfl
theorem ty_zeroCells_133 : zeroCells Tryd.prog 133 = Option.some [Go.Abs.CV.pv (Go.Abs.PV.int Go.IntKind.u64 0), Go.Abs.CV.pv (Go.Abs.PV.int Go.IntKind.u64 0), Go.Abs.CV.pv (Go.Abs.PV.int Go.IntKind.u32 0), Go.Abs.CV.pv (Go.Abs.PV.int Go.IntKind.u8 0), Go.Abs.CV.pv (Go.Abs.PV.int Go.IntKind.u8 0), Go.Abs.CV.pv (Go.Abs.PV.int Go.IntKind.u8 0), Go.Abs.CV.pv (Go.Abs.PV.int Go.IntKind.u8 0), Go.Abs.CV.top, Go.Abs.CV.nilp, Go.Abs.CV.pv (Go.Abs.PV.int Go.IntKind.i32 0), Go.Abs.CV.pv (Go.Abs.PV.int Go.IntKind.i32 0)] := by kernel_rfl
theorem ty_placesOf_133 : placesOf Tryd.prog 133 = Option.some [(0, 1), (1, 1), (2, 1), (3, 1), (4, 1), (5, 1), (6, 1), (7, 1), (8, 1), (9, 1), (10, 1)] := by kernel_rfl
theorem ty_isBoolT_133 : isBoolT Tryd.prog 133 = Bool.false := by kernel_rfl
theorem ty_isPtrT_133 : isPtrT Tryd.prog 133 = Bool.false := by kernel_rfl
theorem ty_concreteT_133 : concreteT Tryd.prog 133 = Bool.true := by kernel_rfl
theorem ty_isU8_133 : isU8 Tryd.prog 133 = Bool.false := by kernel_rfl
theorem ty_tvZero_133 : tvZero Tryd.prog 133 = Option.some (Go.Abs.TV.agg [Go.Abs.CV.pv (Go.Abs.PV.int Go.IntKind.u64 0), Go.Abs.CV.pv (Go.Abs.PV.int Go.IntKind.u64 0), Go.Abs.CV.pv (Go.Abs.PV.int Go.IntKind.u32 0), Go.Abs.CV.pv (Go.Abs.PV.int Go.IntKind.u8 0), Go.Abs.CV.pv (Go.Abs.PV.int Go.IntKind.u8 0), Go.Abs.CV.pv (Go.Abs.PV.int Go.IntKind.u8 0), Go.Abs.CV.pv (Go.Abs.PV.int Go.IntKind.u8 0), Go.Abs.CV.top, Go.Abs.CV.nilp, Go.Abs.CV.pv (Go.Abs.PV.int Go.IntKind.i32 0), Go.Abs.CV.pv (Go.Abs.PV.int Go.IntKind.i32 0)]) := by kernel_rfl
theorem ty_fieldOff_133_0 : fieldOff Tryd.prog 133 0 = Option.some (0, 12) := by kernel_rfl
theorem ty_fieldOff_133_1 : fieldOff Tryd.prog 133 1 = Option.some (1, 12) := by kernel_rfl
theorem ty_fieldOff_133_2 : fieldOff Tryd.prog 133 2 = Option.some (2, 104) := by kernel_rfl
theorem ty_fieldOff_133_3 : fieldOff Tryd.prog 133 3 = Option.some (3, 127) := by kernel_rfl
theorem ty_fieldOff_133_4 : fieldOff Tryd.prog 133 4 = Option.some (4, 5) := by kernel_rfl
theorem ty_fieldOff_133_5 : fieldOff Tryd.prog 133 5 = Option.some (5, 5) := by kernel_rfl
theorem ty_fieldOff_133_6 : fieldOff Tryd.prog 133 6 = Option.some (6, 128) := by kernel_rfl
theorem ty_fieldOff_133_7 : fieldOff Tryd.prog 133 7 = Option.some (7, 129) := by kernel_rfl
theorem ty_fieldOff_133_8 : fieldOff Tryd.prog 133 8 = Option.some (8, 130) := by kernel_rfl
theorem ty_fieldOff_133_9 : fieldOff Tryd.prog 133 9 = Option.some (9, 131) := by kernel_rfl
theorem ty_fieldOff_133_10 : fieldOff Tryd.prog 133 10 = Option.some (10, 132) := by kernel_rfl
theorem ty_shapeT_134 : shapeT Tryd.prog 134 = Option.some (Option.some 11) := by kernel_rfl
theorem ty_szOf_134 : szOf Tryd.prog 134 = Option.some 11 := by kernel_rfl
theorem ty_zeroCells_134 : zeroCells Tryd.prog 134 = Option.some [Go.Abs.CV.pv (Go.Abs.PV.int Go.IntKind.u64 0), Go.Abs.CV.pv (Go.Abs.PV.int Go.IntKind.u64 0), Go.Abs.CV.pv (Go.Abs.PV.int Go.IntKind.u32 0), Go.Abs.CV.pv (Go.Abs.PV.int Go.IntKind.u8 0), Go.Abs.CV.pv (Go.Abs.PV.int Go.IntKind.u8 0), Go.Abs.CV.pv (Go.Abs.PV.int Go.IntKind.u8 0), Go.Abs.CV.pv (Go.Abs.PV.int Go.IntKind.u8 0), Go.Abs.CV.top, Go.Abs.CV.nilp, Go.Abs.CV.pv (Go.Abs.PV.int Go.IntKind.i32 0), Go.Abs.CV.pv (Go.Abs.PV.int Go.IntKind.i32 0)] := by kernel_rfl
theorem ty_placesOf_134 : placesOf Tryd.prog 134 = Option.some [(0, 1), (1, 1), (2, 1), (3, 1), (4, 1), (5, 1), (6, 1), (7, 1), (8, 1), (9, 1), (10, 1)] := by kernel_rfl
theorem ty_isBoolT_134 : isBoolT Tryd.prog 134 = Bool.false := by kernel_rfl
theorem ty_isPtrT_134 : isPtrT Tryd.prog 134 = Bool.false := by kernel_rfl
theorem ty_concreteT_134 : concreteT Tryd.prog 134 = Bool.true := by kernel_rfl
theorem ty_isU8_134 : isU8 Tryd.prog 134 = Bool.false := by kernel_rfl
theorem ty_tvZero_134 : tvZero Tryd.prog 134 = Option.some (Go.Abs.TV.agg [Go.Abs.CV.pv (Go.Abs.PV.int Go.IntKind.u64 0), Go.Abs.CV.pv (Go.Abs.PV.int Go.IntKind.u64 0), Go.Abs.CV.pv (Go.Abs.PV.int Go.IntKind.u32 0), Go.Abs.CV.pv (Go.Abs.PV.int Go.IntKind.u8 0), Go.Abs.CV.pv (Go.Abs.PV.int Go.IntKind.u8 0), Go.Abs.CV.pv (Go.Abs.PV.int Go.IntKind.u8 0), Go.Abs.CV.pv (Go.Abs.PV.int Go.IntKind.u8 0), Go.Abs.CV.top, Go.Abs.CV.nilp, Go.Abs.CV.pv (Go.Abs.PV.int Go.IntKind.i32 0), Go.Abs.CV.pv (Go.Abs.PV.int Go.IntKind.i32 0)]) := by kernel_rfl
theorem ty_fieldOff_134_0 : fieldOff Tryd.prog 134 0 = Option.some (0, 12) := by kernel_rfl
theorem ty_fieldOff_134_1 : fieldOff Tryd.prog 134 1 = Option.some (1, 12) := by kernel_rfl
theorem ty_fieldOff_134_2 : fieldOff Tryd.prog 134 2 = Option.some (2, 104) := by kernel_rfl
theorem ty_fieldOff_134_3 : fieldOff Tryd.prog 134 3 = Option.some (3, 127) := by kernel_rfl
theorem ty_fieldOff_134_4 : fieldOff Tryd.prog 134 4 = Option.some (4, 5) := by kernel_rfl
theorem ty_fieldOff_134_5 : fieldOff Tryd.prog 134 5 = Option.some (5, 5) := by kernel_rfl
theorem ty_fieldOff_134_6 : fieldOff Tryd.prog 134 6 = Option.some (6, 128) := by kernel_rfl
theorem ty_fieldOff_134_7 : fieldOff Tryd.prog 134 7 = Option.some (7, 129) := by kernel_rfl
theorem ty_fieldOff_134_8 : fieldOff Tryd.prog 134 8 = Option.some (8, 130) := by kernel_rfl
theorem ty_fieldOff_134_9 : fieldOff Tryd.prog 134 9 = Option.some (9, 131) := by kernel_rfl
theorem ty_fieldOff_134_10 : fieldOff Tryd.prog 134 10 = Option.some (10, 132) := by kernel_rfl
theorem ty_shapeT_135 : shapeT Tryd.prog 135 = Option.some Option.none := by kernel_rfl
theorem ty_szOf_135 : szOf Tryd.prog 135 = Option.some 1 := by kernel_rfl
theorem ty_zeroCells_135 : zeroCells Tryd.prog 135 = Option.some [Go.Abs.CV.nilp] := by kernel_rfl
theorem ty_isBoolT_135 : isBoolT Tryd.prog 135 = Bool.false := by kernel_rfl
theorem ty_isPtrT_135 : isPtrT Tryd.prog 135 = Bool.false := by kernel_rfl
theorem ty_concreteT_135 : concreteT Tryd.prog 135 = Bool.true := by kernel_rfl
theorem ty_isU8_135 : isU8 Tryd.prog 135 = Bool.false := by kernel_rfl
theorem ty_tvZero_135 : tvZero Tryd.prog 135 = Option.some (Go.Abs.TV.c Go.Abs.CV.nilp) := by kernel_rfl
theorem good_3 : K.good 3 = true := by kernel_rfl
theorem good_4 : K.good 4 = true := by kernel_rfl
theorem good_5 : K.good 5 = true := by kernel_rfl
theorem good_6 : K.good 6 = true := by kernel_rfl
theorem good_7 : K.good 7 = true := by kernel_rfl
theorem good_8 : K.good 8 = true := by kernel_rfl
theorem good_9 : K.good 9 = true := by kernel_rfl
theorem good_10 : K.good 10 = true := by kernel_rfl
theorem good_11 : K.good 11 = true := by kernel_rfl
theorem good_12 : K.good 12 = true := by kernel_rfl
theorem good_13 : K.good 13 = true := by kernel_rfl
theorem good_14 : K.good 14 = true := by kernel_rfl
theorem good_15 : K.good 15 = true := by kernel_rfl
theorem good_16 : K.good 16 = true := by kernel_rfl
theorem good_17 : K.good 17 = true := by kernel_rfl
theorem good_18 : K.good 18 = true := by kernel_rfl
theorem good_19 : K.good 19 = true := by kernel_rfl
theorem good_20 : K.good 20 = true := by kernel_rfl
theorem good_21 : K.good 21 = true := by kernel_rfl
theorem good_22 : K.good 22 = true := by kernel_rfl
theorem good_23 : K.good 23 = true := by kernel_rfl
theorem good_24 : K.good 24 = true := by kernel_rfl
theorem good_25 : K.good 25 = true := by kernel_rfl
theorem good_26 : K.good 26 = true := by kernel_rfl
theorem good_27 : K.good 27 = true := by kernel_rfl
theorem good_28 : K.good 28 = true := by kernel_rfl
theorem good_29 : K.good 29 = true := by kernel_rfl
theorem good_30 : K.good 30 = true := by kernel_rfl
theorem good_31 : K.good 31 = true := by kernel_rfl
theorem good_32 : K.good 32 = true := by kernel_rfl
theorem good_33 : K.good 33 = true := by kernel_rfl
theorem good_34 : K.good 34 = true := by kernel_rfl
theorem good_35 : K.good 35 = true := by kernel_rfl
theorem good_36 : K.good 36 = true := by kernel_rfl
theorem good_37 : K.good 37 = true := by kernel_rfl
theorem good_38 : K.good 38 = true := by kernel_rfl
theorem good_39 : K.good 39 = true := by kernel_rfl
theorem good_40 : K.good 40 = true := by kernel_rfl
theorem good_41 : K.good 41 = true := by kernel_rfl
theorem good_42 : K.good 42 = true := by kernel_rfl
theorem good_43 : K.good 43 = true := by kernel_rfl
theorem good_44 : K.good 44 = true := by kernel_rfl
theorem good_45 : K.good 45 = true := by kernel_rfl
theorem good_46 : K.good 46 = true := by kernel_rfl
theorem good_47 : K.good 47 = true := by kernel_rfl
theorem good_48 : K.good 48 = true := by kernel_rfl
theorem good_49 : K.good 49 = true := by kernel_rfl
theorem good_50 : K.good 50 = true := by kernel_rfl
theorem good_51 : K.good 51 = true := by kernel_rfl
theorem good_52 : K.good 52 = true := by kernel_rfl
theorem good_53 : K.good 53 = true := by kernel_rfl
theorem good_54 : K.good 54 = true := by kernel_rfl
theorem good_55 : K.good 55 = true := by kernel_rfl
theorem good_56 : K.good 56 = true := by kernel_rfl
theorem good_57 : K.good 57 = true := by kernel_rfl
theorem good_58 : K.good 58 = true := by kernel_rfl
theorem good_59 : K.good 59 = true := by kernel_rfl
theorem good_60 : K.good 60 = true := by kernel_rfl
theorem good_61 : K.good 61 = true := by kernel_rfl
theorem good_62 : K.good 62 = true := by kernel_rfl
theorem good_63 : K.good 63 = true := by kernel_rfl
theorem good_64 : K.good 64 = true := by kernel_rfl
theorem good_65 : K.good 65 = true := by kernel_rfl
theorem good_66 : K.good 66 = true := by kernel_rfl
theorem good_67 : K.good 67 = true := by kernel_rfl
theorem good_68 : K.good 68 = true := by kernel_rfl
theorem good_69 : K.good 69 = true := by kernel_rfl
theorem good_70 : K.good 70 = true := by kernel_rfl
theorem good_71 : K.good 71 = true := by kernel_rfl
theorem good_72 : K.good 72 = true := by kernel_rfl
theorem good_73 : K.good 73 = true := by kernel_rfl
theorem good_74 : K.good 74 = true := by kernel_rfl
theorem good_75 : K.good 75 = true := by kernel_rfl
theorem good_76 : K.good 76 = true := by kernel_rfl
theorem good_77 : K.good 77 = true := by kernel_rfl
theorem good_78 : K.good 78 = true := by kernel_rfl
theorem good_79 : K.good 79 = true := by kernel_rfl
theorem good_80 : K.good 80 = true := by kernel_rfl
theorem good_81 : K.good 81 = true := by kernel_rfl
theorem good_82 : K.good 82 = true := by kernel_rfl
theorem good_83 : K.good 83 = true := by kernel_rfl
theorem good_84 : K.good 84 = true := by kernel_rfl
theorem good_85 : K.good 85 = true := by kernel_rfl
theorem good_87 : K.good 87 = true := by kernel_rfl
theorem good_88 : K.good 88 = true := by kernel_rfl
theorem good_89 : K.good 89 = true := by kernel_rfl
theorem good_90 : K.good 90 = true := by kernel_rfl
theorem good_91 : K.good 91 = true := by kernel_rfl
theorem good_92 : K.good 92 = true := by kernel_rfl
theorem good_94 : K.good 94 = true := by kernel_rfl
theorem good_95 : K.good 95 = true := by kernel_rfl
theorem good_96 : K.good 96 = true := by kernel_rfl
theorem good_97 : K.good 97 = true := by kernel_rfl
theorem good_98 : K.good 98 = true := by kernel_rfl
theorem good_99 : K.good 99 = true := by kernel_rfl
theorem good_100 : K.good 100 = true := by kernel_rfl
theorem good_101 : K.good 101 = true := by kernel_rfl
theorem good_102 : K.good 102 = true := by kernel_rfl
theorem good_103 : K.good 103 = true := by kernel_rfl
theorem keep_8_2 : keepF 8 2 = ([0, 1, 5], []) := by kernel_rfl
theorem keep_14_4 : keepF 14 4 = ([0, 1, 5], []) := by kernel_rfl
theorem keep_57_2 : keepF 57 2 = ([3], [6]) := by kernel_rfl
theorem keep_25_3 : keepF 25 3 = ([0, 3, 4], []) := by kernel_rfl
theorem keep_26_3 : keepF 26 3 = ([0, 3, 4], []) := by kernel_rfl
theorem keep_21_2 : keepF 21 2 = ([0, 3], []) := by kernel_rfl
theorem keep_40_5 : keepF 40 5 = ([0, 4, 6], [4]) := by kernel_rfl
theorem keep_47_5 : keepF 47 5 = ([5, 15, 16, 17], []) := by kernel_rfl
theorem keep_69_2 : keepF 69 2 = ([0, 1, 2, 7], [100000]) := by kernel_rfl
theorem keep_73_6 : keepF 73 6 = ([0, 2, 3, 4, 29], [100000]) := by kernel_rfl
theorem keep_49_2 : keepF 49 2 = ([0, 5], []) := by kernel_rfl
theorem keep_51_2 : keepF 51 2 = ([0, 1, 5], []) := by kernel_rfl
theorem keep_52_1 : keepF 52 1 = ([0, 1], []) := by kernel_rfl
theorem keep_54_4 : keepF 54 4 = ([0, 1, 4, 6, 7], [4]) := by kernel_rfl
theorem keep_29_2 : keepF 29 2 = ([0, 2, 3, 8, 9], [8, 9]) := by kernel_rfl
theorem keep_85_15 : keepF 85 15 = ([0, 1, 5, 6, 7, 8, 9, 10], []) := by kernel_rfl
theorem keep_87_12 : keepF 87 12 = ([0, 6, 8], [6]) := by kernel_rfl
theorem keep_87_18 : keepF 87 18 = ([1, 45], []) := by kernel_rfl
theorem keep_83_1 : keepF 83 1 = ([0, 1, 4], []) := by kernel_rfl
theorem keep_84_11 : keepF 84 11 = ([0, 1, 3, 4, 10, 11, 12, 13, 14, 15, 16], [12]) := by kernel_rfl
theorem keep_84_18 : keepF 84 18 = ([0, 1, 3, 4, 10, 11, 12, 13, 17], [12]) := by kernel_rfl
theorem keep_95_5 : keepF 95 5 = ([0, 1, 5, 6, 7, 8, 9], []) := by kernel_rfl
theorem keep_95_11 : keepF 95 11 = ([0, 1, 5, 6, 7, 8, 10], []) := by kernel_rfl
theorem keep_96_5 : keepF 96 5 = ([0, 7, 8, 9], []) := by kernel_rfl
theorem keep_96_12 : keepF 96 12 = ([0, 7, 8, 9, 12], []) := by kernel_rfl
theorem keep_96_25 : keepF 96 25 = ([0, 7, 8, 9, 14, 15], []) := by kernel_rfl
theorem keep_96_29 : keepF 96 29 = ([0, 7, 8, 9, 14, 15, 16], []) := by kernel_rfl
theorem keep_96_38 : keepF 96 38 = ([175], []) := by kernel_rfl
theorem keep_98_2 : keepF 98 2 = ([0, 2, 4], [2]) := by kernel_rfl
theorem keep_102_3 : keepF 102 3 = ([0, 4, 5], []) := by kernel_rfl
theorem keep_102_8 : keepF 102 8 = ([4, 6, 7, 8], []) := by kernel_rfl
theorem keep_4_13 : keepF 4 13 = ([0, 5, 11], []) := by kernel_rfl
theorem keep_6_10 : keepF 6 10 = ([0, 1, 6, 7, 8, 9], []) := by kernel_rfl
theorem keep_13_4 : keepF 13 4 = ([0, 1, 5], []) := by kernel_rfl
theorem keep_15_3 : keepF 15 3 = ([3, 8, 9, 10], []) := by kernel_rfl
theorem keep_16_3 : keepF 16 3 = ([0, 3, 4], []) := by kernel_rfl
theorem keep_17_3 : keepF 17 3 = ([3, 6, 7, 8], []) := by kernel_rfl
theorem keep_18_3 : keepF 18 3 = ([0, 3, 4], []) := by kernel_rfl
theorem keep_24_4 : keepF 24 4 = ([0, 1, 2, 7], []) := by kernel_rfl
theorem keep_28_2 : keepF 28 2 = ([0, 1, 2, 7], [100000, 100001]) := by kernel_rfl
theorem keep_38_4 : keepF 38 4 = ([1, 2, 15, 16, 17], [100000]) := by kernel_rfl
theorem keep_46_2 : keepF 46 2 = ([0, 1, 7, 8], [100000]) := by kernel_rfl
end Go.Abs

namespace Go.Abs
open Go Go.Proofs

abbrev I (n : Int) : AV := .c (.pv (.int .i64 n))
abbrev T (l : List UInt8) : AV := .c (.pv (.str l))
abbrev B (b : Bool) : AV := .c (.pv (.bool b))
abbrev L (l : List (List PV)) : AV := .c (.pv (.sl l))
/-- the box that a caller lends first -/
abbrev P0 : AV := .c (.loc 100000 0)

theorem den_run {f : FuncId} {fn : Func} {x : Code} {nt : Nat} {args : List AV} {bxs : List (List CV)} {r : Res} (hp : prF f = none) (hf : Tryd.prog.funcs[f]? = some fn) (hx : fn.body = some x) (hn : fn.ntmps = nt)
    (hl : args.length ≤ nt ∧ nt < LK) (h : (exL K f x (enterSt nt args bxs)).bind (fun r => leave K f fn bxs.length (some r)) = some r) : den K f args bxs = some r := by
  rw [den_eq (K := K) hp hf hx, hn, if_pos hl]
  exact h

theorem K_own (f : FuncId) (h : (f == 30) = false) : K.ownRet f = false := h
theorem K_ownP : K.ownRet 30 = true := rfl
theorem K_hook (f i : Nat) : K.hook f i = hookB f i := rfl
theorem K_P : K.P = Tryd.prog := rfl
theorem K_keep (f r : Nat) : K.keep f r = keepF f r := rfl

/-- a run of one primitive -/
theorem prim_run {f : FuncId} {F : Prim} {args : List AV} {bxs cs : List (List CV)} {v : AV} (h : prF f = some F) (hF : F args bxs = some (v, cs)) : den K f args bxs = some (.ret v cs) := by
  rw [den_prim (K := K) h, hF]; rfl

set_option maxRecDepth 10000


/-! ### strings.Builder -/

def bytesC (s : List UInt8) : List (List PV) := s.map fun b => [.int .u8 b.toNat]

/-- how a builder stands: not written, not written and past a loop's head, written -/
inductive BS where
  | fresh
  | live
  | wr (s : List UInt8)

def BS.text : BS → List UInt8
  | .wr s => s
  | _ => []

theorem text_live : BS.live.text = [] := rfl
theorem text_fresh : BS.fresh.text = [] := rfl
theorem text_wr (s : List UInt8) : (BS.wr s).text = s := rfl

/-- its cells, in a frame that names its box 'k' -/
def BS.cells (k : Nat) : BS → List CV
  | .fresh => [.bld, .nils]
  | .live => [.bld, .own 0 []]
  | .wr s => [.loc k 0, .own 5 (bytesC s)]

def txtLim : Nat := 4294967296

theorem bytesC_append (s t : List UInt8) : bytesC s ++ bytesC t = bytesC (s ++ t) := by simp [bytesC]
theorem bytesC_length (s : List UInt8) : (bytesC s).length = s.length := by simp [bytesC]
theorem lens_bytes (s : List UInt8) : lens 1 (bytesC s) = true := by simp [lens, bytesC]
theorem lens_bytes' (s : List UInt8) : lens 1 (s.map fun b => [PV.int .u8 b.toNat]) = true := by simp [lens]
theorem lens_nil (n : Nat) : lens n [] = true := rfl
theorem bytesC_map (s : List UInt8) : (s.map fun b => [PV.int .u8 b.toNat]) = bytesC s := rfl


end Go.Abs

namespace Go.Abs
open Go Go.Proofs

/-! ### Loops -/

theorem exL_head (f : FuncId) (a : Code) (S : St) : exL K f (.loop a) S = exL K f (.loop a) (head (keepF f ((firstReg a).getD 0)) S) := by
  rw [exL_loop, exL_loop (S := head _ S), K_keep, head_head]

set_option maxRecDepth 10000

/-! ### words -/

inductive Wd where
  | s (t : List UInt8)
  | n (k : Int)

def Wd.enc : Wd → List PV
  | .s t => [.ifc 9 (.str t)]
  | .n k => [.ifc 3 (.int .i64 k)]
def Wd.ok : Wd → Prop
  | .s _ => True
  | .n k => -9223372036854775808 ≤ k ∧ k ≤ 9223372036854775807
def Wd.text : Wd → List UInt8
  | .s t => t
  | .n k => Lib.itoa k
def wordsS (l : List Wd) : List UInt8 := l.flatMap Wd.text

theorem itoa_den (n : Int) (h : -9223372036854775808 ≤ n ∧ n ≤ 9223372036854775807) : den K 58 [I n] [] = some (.ret (T (Lib.itoa n)) []) :=
  prim_run (F := pItoa) rfl (by simp [pItoa, h])

/-- a builder past a loop's head -/
def BS.live' : BS → BS
  | .fresh => .live
  | b => b
theorem BS.live_text (b : BS) : b.live'.text = b.text := by cases b <;> rfl
def BS.add (b : BS) (t : List UInt8) : BS := .wr (b.text ++ t)
def wordsB (b : BS) : List Wd → BS
  | [] => b.live'
  | l => .wr (b.text ++ wordsS l)

theorem wrap_nat (n : Nat) (h : n < 9223372036854775807) : IntKind.i64.wrap ((n : Int) + 1) = ((n + 1 : Nat) : Int) := by
  rw [IntWalk.i64_in _ (by omega)]; rfl

theorem cells_live (b : BS) (k : Nat) (l : List Nat) (h : l.contains k = true) : (b.cells k).map (CV.live l) = b.live'.cells k := by
  cases b with
  | wr s => simp only [BS.cells, List.map_cons, List.map_nil, CV.live, BS.live', h, if_true]
  | _ => rfl

theorem cells_lend (b : BS) (k : Nat) (l : List Nat) : (b.cells k).map (CV.ren (lend (k :: l))) = b.cells 100000 := by
  cases b with
  | wr s => simp [BS.cells, CV.ren, lend, idx, LK]
  | _ => rfl
theorem cells_back (b : BS) (k : Nat) (l : List Nat) : (b.cells 100000).map (CV.ren (back (k :: l))) = b.cells k := by
  cases b with
  | wr s => simp [BS.cells, CV.ren, back, LK]
  | _ => rfl
theorem cells_lent (b : BS) : (b.cells 100000).map (CV.ren lentOnly) = b.cells 100000 := by
  cases b <;> rfl

theorem drop_cons {α : Type} {l rest : List α} {x : α} {i : Nat} (h : l.drop i = x :: rest) : l[i]? = some x ∧ l.drop (i + 1) = rest ∧ i < l.length := by
  have h1 : l[i]? = some x := by
    have : (l.drop i)[0]? = some x := by rw [h]; rfl
    simpa using this
  refine ⟨h1, ?_, (List.getElem?_eq_some_iff.1 h1).1⟩
  have : (l.drop i).tail = rest := by rw [h]; rfl
  rw [← this, List.tail_drop]

theorem lt_true {a b : Int} (h : a < b) : decide (a < b) = true := decide_eq_true h

/-- the head of a loop, as it stands -/
abbrev wordsH (b : BS) (l : List Wd) (i : Nat) : St :=
  { sl := upd (upd (upd (upd bot 10 (I i)) 9 (I l.length)) 8 (L (l.map Wd.enc))) 0 P0, bx := upd nobox 100000 (some (b.cells 100000)), nt := 33 }

theorem wordsB_cons (b : BS) (x : Wd) (rest : List Wd) : wordsB (.wr (b.text ++ x.text)) rest = wordsB b (x :: rest) := by
  cases rest with
  | nil => simp [wordsB, BS.live', wordsS]
  | cons y r => simp [wordsB, BS.text, wordsS]


end Go.Abs

namespace Go.Abs
open Go Go.Proofs
set_option maxRecDepth 10000
attribute [local go_sem] exL_seq exL_region exL_cond exL_block exL_scope exL_ret exL_skip exL_exit runRegion runOps stepOp guardA absOp takeOver opd avOf cvOf St.degAt St.put okPV okVal okAV absBin intBin strBin boolBin setBoxes if_true Bool.false_eq_true if_false Option.map_some Option.map_none Option.bind_some Option.bind_none thenO outOf upd List.toList_toArray isOwn steal appArgs inApps AV.deg CV.deg AV.gv AV.isIter absNext some_bne List.length_nil List.length_cons List.filterMap_cons List.filterMap_nil beq_iff_eq List.getElem?_cons_zero List.getElem?_cons_succ Option.getD_some K_hook hookB Bool.false_and Bool.and_false Bool.and_self K_P K_own absCall doCall getBoxes lend back idx dedup AV.ren CV.ren TV.ren AV.ptrs CV.ptrs zipBox AV.flat CV.flat absLoad absStore cellsOfAV setAt newBox markB bldTypes absFieldAddr absField absExtract absAssert noAssert absMkIface ifcOf CV.pv? content pushHead ownT fillCells reps pvs chunks enterSt leave resOf resVars resVar outBoxes lentOnly TV.deg TV.av LK CV.plain CV.noBld nilBin absUn bound List.map_cons List.map_nil List.all_cons List.all_nil List.any_cons List.any_nil List.contains_cons List.contains_nil List.elem_cons List.elem_nil List.cons_append List.nil_append List.append_nil List.flatMap_cons List.flatMap_nil List.zip_cons_cons List.zip_nil_left List.zip_nil_right List.take_succ_cons List.take_zero List.take_nil List.drop_succ_cons List.drop_zero List.drop_nil List.isEmpty_nil List.isEmpty_cons Bool.and_true Bool.true_and Bool.or_true Bool.true_or Bool.or_false Bool.false_or Bool.not_true Bool.not_false Nat.add_zero Nat.zero_add Option.isNone_none Option.isNone_some Option.getD_none true_and and_true not_true_eq_false not_false_eq_true decide_true decide_false Nat.le_refl and_self Bool.not_eq_true Nat.sub_self or_true true_or Option.some.injEq List.length_map List.nil_eq and_false false_and AV.live CV.live CV.liveIn K_keep firstReg Option.orElse_some Option.orElse_none head keepSlots keepBoxes Int.lt_irrefl List.length_append ite_self memOK logOps opKey lentBoxes Key.clash Key.sees Key.writes Nat.lt_irrefl gt_iff_lt nobox_at bot_at false_or or_false beq_self_eq_true Bool.true_beq Bool.false_beq


theorem itoa_len {n : Int} (h : I64 n) : (Lib.itoa n).length ≤ 21 := Lib.itoa_length_le n h.1 h.2

set_option maxHeartbeats 4000000 in
theorem One_den (t : Tok) (hn : I64 t.n) (hl : t.text.length < 1000000000000) : den K 48 [.agg t.cells] [] = some (.ret (T (oneS t)) []) := by
  obtain ⟨k, s, n⟩ := t
  refine den_run rfl Tryd.func48 rfl Tryd.ntmps48 ⟨by simp, by simp [LK]⟩ ?_
  have hr : Tryd.f48.results = #[.tmp 2] := rfl
  have hit := itoa_den n hn
  have hi := itoa_len hn
  simp only at hl hi
  have l1 : s.length + 1 < strLim := by simp [strLim]; omega
  have l1' : 1 + s.length < strLim := by simp [strLim]; omega
  have l2 : (Lib.itoa n).length + s.length < strLim := by simp [strLim]; omega
  have l3 : 1 + s.length + 1 < strLim := by simp [strLim]; omega
  have l4 : s.length + 2 < strLim := by simp [strLim]; omega
  have l5 : s.length + 2 + 1 < strLim := by simp [strLim]; omega
  have l6 : s.length + 2 + 1 + 2 < strLim := by simp [strLim]; omega
  have l7 : s.length + 1 + 1 < strLim := by simp [strLim]; omega
  have hk : k = 1 ∨ k = 2 ∨ k = 3 ∨ k = 4 ∨ k = 5 ∨ k = 6 ∨ k = 7 ∨ k = 8 ∨ (k ≠ 1 ∧ k ≠ 2 ∧ k ≠ 3 ∧ k ≠ 4 ∧ k ≠ 5 ∧ k ≠ 6 ∧ k ≠ 7 ∧ k ≠ 8) := by omega
  rcases hk with rfl | rfl | rfl | rfl | rfl | rfl | rfl | rfl | ⟨h1, h2, h3, h4, h5, h6, h7, h8⟩
  · simp [go_sem, Nat.reduceLT, reduceIte, reduceCtorEq, Nat.reduceEqDiff, apply_ite (Option.map (outOf _)), Nat.reduceBEq, Nat.reduceAdd, Nat.reduceSub, Nat.reduceLeDiff, Nat.reduceMul, ty_fieldOff_38_0, ty_szOf_3, ty_shapeT_3, ty_fieldOff_38_1, ty_szOf_9, ty_shapeT_9, ty_fieldOff_38_2, good_58, hr, Tok.cells, oneS]
  · simp [go_sem, Nat.reduceLT, reduceIte, reduceCtorEq, Nat.reduceEqDiff, apply_ite (Option.map (outOf _)), Nat.reduceBEq, Nat.reduceAdd, Nat.reduceSub, Nat.reduceLeDiff, Nat.reduceMul, ty_fieldOff_38_0, ty_szOf_3, ty_shapeT_3, ty_fieldOff_38_1, ty_szOf_9, ty_shapeT_9, ty_fieldOff_38_2, good_58, hr, Tok.cells, oneS, l1]
  · simp [go_sem, Nat.reduceLT, reduceIte, reduceCtorEq, Nat.reduceEqDiff, apply_ite (Option.map (outOf _)), Nat.reduceBEq, Nat.reduceAdd, Nat.reduceSub, Nat.reduceLeDiff, Nat.reduceMul, ty_fieldOff_38_0, ty_szOf_3, ty_shapeT_3, ty_fieldOff_38_1, ty_szOf_9, ty_shapeT_9, ty_fieldOff_38_2, good_58, hr, Tok.cells, oneS, l1']
  · simp [go_sem, Nat.reduceLT, reduceIte, reduceCtorEq, Nat.reduceEqDiff, apply_ite (Option.map (outOf _)), Nat.reduceBEq, Nat.reduceAdd, Nat.reduceSub, Nat.reduceLeDiff, Nat.reduceMul, ty_fieldOff_38_0, ty_szOf_3, ty_shapeT_3, ty_fieldOff_38_1, ty_szOf_9, ty_shapeT_9, ty_fieldOff_38_2, good_58, hr, Tok.cells, oneS, l1']
  · simp [go_sem, Nat.reduceLT, reduceIte, reduceCtorEq, Nat.reduceEqDiff, apply_ite (Option.map (outOf _)), Nat.reduceBEq, Nat.reduceAdd, Nat.reduceSub, Nat.reduceLeDiff, Nat.reduceMul, ty_fieldOff_38_0, ty_szOf_3, ty_shapeT_3, ty_fieldOff_38_1, ty_szOf_9, ty_shapeT_9, ty_fieldOff_38_2, good_58, hr, Tok.cells, oneS, hit, l2]
  · by_cases h : n = 39 <;> simp [go_sem, Nat.reduceLT, reduceIte, reduceCtorEq, Nat.reduceEqDiff, apply_ite (Option.map (outOf _)), Nat.reduceBEq, Nat.reduceAdd, Nat.reduceSub, Nat.reduceLeDiff, Nat.reduceMul, ty_fieldOff_38_0, ty_szOf_3, ty_shapeT_3, ty_fieldOff_38_1, ty_szOf_9, ty_shapeT_9, ty_fieldOff_38_2, good_58, hr, Tok.cells, oneS, h, l1, l1', l3, l7]
  · by_cases h : s = [34]
    · simp [go_sem, Nat.reduceLT, reduceIte, reduceCtorEq, Nat.reduceEqDiff, apply_ite (Option.map (outOf _)), Nat.reduceBEq, Nat.reduceAdd, Nat.reduceSub, Nat.reduceLeDiff, Nat.reduceMul, ty_fieldOff_38_0, ty_szOf_3, ty_shapeT_3, ty_fieldOff_38_1, ty_szOf_9, ty_shapeT_9, ty_fieldOff_38_2, good_58, hr, Tok.cells, oneS, h, l4, l5, l6, strLim]
    · have e : (s == [34]) = false := by simp [h]
      by_cases h' : s = [39]
      · simp [go_sem, Nat.reduceLT, reduceIte, reduceCtorEq, Nat.reduceEqDiff, apply_ite (Option.map (outOf _)), Nat.reduceBEq, Nat.reduceAdd, Nat.reduceSub, Nat.reduceLeDiff, Nat.reduceMul, ty_fieldOff_38_0, ty_szOf_3, ty_shapeT_3, ty_fieldOff_38_1, ty_szOf_9, ty_shapeT_9, ty_fieldOff_38_2, good_58, hr, Tok.cells, oneS, e, h, h', l4, l5, l6, strLim]
      · have e' : (s == [39]) = false := by simp [h']
        simp [go_sem, Nat.reduceLT, reduceIte, reduceCtorEq, Nat.reduceEqDiff, apply_ite (Option.map (outOf _)), Nat.reduceBEq, Nat.reduceAdd, Nat.reduceSub, Nat.reduceLeDiff, Nat.reduceMul, ty_fieldOff_38_0, ty_szOf_3, ty_shapeT_3, ty_fieldOff_38_1, ty_szOf_9, ty_shapeT_9, ty_fieldOff_38_2, good_58, hr, Tok.cells, oneS, e, e', h, h', l4, l5, l6, strLim]
  · simp [go_sem, Nat.reduceLT, reduceIte, reduceCtorEq, Nat.reduceEqDiff, apply_ite (Option.map (outOf _)), Nat.reduceBEq, Nat.reduceAdd, Nat.reduceSub, Nat.reduceLeDiff, Nat.reduceMul, ty_fieldOff_38_0, ty_szOf_3, ty_shapeT_3, ty_fieldOff_38_1, ty_szOf_9, ty_shapeT_9, ty_fieldOff_38_2, good_58, hr, Tok.cells, oneS]
  · simp [go_sem, Nat.reduceLT, reduceIte, reduceCtorEq, Nat.reduceEqDiff, apply_ite (Option.map (outOf _)), Nat.reduceBEq, Nat.reduceAdd, Nat.reduceSub, Nat.reduceLeDiff, Nat.reduceMul, ty_fieldOff_38_0, ty_szOf_3, ty_shapeT_3, ty_fieldOff_38_1, ty_szOf_9, ty_shapeT_9, ty_fieldOff_38_2, good_58, hr, Tok.cells, oneS, h1, h2, h3, h4, h5, h6, h7, h8]

def valueS (s : List UInt8) : List UInt8 := if 0 ≤ Lib.indexByte s 34 then 39 :: s ++ [39] else 34 :: s ++ [34]


def nthS (a b : Int) : List UInt8 := (if a = 0 then [] else Lib.itoa a ++ [110]) ++ (if a = 0 ∨ b < 0 then Lib.itoa b else if 0 < b then 43 :: Lib.itoa b else [])



end Go.Abs
