/-
  THE ABSTRACT INTERPRETER: what it is run with over this program.
-/
import Derived.Test.YtcnodcgdceoijaaDoorPrimLow
import Derived.Test.YtcnodcgdceoijaaDoorAnyOk
import Derived.KernelRfl
set_option linter.unusedSimpArgs false
set_option linter.unusedVariables false
namespace Go.Abs
open Go Go.Proofs

def keepL : List (Nat × Nat × List Nat × List Nat) := [
  (3, 4, [0, 1, 2, 7], []),
  (3, 9, [0, 1, 2, 7, 8], []),
  (3, 12, [0, 1, 2, 7, 8, 9], []),
  (7, 8, [1, 5, 7], []),
  (7, 13, [1, 8], []),
  (8, 5, [0, 1, 5, 6, 7], []),
  (10, 5, [0, 3, 4], []),
  (10, 13, [0, 3, 4, 5, 6], [5]),
  (12, 3, [0, 1, 5, 6], []),
  (12, 7, [0, 1, 5, 6, 7], []),
  (14, 3, [1, 3, 7, 8, 9], [1, 3]),
  (15, 3, [1, 3, 4], [1]),
  (18, 3, [3, 6, 7, 8], []),
  (19, 3, [0, 3, 4], []),
  (23, 4, [0, 1, 5], []),
  (23, 9, [0, 1, 5, 6], []),
  (24, 2, [0, 1, 5], []),
  (26, 4, [0, 1, 5], []),
  (27, 2, [3], [6]),
  (28, 3, [0, 3, 4], []),
  (29, 3, [0, 3, 6, 7, 8], [3]),
  (30, 3, [0, 3, 4], []),
  (35, 2, [0, 3], []),
  (36, 2, [0, 1, 2, 7], []),
  (37, 1, [0, 8, 9, 10], [100000]),
  (39, 1, [0, 6, 7, 8], [100000]),
  (41, 3, [0, 3, 4], []),
  (43, 2, [0, 3], []),
  (44, 12, [0, 1, 5, 39, 40, 41], []),
  (44, 22, [1, 8, 63, 64, 65], [8]),
  (47, 4, [4, 5, 6], []),
  (48, 4, [0, 1, 5], []),
  (50, 5, [0, 4, 6], [4]),
  (55, 5, [5, 15, 16, 17], []),
  (59, 2, [0, 3, 4], []),
  (59, 4, [0, 3, 4], []),
  (60, 4, [0, 1, 5, 6, 7], []),
  (61, 4, [2, 4, 5, 6], [2, 5, 10]),
  (61, 6, [2, 4, 5, 7], [2, 5, 7, 10]),
  (70, 2, [0, 1, 2, 7], [100000]),
  (74, 6, [0, 2, 3, 4, 29], [100000]),
  (75, 2, [0, 5], []),
  (77, 2, [0, 1, 5], []),
  (78, 1, [0, 1], []),
  (80, 4, [0, 1, 4, 6, 7], [4]),
  (85, 2, [0, 2, 3, 8, 9], [8, 9]),
  (106, 3, [3, 4], []),
  (110, 3, [0, 2, 4, 5], [2, 9]),
  (111, 2, [0, 3], [100000]),
  (112, 15, [0, 1, 5, 6, 7, 8, 9, 10], []),
  (114, 12, [0, 6, 8], [6]),
  (114, 18, [1, 45], []),
  (117, 1, [0, 1, 4], []),
  (118, 11, [0, 1, 3, 4, 10, 11, 12, 13, 14, 15, 16], [12]),
  (118, 18, [0, 1, 3, 4, 10, 11, 12, 13, 17], [12]),
  (123, 5, [0, 1, 5, 6, 7, 8, 9], []),
  (123, 11, [0, 1, 5, 6, 7, 8, 10], []),
  (124, 5, [0, 7, 8, 9], []),
  (124, 12, [0, 7, 8, 9, 12], []),
  (124, 25, [0, 7, 8, 9, 14, 15], []),
  (124, 29, [0, 7, 8, 9, 14, 15, 16], []),
  (124, 38, [175], []),
  (126, 2, [0, 2, 4], [2]),
  (135, 3, [0, 4, 5], []),
  (135, 8, [4, 6, 7, 8], []),
  (139, 5, [0, 3, 4], []),
  (1000000, 0, [], [])]

def keepF (f r : Nat) : List Nat × List Nat := match keepL.find? (fun x => x.1 == f && x.2.1 == r) with | some x => x.2.2 | none => ([], [])

def prL : List (Nat × Prim) := [
  (83, pContains),
  (65, pHasPrefix),
  (67, pIndexByte),
  (95, pIndex),
  (114, pIndexAny),
  (54, pItoa),
  (44, pJoin),
  (81, pCopyCheck),
  (40, pString),
  (106, pLow)]

def prF (f : Nat) : Option Prim := (prL.find? (fun x => x.1 == f)).map (·.2)

/-- regions 'x.f = append(x.f, y[i])' whose order is drawn -/
def hookB (f i : Nat) : Bool := f == 110 && i == 6

def goodB (P : Program) (f : Nat) : Bool :=
  match P.funcs[f]? with
  | some fn => fn.name != "runtime.NumGoroutine" && (match fn.body with | some c => codeOK (hookB f) c | none => false)
  | none => false

/-- which functions may be met -/
def goods : List Nat := [3, 4, 5, 6, 7, 8, 9, 10, 11, 12, 13, 14, 15, 16, 17, 18, 19, 20, 21, 22, 23, 24, 25, 26, 27, 28, 29, 30, 31, 32, 33, 34, 35, 36, 37, 38, 39, 40, 41, 42, 43, 44, 45, 46, 47, 48, 49, 50, 51, 52, 53, 54, 55, 56, 57, 58, 59, 60, 61, 62, 63, 64, 65, 66, 67, 68, 69, 70, 71, 72, 73, 74, 75, 76, 77, 78, 79, 80, 81, 82, 83, 84, 85, 86, 87, 88, 89, 90, 91, 92, 93, 94, 95, 96, 97, 98, 99, 101, 103, 104, 105, 106, 107, 108, 109, 110, 111, 112, 114, 115, 116, 117, 118, 119, 120, 122, 123, 124, 125, 126, 127, 128, 129, 130, 131, 132, 133, 134, 135, 136, 137, 138, 139]

theorem goods_ok : goods.all (goodB Tryd.prog) = true := by kernel_rfl

noncomputable def K : Cfg := { P := Tryd.prog, pr := prF, keep := keepF, ownRet := fun _ => false, good := goods.contains, hook := hookB }

theorem K_prog : Prog K := by
  refine ⟨by kernel_rfl, fun g hg => ?_, fun f F args bxs x _ hF hx => ?_⟩
  · have h1 : g ∈ goods := by simpa [K] using hg
    have h2 := List.all_eq_true.1 goods_ok g h1
    unfold goodB at h2
    split at h2
    · rename_i fn hfn
      simp only [Bool.and_eq_true] at h2
      obtain ⟨h3, h4⟩ := h2
      split at h4
      · rename_i c hc
        exact ⟨fn, c, hfn, by simpa using h3, hc, h4⟩
      · cases h4
    · cases h2
  · have h1 : ∀ y ∈ prL, ∀ args bxs x, y.2 args bxs = some x → Contract Tryd.prog y.1 args bxs (.ret x.1 x.2) := by
      intro y hy
      simp only [prL, List.mem_cons, List.not_mem_nil, or_false] at hy
      rcases hy with rfl | rfl | rfl | rfl | rfl | rfl | rfl | rfl | rfl | rfl
      · exact fun _ _ _ h => pContains_ok h
      · exact fun _ _ _ h => pHasPrefix_ok h
      · exact fun _ _ _ h => pIndexByte_ok h
      · exact fun _ _ _ h => pIndex_ok h
      · exact fun _ _ _ h => pIndexAny_ok h
      · exact fun _ _ _ h => pItoa_ok h
      · exact fun _ _ _ h => pJoin_ok h
      · exact fun _ _ _ h => pCopyCheck_ok h
      · exact fun _ _ _ h => pString_ok h
      · exact fun _ _ _ h => pLow_ok h
    have h2 : prF f = some F := hF
    unfold prF at h2
    rw [Option.map_eq_some_iff] at h2
    obtain ⟨y, hy, rfl⟩ := h2
    have h3 := List.mem_of_find?_eq_some hy
    have h4 : y.1 = f := by simpa using List.find?_some hy
    rw [← h4]
    exact h1 y h3 args bxs x hx

end Go.Abs
