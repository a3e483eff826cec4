/-
  WHAT READS AS ONE TEXT: the statement SpellRead.
-/
import Derived.Test.YtmcjabhnmealgaaDoorQLawSpellRead
import Derived.Test.YtmcjabhnmealgaaDoorQV
set_option linter.unusedSimpArgs false
set_option linter.unusedVariables false
namespace Go.Abs
open Go Go.Proofs
set_option maxRecDepth 100000
def flatR : List TypeId := [4, 3, 9]
theorem flatR_ok : flatSet Tryd.prog flatR = true := by kernel_rfl
theorem argOf_str (p : PV) : argOf Tryd.prog 9 [p] = .c (.pv p) := by
  unfold argOf; rw [Tryd.underlying9]
theorem SpellRead_args (pss : List (List PV)) (h : All2 (fun t p => ∃ n, TyP Tryd.prog n t p) Tryd.f3.params.toList pss) :
    den K 3 (List.zipWith (argOf Tryd.prog) Tryd.f3.params.toList pss) [] = some (.ret (.c (.pv (.bool true))) []) := by
  have hp : Tryd.f3.params.toList = [9] := rfl
  rw [hp] at h ⊢
  cases h with
  | cons h1 h =>
  cases h
  obtain ⟨n, h1⟩ := h1
  obtain ⟨s, rfl, _⟩ := TyP_str ty_descOf_9 h1
  simp only [List.zipWith_cons_cons, List.zipWith_nil_left, argOf_str]
  exact SpellRead_den s
end Go.Abs
