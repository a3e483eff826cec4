/-
  WHAT READS AS TWO TEXTS: the statement ToksBoth.
-/
import Derived.Test.YtcnodcgdceoijaaDoorLawTBoth
import Derived.Test.YtcnodcgdceoijaaDoorRowT
set_option linter.unusedSimpArgs false
set_option linter.unusedVariables false
namespace Go.Abs
open Go Go.Proofs
set_option maxRecDepth 100000
theorem ToksBoth_args (pss : List (List PV)) (h : All2 (fun t p => ∃ n, TyP Tryd.prog n t p) Tryd.f9.params.toList pss) :
    den K 9 (List.zipWith (argOf Tryd.prog) Tryd.f9.params.toList pss) [] = some (.ret (.c (.pv (.bool true))) []) := by
  have hp : Tryd.f9.params.toList = [9, 9] := rfl
  rw [hp] at h ⊢
  refine args2 h fun n m p q h1 h2 e => ?_
  subst e
  obtain ⟨s, rfl, _⟩ := TyP_str ty_descOf_9 h1
  obtain ⟨t, rfl, _⟩ := TyP_str ty_descOf_9 h2
  simp only [List.zipWith_cons_cons, List.zipWith_nil_left, argOf_str]
  exact ToksBoth_den s t
end Go.Abs
