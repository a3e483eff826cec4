/-
  WHAT READS AS A TEXT: the statement ToksParts.
-/
import Derived.Test.YtcnodcgdceoijaaDoorLawTParts
import Derived.Test.YtcnodcgdceoijaaDoorRowT
set_option linter.unusedSimpArgs false
set_option linter.unusedVariables false
namespace Go.Abs
open Go Go.Proofs
set_option maxRecDepth 100000
theorem ToksParts_args (pss : List (List PV)) (h : All2 (fun t p => ∃ n, TyP Tryd.prog n t p) Tryd.f10.params.toList pss) :
    den K 10 (List.zipWith (argOf Tryd.prog) Tryd.f10.params.toList pss) [] = some (.ret (.c (.pv (.bool true))) []) := by
  have hp : Tryd.f10.params.toList = [9] := rfl
  rw [hp] at h ⊢
  refine args1 h fun n p h1 e => ?_
  subst e
  obtain ⟨s, rfl, _⟩ := TyP_str ty_descOf_9 h1
  simp only [List.zipWith_cons_cons, List.zipWith_nil_left, argOf_str]
  exact ToksParts_den s
end Go.Abs
