/-
  WHAT READS AS A TEXT AND TOKENS: the statement ToksBack.
-/
import Derived.Test.YtcnodcgdceoijaaDoorLawTBack
import Derived.Test.YtcnodcgdceoijaaDoorRowT
set_option linter.unusedSimpArgs false
set_option linter.unusedVariables false
namespace Go.Abs
open Go Go.Proofs
set_option maxRecDepth 100000
theorem ToksBack_args (pss : List (List PV)) (h : All2 (fun t p => ∃ n, TyP Tryd.prog n t p) Tryd.f7.params.toList pss) :
    den K 7 (List.zipWith (argOf Tryd.prog) Tryd.f7.params.toList pss) [] = some (.ret (.c (.pv (.bool true))) []) := by
  have hp : Tryd.f7.params.toList = [9, 44] := rfl
  rw [hp] at h ⊢
  refine args2 h fun n m p q h1 h2 e => ?_
  subst e
  obtain ⟨s, rfl, _⟩ := TyP_str ty_descOf_9 h1
  obtain ⟨l, rfl, hll, hl⟩ := ty_toks h2
  simp only [List.zipWith_cons_cons, List.zipWith_nil_left, argOf_str, argOf_toks]
  exact ToksBack_den s l (fun t ht => (hl t ht).2.1) hll
end Go.Abs
