/-
  WHAT READS AS TWO TOKENS AND MORE: the statement ToksTwo.
-/
import Derived.Test.YtcnodcgdceoijaaDoorLawTTwo
import Derived.Test.YtcnodcgdceoijaaDoorRowT
set_option linter.unusedSimpArgs false
set_option linter.unusedVariables false
namespace Go.Abs
open Go Go.Proofs
set_option maxRecDepth 100000
theorem ToksTwo_args (pss : List (List PV)) (h : All2 (fun t p => ∃ n, TyP Tryd.prog n t p) Tryd.f11.params.toList pss) :
    den K 11 (List.zipWith (argOf Tryd.prog) Tryd.f11.params.toList pss) [] = some (.ret (.c (.pv (.bool true))) []) := by
  have hp : Tryd.f11.params.toList = [46, 46, 44] := rfl
  rw [hp] at h ⊢
  refine args3 h fun n m k p q r h1 h2 h3 e => ?_
  subst e
  obtain ⟨a, rfl, ha⟩ := ty_tok h1
  obtain ⟨b, rfl, hb⟩ := ty_tok h2
  obtain ⟨l, rfl, hll, hl⟩ := ty_toks h3
  simp only [List.zipWith_cons_cons, List.zipWith_nil_left, argOf_tok, argOf_toks]
  exact ToksTwo_den a b l ha.2.1 hb.2.1 (fun t ht => (hl t ht).2.1) hll
end Go.Abs
