/-
  WHAT READS AS SELECTORS AND NUMBERS: the statement SpellTells.
-/
import Derived.Test.YtcnodcgdceoijaaDoorLawSpellTells
import Derived.Test.YtcnodcgdceoijaaDoorRowE
set_option linter.unusedSimpArgs false
set_option linter.unusedVariables false
namespace Go.Abs
open Go Go.Proofs
set_option maxRecDepth 100000

theorem argOf_int (p : PV) : argOf Tryd.prog 3 [p] = .c (.pv p) := by
  unfold argOf; rw [Tryd.underlying3]

theorem SpellTells_args (pss : List (List PV)) (h : All2 (fun t p => ∃ n, TyP Tryd.prog n t p) Tryd.f3.params.toList pss) :
    den K 3 (List.zipWith (argOf Tryd.prog) Tryd.f3.params.toList pss) [] = some (.ret (.c (.pv (.bool true))) []) := by
  have hp : Tryd.f3.params.toList = [22, 3, 3] := rfl
  rw [hp] at h ⊢
  cases h with
  | cons h1 h =>
  cases h with
  | cons h2 h =>
  cases h with
  | cons h3 h =>
  cases h
  obtain ⟨n1, h1⟩ := h1
  obtain ⟨n2, h2⟩ := h2
  obtain ⟨n3, h3⟩ := h3
  obtain ⟨l, rfl, hll, hl⟩ := ty_cpxs h1
  obtain ⟨a, rfl, ha⟩ := TyP_int ty_descOf_3 h2
  obtain ⟨b, rfl, hb⟩ := TyP_int ty_descOf_3 h3
  simp only [List.zipWith_cons_cons, List.zipWith_nil_left, argOf_int, argOf_cpxs]
  exact SpellTells_den l a b (wf_I64 ha) (wf_I64 hb) hl hll
end Go.Abs
