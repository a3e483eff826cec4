/-
  WHAT READS AS THE ARGUMENTS: the statement SheetMedia.
-/
import Derived.Test.YtcfklbkkdipjhaaGreatDoorSm14
set_option linter.unusedSimpArgs false
set_option linter.unusedVariables false
namespace Go.Abs
open Go Go.Proofs
set_option maxRecDepth 100000
theorem mZ (pss:List (List PV)) (h:All2 (fun t p=>∃ n,TyP Tryz.prog n t p) Tryz.f4.params.toList pss) :
  den K 4 (List.zipWith (lC Tryz.prog) Tryz.f4.params.toList pss) []=some (.ret (.c (.pv (.bool true))) []):=by
 have hp:Tryz.f4.params.toList=[3,3,3]:=rfl
 rw[hp] at h ⊢;refine args3 h fun n m k p q r h1 h2 h3 e => ?_
 subst e;obtain⟨a,rfl,ha⟩:=qY cJ h1;obtain⟨b,rfl,hb⟩:=qY cJ h2;obtain⟨c,rfl,hc⟩:=qY cJ h3;simp only[List.zipWith_cons_cons,List.zipWith_nil_left,wY];exact nS a b c (ux ha) (ux hb) (ux hc)
end Go.Abs
