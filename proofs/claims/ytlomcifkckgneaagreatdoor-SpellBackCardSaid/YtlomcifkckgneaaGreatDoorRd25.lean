/-
  WHAT READS AS THE ARGUMENTS: the statement SpellBack.
-/
import Derived.Test.YtlomcifkckgneaaGreatDoorRd24
set_option linter.unusedSimpArgs false
set_option linter.unusedVariables false
namespace Go.Abs
open Go Go.Proofs
set_option maxRecDepth 100000
theorem wg (pss:List (List PV))(h:All2 (fun t p=>∃ n,TyP Tryz.prog n t p) Tryz.f9.params.toList pss) :
  den K 9 (List.zipWith (rh Tryz.prog) Tryz.f9.params.toList pss) []=some (.ret (.c (.pv (.bool true))) []):=by
 have hp:Tryz.f9.params.toList=[31,31]:=rfl
 rw[hp] at h ⊢;refine args2 h fun n m p q h1 h2 e => ?_
 subst e;obtain⟨a,rfl,hal,ha⟩:=Je h1;obtain⟨b,rfl,hbl,hb⟩:=Je h2;simp only[List.zipWith_cons_cons,List.zipWith_nil_left,FP];exact yy a b hal hbl ha hb
end Go.Abs
