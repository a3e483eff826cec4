/-
  WHAT READS AS THE ARGUMENTS: the statement SelsCommas.
-/
import Derived.Test.YtlomcifkckgneaaGreatDoorRc7
import Derived.Test.YtlomcifkckgneaaGreatDoorRc28
set_option linter.unusedSimpArgs false
set_option linter.unusedVariables false
set_option linter.unusedSimpArgs true
namespace Go.Abs
open Go Go.Proofs
set_option maxRecDepth 100000
theorem qi (pss:List (List PV)) (h:All2 (fun t p => ∃ n,TyP Tryz.prog n t p) Tryz.f5.params.toList pss) :
  den K 5 (List.zipWith (nR Tryz.prog) Tryz.f5.params.toList pss) []=some (.ret (.c (.pv (.bool true))) []):=by
 have hp:Tryz.f5.params.toList=[9,9]:=rfl
 rw[hp] at h ⊢
 refine args2 h fun n m p q h1 h2 e => ?_
 subst e
 obtain ⟨s,rfl,_⟩:=Bn al h1
 obtain ⟨t,rfl,_⟩:=Bn al h2
 simp only[List.zipWith_cons_cons,List.zipWith_nil_left,Dl]
 exact rD s t
end Go.Abs
