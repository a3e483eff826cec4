/-
  WHAT READS AS THE ARGUMENTS: the statement SelsNot.
-/
import Derived.Test.YtlomcifkckgneaaGreatDoorRn7
import Derived.Test.YtlomcifkckgneaaGreatDoorRn22
set_option linter.unusedSimpArgs false
set_option linter.unusedVariables false
set_option linter.unusedSimpArgs true
namespace Go.Abs
open Go Go.Proofs
set_option maxRecDepth 100000
theorem ue (pss:List (List PV)) (h:All2 (fun t p => ∃ n,TyP Tryz.prog n t p) Tryz.f7.params.toList pss) :
  den K 7 (List.zipWith (nr Tryz.prog) Tryz.f7.params.toList pss) []=some (.ret (.c (.pv (.bool true))) []):=by
 have hp:Tryz.f7.params.toList=[9]:=rfl
 rw[hp] at h ⊢
 refine args1 h fun n p h1 e => ?_
 subst e
 obtain ⟨s,rfl,_⟩:=GQ aa h1
 simp only[List.zipWith_cons_cons,List.zipWith_nil_left,A7]
 exact v7 s
end Go.Abs
