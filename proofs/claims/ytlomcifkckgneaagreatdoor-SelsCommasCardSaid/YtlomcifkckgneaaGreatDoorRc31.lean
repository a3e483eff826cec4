/-
  winnowinglaw04.SelsCommas returns true for every input without a ring, and each argument reads behind the call as it read before: the tied card.
-/
import Derived.Test.YtlomcifkckgneaaGreatDoorCards
import Derived.Test.YtlomcifkckgneaaGreatDoorTie
import Derived.ProofKit
import Derived.Deep.DeepHandedRow
import Derived.Deep.DeepWitnessRowRef
import Derived.Lay
import Derived.Test.YtlomcifkckgneaaGreatDoorRc29
import Derived.Test.YtlomcifkckgneaaGreatDoorRc30
set_option linter.unusedSimpArgs false
set_option linter.unusedVariables false
namespace Go.Proofs.YtlomcifkckgneaaGreatDoor.SelsCommas
open Go.ChangeShapes Go.WideShapes Go.ChangeAt Go.RowKit
theorem own:ownKnob Tryz.prog.godebug=none:=by kernel_rfl
noncomputable def laidWorld (os:Os):World:=World.laidAll Tryz.prog os Rows.selsCommasRow.laid
noncomputable def wArgs:Array Value := #[.string ⟨#[]⟩,.string ⟨#[]⟩]
theorem laid_met (os:Os):laidMet Tryz.prog Rows.selsCommasRow.laid ((laidWorld os).forCall (fun _ _=>0) ⟨#[],wArgs,[]⟩).memory :=
 laidMet_laidAll wArgs (by kernel_rfl) (by kernel_rfl)
theorem reads (os:Os) {H:Type} (enc:TypeId×Value→H) : ∃ places,DataW.whole enc Tryz.prog ((laidWorld os).forCall (fun _ _=>0) ⟨#[],wArgs,[]⟩).memory Tryz.f5.params.toList Rows.selsCommasSpec.vars false wArgs.toList 8=some ([.lit (.string []),.lit (.string [])],[],places) :=
 ⟨[],by kernel_rfl⟩
set_option maxRecDepth 100000 in
theorem lifted (os:Os) (started:os.Started) (H:Type) (enc:TypeId×Value→H) (F:Stop.Interp) :
  ReturnsInHanded {} Tryz.checked os 5 .any ((OpenSpec.ofChange Rows.selsCommasSpec).preRow enc Tryz.prog Tryz.f5 Rows.selsCommasRow.domain false Rows.selsCommasRow.laid) (((OpenSpec.ofChange Rows.selsCommasSpec).at F).post enc Tryz.prog Tryz.f5 false true false false):=by
 obtain ⟨places,hx⟩:=reads os enc
 refine returnsInHanded_of_row (C:=Tryz.checked) (s:=OpenSpec.ofChange Rows.selsCommasSpec) own started (by kernel_rfl) Tryz.func5
  (witness_row_atRef (enc:=enc) (C:=Tryz.checked) false (laidWorld os) wArgs (World.laidAll_os _ _ _) (by kernel_rfl) (by kernel_rfl) (by kernel_rfl)
   (OpenSpec.preRow_of_cond 8 hx (by kernel_rfl) (fun k hk=>by cases hk) (by kernel_rfl) (laid_met os))) ?_
 intro W base args ds gs before hval hW _ _ hwt hL hsh _
 have hgs:gs=[]:=by
  obtain ⟨_,_,_,hV,_⟩:=hW
  cases gs with
  | nil=>rfl
  | cons g gs=>exact hV.elim
 subst hgs
 have hwt':(DataW.weightsEach Tryz.prog Tryz.f5.params.toList ds).all (· ≤ reachBytes)=true:=by
  have e:Tryz.f5.params.toList++(OpenSpec.ofChange Rows.selsCommasSpec).bare.plain.varTypes Tryz.prog=Tryz.f5.params.toList:=List.append_nil _
  rw[List.append_nil] at hwt
  exact hwt
 exact Go.Abs.JN (base:=base) (L:=Go.Abs.BE) (laid:=Rows.selsCommasRow.laid) (spec:=Rows.selsCommasSpec) (by kernel_rfl) Go.Abs.Eh (by decide) rfl rfl (fun ds hd=>by
   match ds,hd with
   | [a,b],_=>rfl) (by simp[Rows.selsCommasRow]) (by kernel_rfl) Go.Abs.qi hval hW hwt' hL hsh
theorem j_inPlace:(Rows.selsCommasRow.inPlace==Tryz.prog.inPlace 5)=true:=by kernel_rfl
theorem j_unfollowed:(Rows.selsCommasRow.unfollowed==Tryz.prog.unfollowed 5)=true:=by kernel_rfl
theorem j_recurses:(Rows.selsCommasRow.recurses==Tryz.prog.recurses 5)=true:=by kernel_rfl
theorem j_named:(Rows.selsCommasRow.named==Tryz.prog.varsNamed 5)=true:=by kernel_rfl
theorem j_lifts:(Rows.selsCommasRow.lifted==Tryz.prog.liftsFinal)=true:=by rw[J.lifts];rfl
theorem j_plain:(Rows.selsCommasRow.plainKeys==Tryz.prog.plainKeys)=true:=by rw[J.plain];rfl
theorem closed:joinedFacts Tryz.prog 5 Tryz.f5 (OpenSpec.ofChange Rows.selsCommasSpec).bare Rows.selsCommasRow=true:=by
 unfold joinedFacts
 simp only[Bool.and_eq_true]
 repeat' apply And.intro
 all_goals first
  | with_reducible exact j_inPlace
  | with_reducible exact j_unfollowed
  | with_reducible exact j_recurses
  | with_reducible exact j_named
  | with_reducible exact j_lifts
  | with_reducible exact j_plain
  | with_reducible exact J.enter
  | with_reducible exact J.heard
  | with_reducible exact J.laid
  | with_reducible exact J.maps
  | kernel_rfl
theorem named_f : Tryz.prog.funcNamed "winnowing/winnowinglaw04.SelsCommas" = some 5 := by kernel_rfl
theorem said:Rows.SelsCommasSaid :=
 OpenClaim.holds_of_cond 5 Tryz.f5 rfl rfl rfl rfl rfl rfl rfl ⟨rfl,rfl,rfl,rfl,rfl⟩ rfl rfl rfl rfl rfl named_f Tryz.func5 closed
  (of_decide_eq_true (by kernel_rfl)) (by unfold Func.isWrapper;first|(rw[if_pos (by decide +kernel)];kernel_rfl)|(rw[if_neg (by decide +kernel)];exact ⟨rfl,rfl⟩))
  (fun os started H enc _ F=>by rw[OpenClaim.pre_eq_preRow];exact lifted os started H enc F)
theorem plain (f : FuncId) (fn : Func) (hf : Tryz.pinned.checked.prog.funcNamed "winnowing/winnowinglaw04.SelsCommas" = some f) (hfn : Tryz.pinned.checked.prog.funcs[f]? = some fn) :
  true=Tryz.pinned.checked.prog.looks [] ∧ ∀ (j:Nat) t,fn.params[j]? = some t→Tryz.pinned.checked.prog.wantsStandIn t=false:=by
 obtain rfl : f = 5 := Option.some.inj ((show Tryz.prog.funcNamed "winnowing/winnowinglaw04.SelsCommas" = some 5 by kernel_rfl).symm.trans hf) |>.symm
 obtain rfl:fn=Tryz.f5:=(Option.some.inj (Tryz.func5.symm.trans hfn)).symm
 refine ⟨by kernel_rfl,fun j t ht => ?_⟩
 have hm:=Array.mem_toList_iff.2 (Array.mem_of_getElem? ht)
 have h1 : ∀ t∈Tryz.f5.params.toList,t∈Go.Abs.BE:=by decide
 have h2:Go.Abs.BE.all (fun t => !Tryz.prog.wantsStandIn t)=true:=by kernel_rfl
 have h3:=List.all_eq_true.1 h2 t (h1 t hm)
 have h4:Tryz.prog.wantsStandIn t=false:=by simpa using h3
 exact h4
theorem card:Rows.SelsCommasCardSaid :=
 Claim7.holds_tied_plain_at .later [] _ _ _ _ said (fun _ h=>by cases h) (by kernel_rfl) (fun _ h=>by cases h) selsCommas_row_tie rfl ⟨rfl,rfl⟩ (by kernel_rfl) rfl plain (by kernel_rfl)
end Go.Proofs.YtlomcifkckgneaaGreatDoor.SelsCommas
