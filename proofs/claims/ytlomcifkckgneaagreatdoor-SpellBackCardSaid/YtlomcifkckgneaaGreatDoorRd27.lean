/-
  winnowinglaw05.SpellBack returns true for every input without a ring, and each argument reads behind the call as it read before: the tied card.
-/
import Derived.Test.YtlomcifkckgneaaGreatDoorCards
import Derived.Test.YtlomcifkckgneaaGreatDoorTie
import Derived.Deep.DeepWitnessRowRef
import Derived.Lay
import Derived.Test.YtlomcifkckgneaaGreatDoorRd25
import Derived.Test.YtlomcifkckgneaaGreatDoorRd26
set_option maxRecDepth 100000
set_option linter.unusedSimpArgs false
set_option linter.unusedVariables false
namespace Go.Proofs.YtlomcifkckgneaaGreatDoor.SpellBack
open Go.ChangeShapes Go.WideShapes Go.ChangeAt Go.RowKit
theorem own:ownKnob Tryz.prog.godebug=none:=by kernel_rfl
noncomputable def laidWorld (os:Os):World:=World.laidAll Tryz.prog os Rows.spellBackRow.laid
noncomputable def wArgs:Array Value:=#[.slice none 0 0,.slice none 0 0]
theorem laid_met (os:Os):laidMet Tryz.prog Rows.spellBackRow.laid ((laidWorld os).forCall (fun _ _=>0) ⟨#[],wArgs,[]⟩).memory :=
 laidMet_laidAll wArgs (by kernel_rfl) (by kernel_rfl)
theorem reads (os:Os){H:Type}(enc:TypeId×Value→H):∃ places,DataW.whole enc Tryz.prog ((laidWorld os).forCall (fun _ _=>0) ⟨#[],wArgs,[]⟩).memory Tryz.f9.params.toList Rows.spellBackSpec.vars false wArgs.toList 8=some ([.nil,.nil],[],places) :=
 ⟨[],by kernel_rfl⟩
theorem lifted (os:Os)(started:os.Started)(H:Type)(enc:TypeId×Value→H)(F:Stop.Interp) :
  ReturnsInHanded {} Tryz.checked os 9 .any ((OpenSpec.ofChange Rows.spellBackSpec).preRow enc Tryz.prog Tryz.f9 Rows.spellBackRow.domain false Rows.spellBackRow.laid) (((OpenSpec.ofChange Rows.spellBackSpec).at F).post enc Tryz.prog Tryz.f9 false true false false):=by
 obtain⟨places,hx⟩:=reads os enc;refine returnsInHanded_of_row (C:=Tryz.checked) (s:=OpenSpec.ofChange Rows.spellBackSpec) own started (by kernel_rfl) Tryz.func9
  (witness_row_atRef (enc:=enc) (C:=Tryz.checked) false (laidWorld os) wArgs (World.laidAll_os _ _ _) (by kernel_rfl) (by kernel_rfl) (by kernel_rfl)
   (OpenSpec.preRow_of_cond 8 hx (by kernel_rfl) (fun k hk=>by cases hk) (by kernel_rfl) (laid_met os))) ?_
 intro W base args ds gs before hval hW _ _ hwt hL hsh _;have hgs:gs=[]:=by
  obtain⟨_,_,_,hV,_⟩:=hW;cases gs with
  | nil=>rfl
  | cons g gs=>exact hV.elim
 subst hgs;have hwt':(DataW.weightsEach Tryz.prog Tryz.f9.params.toList ds).all (· ≤ reachBytes)=true:=by
  have e:Tryz.f9.params.toList++(OpenSpec.ofChange Rows.spellBackSpec).bare.plain.varTypes Tryz.prog=Tryz.f9.params.toList:=List.append_nil _
  rw[List.append_nil] at hwt;exact hwt
 exact Go.Abs.Vm (base:=base) (L:=Go.Abs.Jr) (laid:=Rows.spellBackRow.laid) (spec:=Rows.spellBackSpec) (by kernel_rfl) Go.Abs.Nq (by decide) rfl rfl (fun ds hd=>by
   match ds,hd with
   | [a,b],_=>rfl) (by simp[Rows.spellBackRow]) (by kernel_rfl) Go.Abs.wg hval hW hwt' hL hsh
theorem j_inPlace:(Rows.spellBackRow.inPlace==Tryz.prog.inPlace 9)=true:=by kernel_rfl
theorem j_unfollowed:(Rows.spellBackRow.unfollowed==Tryz.prog.unfollowed 9)=true:=by kernel_rfl
theorem j_recurses:(Rows.spellBackRow.recurses==Tryz.prog.recurses 9)=true:=by kernel_rfl
theorem j_named:(Rows.spellBackRow.named==Tryz.prog.varsNamed 9)=true:=by kernel_rfl
theorem j_lifts:(Rows.spellBackRow.lifted==Tryz.prog.liftsFinal)=true:=by rw[J.lifts];rfl
theorem j_plain:(Rows.spellBackRow.plainKeys==Tryz.prog.plainKeys)=true:=by rw[J.plain];rfl
theorem closed:joinedFacts Tryz.prog 9 Tryz.f9 (OpenSpec.ofChange Rows.spellBackSpec).bare Rows.spellBackRow=true:=by
 unfold joinedFacts;simp only[Bool.and_eq_true]
 repeat' apply And.intro
 all_goals first
  | with_reducible exact j_inPlace
  | with_reducible exact j_unfollowed
  | with_reducible exact j_recurses
  | with_reducible exact j_named
  | with_reducible exact j_lifts
  | with_reducible exact j_plain
  | with_reducible exact J.enter
  | with_reducible exact J.heard
  | with_reducible exact J.laid
  | with_reducible exact J.maps
  | kernel_rfl
theorem named_f : Tryz.prog.funcNamed "winnowing/winnowinglaw05.SpellBack" = some 9 := by kernel_rfl
theorem said:Rows.SpellBackSaid :=
 OpenClaim.holds_of_cond 9 Tryz.f9 rfl rfl rfl rfl rfl rfl rfl ⟨rfl,rfl,rfl,rfl,rfl⟩ rfl rfl rfl rfl rfl named_f Tryz.func9 closed
  (of_decide_eq_true (by kernel_rfl)) (by unfold Func.isWrapper;first|(rw[if_pos (by decide +kernel)];kernel_rfl)|(rw[if_neg (by decide +kernel)];exact⟨rfl,rfl⟩))
  (fun os started H enc _ F=>by rw[OpenClaim.pre_eq_preRow];exact lifted os started H enc F)
theorem plain (f : FuncId)(fn : Func)(hf : Tryz.pinned.checked.prog.funcNamed "winnowing/winnowinglaw05.SpellBack" = some f)(hfn : Tryz.pinned.checked.prog.funcs[f]? = some fn) :
  true=Tryz.pinned.checked.prog.looks []∧∀ (j:Nat) t,fn.params[j]? = some t→Tryz.pinned.checked.prog.wantsStandIn t=false:=by
 obtain rfl : f = 9 := Option.some.inj ((show Tryz.prog.funcNamed "winnowing/winnowinglaw05.SpellBack" = some 9 by kernel_rfl).symm.trans hf) |>.symm
 obtain rfl:fn=Tryz.f9:=(Option.some.inj (Tryz.func9.symm.trans hfn)).symm;refine⟨by kernel_rfl,fun j t ht => ?_⟩
 have hm:=Array.mem_toList_iff.2 (Array.mem_of_getElem? ht)
 have h1:∀ t∈Tryz.f9.params.toList,t∈Go.Abs.Jr:=by decide
 have h2:Go.Abs.Jr.all (fun t => !Tryz.prog.wantsStandIn t)=true:=by kernel_rfl
 have h3:=List.all_eq_true.1 h2 t (h1 t hm)
 have h4:Tryz.prog.wantsStandIn t=false:=by simpa using h3
 exact h4
theorem card:Rows.SpellBackCardSaid :=
 Claim7.holds_tied_plain_at .later [] _ _ _ _ said (fun _ h=>by cases h) (by kernel_rfl) (fun _ h=>by cases h) spellBack_row_tie rfl ⟨rfl,rfl⟩ (by kernel_rfl) rfl plain (by kernel_rfl)
end Go.Proofs.YtlomcifkckgneaaGreatDoor.SpellBack
