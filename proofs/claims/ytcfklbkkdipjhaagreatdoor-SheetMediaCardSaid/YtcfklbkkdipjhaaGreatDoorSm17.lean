/-
  winnowinglaw08.SheetMedia returns true for every input without a ring, and each argument reads behind the call as it read before: the tied card.
-/
import Derived.Test.YtcfklbkkdipjhaaGreatDoorCards
import Derived.Test.YtcfklbkkdipjhaaGreatDoorTie
import Derived.Deep.DeepWitnessRowRef
import Derived.Lay
import Derived.Test.YtcfklbkkdipjhaaGreatDoorSm15
import Derived.Test.YtcfklbkkdipjhaaGreatDoorSm16
set_option linter.unusedSimpArgs false
set_option linter.unusedVariables false
namespace Go.Proofs.YtcfklbkkdipjhaaGreatDoor.SheetMedia
open Go.ChangeShapes Go.WideShapes Go.ChangeAt Go.RowKit
theorem own:ownKnob Tryz.prog.godebug=none:=by kernel_rfl
noncomputable def laidWorld (os:Os):World:=World.laidAll Tryz.prog os Rows.sheetMediaRow.laid
noncomputable def wArgs:Array Value:=#[.int .i64 0,.int .i64 0,.int .i64 0]
theorem laid_met (os:Os):laidMet Tryz.prog Rows.sheetMediaRow.laid ((laidWorld os).forCall (fun _ _=>0) ⟨#[],wArgs,[]⟩).memory :=
 laidMet_laidAll wArgs (by kernel_rfl) (by kernel_rfl)
theorem reads (os:Os) {H:Type} (enc:TypeId×Value→H):∃ places,DataW.whole enc Tryz.prog ((laidWorld os).forCall (fun _ _=>0) ⟨#[],wArgs,[]⟩).memory Tryz.f4.params.toList Rows.sheetMediaSpec.vars false wArgs.toList 8=some ([.lit (.int .i64 0),.lit (.int .i64 0),.lit (.int .i64 0)],[],places) :=
 ⟨[],by kernel_rfl⟩
set_option maxRecDepth 100000 in
theorem lifted (os:Os) (started:os.Started) (H:Type) (enc:TypeId×Value→H) (F:Stop.Interp) :
  ReturnsInHanded {} Tryz.checked os 4 .any ((OpenSpec.ofChange Rows.sheetMediaSpec).preRow enc Tryz.prog Tryz.f4 Rows.sheetMediaRow.domain false Rows.sheetMediaRow.laid) (((OpenSpec.ofChange Rows.sheetMediaSpec).at F).post enc Tryz.prog Tryz.f4 false true false false):=by
 obtain⟨places,hx⟩:=reads os enc;refine returnsInHanded_of_row (C:=Tryz.checked) (s:=OpenSpec.ofChange Rows.sheetMediaSpec) own started (by kernel_rfl) Tryz.func4
  (witness_row_atRef (enc:=enc) (C:=Tryz.checked) false (laidWorld os) wArgs (World.laidAll_os _ _ _) (by kernel_rfl) (by kernel_rfl) (by kernel_rfl)
   (OpenSpec.preRow_of_cond 8 hx (by kernel_rfl) (fun k hk=>by cases hk) (by kernel_rfl) (laid_met os))) ?_
 intro W base args ds gs before hval hW _ _ hwt hL hsh _;have hgs:gs=[]:=by
  obtain⟨_,_,_,hV,_⟩:=hW;cases gs with
  | nil=>rfl
  | cons g gs=>exact hV.elim
 subst hgs;have hwt':(DataW.weightsEach Tryz.prog Tryz.f4.params.toList ds).all (· ≤ reachBytes)=true:=by
  have e:Tryz.f4.params.toList++(OpenSpec.ofChange Rows.sheetMediaSpec).bare.plain.varTypes Tryz.prog=Tryz.f4.params.toList:=List.append_nil _
  rw[List.append_nil] at hwt;exact hwt
 exact Go.Abs.CZ (base:=base) (L:=Go.Abs.vM) (laid:=Rows.sheetMediaRow.laid) (spec:=Rows.sheetMediaSpec) (by kernel_rfl) Go.Abs.yL (by decide) rfl rfl (fun ds hd=>by
   match ds,hd with
   | [a,b,c],_=>rfl) (by simp[Rows.sheetMediaRow]) (by kernel_rfl) Go.Abs.mZ hval hW hwt' hL hsh
theorem j_inPlace:(Rows.sheetMediaRow.inPlace==Tryz.prog.inPlace 4)=true:=by kernel_rfl
theorem j_unfollowed:(Rows.sheetMediaRow.unfollowed==Tryz.prog.unfollowed 4)=true:=by kernel_rfl
theorem j_recurses:(Rows.sheetMediaRow.recurses==Tryz.prog.recurses 4)=true:=by kernel_rfl
theorem j_named:(Rows.sheetMediaRow.named==Tryz.prog.varsNamed 4)=true:=by kernel_rfl
theorem j_lifts:(Rows.sheetMediaRow.lifted==Tryz.prog.liftsFinal)=true:=by rw[J.lifts];rfl
theorem j_plain:(Rows.sheetMediaRow.plainKeys==Tryz.prog.plainKeys)=true:=by rw[J.plain];rfl
theorem closed:joinedFacts Tryz.prog 4 Tryz.f4 (OpenSpec.ofChange Rows.sheetMediaSpec).bare Rows.sheetMediaRow=true:=by
 unfold joinedFacts;simp only[Bool.and_eq_true]
 repeat' apply And.intro
 all_goals first
  | with_reducible exact j_inPlace
  | with_reducible exact j_unfollowed
  | with_reducible exact j_recurses
  | with_reducible exact j_named
  | with_reducible exact j_lifts
  | with_reducible exact j_plain
  | with_reducible exact J.enter
  | with_reducible exact J.heard
  | with_reducible exact J.laid
  | with_reducible exact J.maps
  | kernel_rfl
theorem named_f : Tryz.prog.funcNamed "winnowing/winnowinglaw08.SheetMedia" = some 4 := by kernel_rfl
theorem said:Rows.SheetMediaSaid :=
 OpenClaim.holds_of_cond 4 Tryz.f4 rfl rfl rfl rfl rfl rfl rfl ⟨rfl,rfl,rfl,rfl,rfl⟩ rfl rfl rfl rfl rfl named_f Tryz.func4 closed
  (of_decide_eq_true (by kernel_rfl)) (by unfold Func.isWrapper;first|(rw[if_pos (by decide +kernel)];kernel_rfl)|(rw[if_neg (by decide +kernel)];exact⟨rfl,rfl⟩))
  (fun os started H enc _ F=>by rw[OpenClaim.pre_eq_preRow];exact lifted os started H enc F)
theorem plain (f : FuncId) (fn : Func) (hf : Tryz.pinned.checked.prog.funcNamed "winnowing/winnowinglaw08.SheetMedia" = some f) (hfn : Tryz.pinned.checked.prog.funcs[f]? = some fn) :
  true=Tryz.pinned.checked.prog.looks []∧∀ (j:Nat) t,fn.params[j]? = some t→Tryz.pinned.checked.prog.wantsStandIn t=false:=by
 obtain rfl : f = 4 := Option.some.inj ((show Tryz.prog.funcNamed "winnowing/winnowinglaw08.SheetMedia" = some 4 by kernel_rfl).symm.trans hf) |>.symm
 obtain rfl:fn=Tryz.f4:=(Option.some.inj (Tryz.func4.symm.trans hfn)).symm;refine⟨by kernel_rfl,fun j t ht => ?_⟩
 have hm:=Array.mem_toList_iff.2 (Array.mem_of_getElem? ht)
 have h1:∀ t∈Tryz.f4.params.toList,t∈Go.Abs.vM:=by decide
 have h2:Go.Abs.vM.all (fun t => !Tryz.prog.wantsStandIn t)=true:=by kernel_rfl
 have h3:=List.all_eq_true.1 h2 t (h1 t hm)
 have h4:Tryz.prog.wantsStandIn t=false:=by simpa using h3
 exact h4
theorem card:Rows.SheetMediaCardSaid :=
 Claim7.holds_tied_plain_at .later [] _ _ _ _ said (fun _ h=>by cases h) (by kernel_rfl) (fun _ h=>by cases h) sheetMedia_row_tie rfl ⟨rfl,rfl⟩ (by kernel_rfl) rfl plain (by kernel_rfl)
end Go.Proofs.YtcfklbkkdipjhaaGreatDoor.SheetMedia
