/-
  winnowinglaw03.SplitBoth returns true for every input without a ring, and each argument reads behind the call as it read before: the tied card.
  SplitBoth, as the interpreter answers it: true, whatever the two lists of values are.
  WHAT READS AS THE ARGUMENTS: the statement SplitBoth.
-/
import Derived.Test.YtjfkppbgcgleaaaGreatDoorCards
import Derived.Test.YtjfkppbgcgleaaaGreatDoorTie
import Derived.ProofKit
import Derived.Deep.DeepHandedRow
import Derived.Test.YtjfkppbgcgleaaaGreatDoorQ7
set_option linter.unusedSimpArgs false
set_option linter.unusedVariables false
namespace Go.Abs
open Go Go.Proofs
set_option maxRecDepth 10000
attribute [local go_sem] exL_seq exL_region exL_cond exL_block exL_scope exL_ret exL_skip exL_exit runRegion runOps stepOp guardA absOp takeOver opd avOf cvOf St.degAt St.put okPV okVal okAV absBin intBin strBin boolBin setBoxes if_true Bool.false_eq_true if_false Option.map_some Option.map_none Option.bind_some Option.bind_none thenO outOf upd List.toList_toArray isOwn steal appArgs inApps AV.deg CV.deg AV.gv AV.isIter absNext some_bne List.length_nil List.length_cons List.filterMap_cons List.filterMap_nil beq_iff_eq List.getElem?_cons_zero List.getElem?_cons_succ Option.getD_some K_hook hookB Bool.false_and Bool.and_false Bool.and_self K_P K_own absCall doCall getBoxes lend back idx dedup AV.ren CV.ren TV.ren AV.ptrs CV.ptrs zipBox AV.flat CV.flat absLoad absStore cellsOfAV setAt newBox markB bldTypes absFieldAddr absField absExtract absAssert noAssert absMkIface ifcOf CV.pv? content pushHead ownT fillCells reps pvs chunks enterSt leave resOf resVars resVar outBoxes lentOnly TV.deg TV.av LK CV.plain CV.noBld nilBin absUn bound List.map_cons List.map_nil List.all_cons List.all_nil List.any_cons List.any_nil List.contains_cons List.contains_nil List.elem_cons List.elem_nil List.cons_append List.nil_append List.append_nil List.flatMap_cons List.flatMap_nil List.zip_cons_cons List.zip_nil_left List.zip_nil_right List.take_succ_cons List.take_zero List.take_nil List.drop_succ_cons List.drop_zero List.drop_nil List.isEmpty_nil List.isEmpty_cons Bool.and_true Bool.true_and Bool.or_true Bool.true_or Bool.or_false Bool.false_or Bool.not_true Bool.not_false Nat.add_zero Nat.zero_add Option.isNone_none Option.isNone_some Option.getD_none true_and and_true not_true_eq_false not_false_eq_true decide_true decide_false Nat.le_refl and_self Bool.not_eq_true Nat.sub_self or_true true_or Option.some.injEq List.length_map List.nil_eq and_false false_and AV.live CV.live CV.liveIn K_keep firstReg Option.orElse_some Option.orElse_none head keepSlots keepBoxes Int.lt_irrefl List.length_append ite_self memOK logOps opKey lentBoxes Key.clash Key.sees Key.writes Nat.lt_irrefl gt_iff_lt nobox_at bot_at false_or or_false beq_self_eq_true Bool.true_beq Bool.false_beq
set_option maxHeartbeats 8000000 in
theorem SplitBoth_den (a b : List Val) (hA : Ne.allT (fun t => I64 t.n) a) (hB : Ne.allT (fun t => I64 t.n) b) : den K 5 [L (encL a), L (encL b)] [] = some (.ret (B true) []) := by
  have hf := fixed3_den
  have sa := SmallV_den a 100 (by omega) (by omega)
  have sb := SmallV_den b 100 (by omega) (by omega)
  have e00 : ((0 : Int) == 0) = true := rfl
  refine den_run rfl rfl Tryz.func5 rfl Tryz.ntmps5 ⟨by simp, by simp [LK]⟩ ?_
  have hr : Tryz.f5.results = #[.tmp 4] := rfl
  cases h1 : decide (0 ≤ Ne.few 100 100 a)
  · rw [h1] at sa
    simp only [go_sem, Nat.reduceLT, reduceIte, reduceCtorEq, Nat.reduceEqDiff, apply_ite (Option.map (outOf _)), Nat.reduceBEq, Nat.reduceAdd, Nat.reduceSub, Nat.reduceLeDiff, Nat.reduceMul, good_7, good_6, good_22, good_20, good_8, ev_buildSlice (len := 0) ty_descOf_22 ty_szOf_47 ty_zeroCells_47 ⟨rfl, by decide, by decide⟩, ev_append ty_appInfo_22, ev_appNew_sl ty_descOf_22, good_12, good_11, hr, hf, sa]
  rw [h1] at sa
  cases h2 : decide (0 ≤ Ne.few 100 100 b)
  · rw [h2] at sb
    simp only [go_sem, Nat.reduceLT, reduceIte, reduceCtorEq, Nat.reduceEqDiff, apply_ite (Option.map (outOf _)), Nat.reduceBEq, Nat.reduceAdd, Nat.reduceSub, Nat.reduceLeDiff, Nat.reduceMul, good_7, good_6, good_22, good_20, good_8, ev_buildSlice (len := 0) ty_descOf_22 ty_szOf_47 ty_zeroCells_47 ⟨rfl, by decide, by decide⟩, ev_append ty_appInfo_22, ev_appNew_sl ty_descOf_22, good_12, good_11, hr, hf, sa, sb]
  rw [h2] at sb
  obtain ⟨za, la⟩ := few_facts (of_decide_eq_true h1)
  obtain ⟨zb, lb⟩ := few_facts (of_decide_eq_true h2)
  have fa := flat_small (by decide) hA la
  have fb := flat_small (by decide) hB lb
  have ma := May2_den a (by omega) (tokOk_of (by omega) fa)
  have mb := May2_den b (by omega) (tokOk_of (by omega) fb)
  cases h3 : Ne.may 60 Tk.may a
  · rw [h3] at ma
    simp only [go_sem, Nat.reduceLT, reduceIte, reduceCtorEq, Nat.reduceEqDiff, apply_ite (Option.map (outOf _)), Nat.reduceBEq, Nat.reduceAdd, Nat.reduceSub, Nat.reduceLeDiff, Nat.reduceMul, good_7, good_6, good_22, good_20, good_8, ev_buildSlice (len := 0) ty_descOf_22 ty_szOf_47 ty_zeroCells_47 ⟨rfl, by decide, by decide⟩, ev_append ty_appInfo_22, ev_appNew_sl ty_descOf_22, good_12, good_11, hr, hf, sa, sb, ma]
  rw [h3] at ma
  cases h4 : Ne.may 60 Tk.may b
  · rw [h4] at mb
    simp only [go_sem, Nat.reduceLT, reduceIte, reduceCtorEq, Nat.reduceEqDiff, apply_ite (Option.map (outOf _)), Nat.reduceBEq, Nat.reduceAdd, Nat.reduceSub, Nat.reduceLeDiff, Nat.reduceMul, good_7, good_6, good_22, good_20, good_8, ev_buildSlice (len := 0) ty_descOf_22 ty_szOf_47 ty_zeroCells_47 ⟨rfl, by decide, by decide⟩, ev_append ty_appInfo_22, ev_appNew_sl ty_descOf_22, good_12, good_11, hr, hf, sa, sb, ma, mb]
  rw [h4] at mb
  have ra := Sl.Rd.may h3
  have rb := Sl.Rd.may h4
  have xa := TextV_den a (by omega) (tokOk_of (by omega) fa) (by have := text_vals (l := a) (m := 100) (by omega) (by omega) fa; simp only [txtLim]; omega)
  have xb := TextV_den b (by omega) (tokOk_of (by omega) fb) (by have := text_vals (l := b) (m := 100) (by omega) (by omega) fb; simp only [txtLim]; omega)
  have ta := text_vals (l := a) (m := 100) (by omega) (by omega) fa
  have tb := text_vals (l := b) (m := 100) (by omega) (by omega) fb
  have hall : Tk.all (Sl.textS a ++ 47 :: 42 :: 42 :: 47 :: Sl.textS b) = Ne.flat (a ++ b) := by
    unfold Sl.textS
    rw [Sl.all_comment ra.tok, Tk.back rb.tok, ← Sl.flat_app]
  have hsz := size_app a b
  have hfl := Ne.flat_size (a ++ b)
  have rd := read_den (s := Sl.textS a ++ 47 :: 42 :: 42 :: 47 :: Sl.textS b) (by simp only [List.length_append, List.length_cons]; omega) (by rw [hall]; omega) (Sl.read_both ra rb)
  have hab := Ne.length_size (a ++ b)
  have al := Ne.length_size a
  have bl := Ne.length_size b
  have tr := TrimS_den (a ++ b) (by omega)
  have hts := size_trim (a ++ b)
  have m1 := VSame2_den (Sl.trim (a ++ b)) (by omega) (Sl.trim (a ++ b)) (by omega)
  unfold VSame2Den at m1
  rw [same_refl] at m1
  have y1 : a.length < appLim := by unfold appLim; omega
  have y2 : a.length + b.length < appLim := by unfold appLim; omega
  have v1 := lens_valsK a
  have v2 := lens_valsK b
  have l1 : (Sl.textS a).length + 4 < strLim := by simp only [strLim]; omega
  have l2 : (Sl.textS a).length + 4 + (Sl.textS b).length < strLim := by simp only [strLim]; omega
  simp (maxSteps := 10000000) only [go_sem, Nat.reduceLT, reduceIte, reduceCtorEq, Nat.reduceEqDiff, apply_ite (Option.map (outOf _)), Nat.reduceBEq, Nat.reduceAdd, Nat.reduceSub, Nat.reduceLeDiff, Nat.reduceMul, good_7, good_6, good_22, good_20, good_8, ev_buildSlice (len := 0) ty_descOf_22 ty_szOf_47 ty_zeroCells_47 ⟨rfl, by decide, by decide⟩, ev_append ty_appInfo_22, ev_appNew_sl ty_descOf_22, good_12, good_11, hr, hf, sa, sb, ma, mb, xa, xb, l1, l2, rd, tr, m1, y1, y2, v1, v2, e00, encL_len, appV, lens_nil, List.append_assoc, TV.flat]
end Go.Abs
namespace Go.Abs
open Go Go.Proofs
set_option maxRecDepth 100000
theorem SplitBoth_args (pss : List (List PV)) (h : All2 (fun t p => ∃ n, TyP Tryz.prog n t p) Tryz.f5.params.toList pss) :
    den K 5 (List.zipWith (argOf Tryz.prog) Tryz.f5.params.toList pss) [] = some (.ret (.c (.pv (.bool true))) []) := by
  have hp : Tryz.f5.params.toList = [22, 22] := rfl
  rw [hp] at h ⊢
  refine args2 h fun n m p q h1 h2 e => ?_
  subst e
  obtain ⟨a, rfl, ha⟩ := ty_vals h1
  obtain ⟨b, rfl, hb⟩ := ty_vals h2
  simp only [List.zipWith_cons_cons, List.zipWith_nil_left, argOf_vals]
  exact SplitBoth_den a b ha hb
end Go.Abs
namespace Go.Proofs.YtjfkppbgcgleaaaGreatDoor.SplitBoth
open Go.ChangeShapes Go.WideShapes Go.ChangeAt Go.RowKit
theorem own : ownKnob Tryz.prog.godebug = none := by kernel_rfl
def layInto (cs : List Value) : Obj → Obj
  | .cells _ t frozen => .cells cs.toArray t frozen
  | o => o
noncomputable def laidWorld (os : Os) : World :=
  { World.holding Tryz.prog os ⟨#[], #[], []⟩ with
    heap := (((World.holding Tryz.prog os ⟨#[], #[], []⟩).heap.modify 2
      (layInto (([0, 1, 28, 2, 29, 14, 24, 3, 30, 22, 20, 15, 25, 17, 4, 8, 31, 27, 13, 23, 21, 19, 16, 7, 26, 12, 18, 6, 11, 5, 10, 9] : List Int).map fun n => Value.int .u8 n))).modify 3
      (layInto (([0, 1, 56, 2, 57, 49, 28, 3, 61, 58, 42, 50, 38, 29, 17, 4, 62, 47, 59, 36, 45, 43, 51, 22, 53, 39, 33, 30, 24, 18, 12, 5, 63, 55, 48, 27, 60, 41, 37, 16, 46, 35, 44, 21, 52, 32, 23, 11, 54, 26, 40, 15, 34, 20, 31, 10, 25, 14, 19, 9, 13, 8, 7, 6] : List Int).map fun n => Value.int .u8 n))).modify 1
      (layInto ((List.range 20).map fun i => Value.int .u64 ((10 ^ i : Nat) : Int))) }
noncomputable def wArgs : Array Value := #[.slice none 0 0, .slice none 0 0]
theorem laid_met (os : Os) : laidMet Tryz.prog Rows.splitBothRow.laid ((laidWorld os).forCall (fun _ _ => 0) ⟨#[], wArgs, []⟩).memory :=
  laidMet_of_run' 8 (by kernel_rfl) (by kernel_rfl)
theorem reads (os : Os) {H : Type} (enc : TypeId × Value → H) : ∃ places, DataW.whole enc Tryz.prog ((laidWorld os).forCall (fun _ _ => 0) ⟨#[], wArgs, []⟩).memory Tryz.f5.params.toList Rows.splitBothSpec.vars false wArgs.toList 8 = some ([.nil, .nil], [], places) :=
  ⟨[], by kernel_rfl⟩
set_option maxRecDepth 100000 in
theorem lifted (os : Os) (started : os.Started) (H : Type) (enc : TypeId × Value → H) (F : Stop.Interp) :
    ReturnsInHanded {} Tryz.checked os 5 .any ((OpenSpec.ofChange Rows.splitBothSpec).preRow enc Tryz.prog Tryz.f5 Rows.splitBothRow.domain false Rows.splitBothRow.laid) (((OpenSpec.ofChange Rows.splitBothSpec).at F).post enc Tryz.prog Tryz.f5 false true false false) := by
  obtain ⟨places, hx⟩ := reads os enc
  refine returnsInHanded_of_row (C := Tryz.checked) (s := OpenSpec.ofChange Rows.splitBothSpec) own started (by kernel_rfl) Tryz.func5
    (witness_row_at (enc := enc) (C := Tryz.checked) false (laidWorld os) wArgs rfl (by kernel_rfl) (by kernel_rfl) (by kernel_rfl)
      (OpenSpec.preRow_of_cond 8 hx (by kernel_rfl) (fun k hk => by cases hk) (by kernel_rfl) (laid_met os))) ?_
  intro W base args ds gs before hval hW _ _ hwt hL hsh _
  have hgs : gs = [] := by
    obtain ⟨_, _, _, hV, _⟩ := hW
    cases gs with
    | nil => rfl
    | cons g gs => exact hV.elim
  subst hgs
  have hwt' : (DataW.weightsEach Tryz.prog Tryz.f5.params.toList ds).all (· ≤ reachBytes) = true := by
    have e : Tryz.f5.params.toList ++ (OpenSpec.ofChange Rows.splitBothSpec).bare.plain.varTypes Tryz.prog = Tryz.f5.params.toList := List.append_nil _
    rw [List.append_nil] at hwt
    exact hwt
  exact Go.Abs.law_ok (base := base) (L := Go.Abs.flatN) (laid := Rows.splitBothRow.laid) (spec := Rows.splitBothSpec) (by kernel_rfl) Go.Abs.flatN_ok (by decide) rfl rfl (fun ds hd => by
      match ds, hd with
      | [a, b], _ => rfl) (by simp [Rows.splitBothRow]) (by kernel_rfl) Go.Abs.SplitBoth_args hval hW hwt' hL hsh
theorem said : Rows.SplitBothSaid :=
  OpenClaim.holds_of_cond 5 Tryz.f5 rfl rfl rfl rfl rfl rfl rfl ⟨rfl, rfl, rfl, rfl, rfl⟩ rfl rfl rfl rfl rfl (by kernel_rfl) Tryz.func5 (by kernel_rfl)
    (of_decide_eq_true (by kernel_rfl)) (by unfold Func.isWrapper; first | (rw [if_pos (by decide +kernel)]; kernel_rfl) | (rw [if_neg (by decide +kernel)]; exact ⟨rfl, rfl⟩))
    (fun os started H enc _ F => by rw [OpenClaim.pre_eq_preRow]; exact lifted os started H enc F)
theorem plain (f : FuncId) (fn : Func) (hf : Tryz.pinned.checked.prog.funcNamed "winnowing/winnowinglaw03.SplitBoth" = some f) (hfn : Tryz.pinned.checked.prog.funcs[f]? = some fn) :
    true = Tryz.pinned.checked.prog.looks [] ∧ ∀ (j : Nat) t, fn.params[j]? = some t → Tryz.pinned.checked.prog.wantsStandIn t = false := by
  obtain rfl : f = 5 := Option.some.inj ((show Tryz.prog.funcNamed "winnowing/winnowinglaw03.SplitBoth" = some 5 by kernel_rfl).symm.trans hf) |>.symm
  obtain rfl : fn = Tryz.f5 := (Option.some.inj (Tryz.func5.symm.trans hfn)).symm
  refine ⟨by kernel_rfl, fun j t ht => ?_⟩
  have hm := Array.mem_toList_iff.2 (Array.mem_of_getElem? ht)
  have h1 : ∀ t ∈ Tryz.f5.params.toList, t ∈ Go.Abs.flatN := by decide
  have h2 : Go.Abs.flatN.all (fun t => !Tryz.prog.wantsStandIn t) = true := by kernel_rfl
  have h3 := List.all_eq_true.1 h2 t (h1 t hm)
  have h4 : Tryz.prog.wantsStandIn t = false := by simpa using h3
  exact h4
theorem card : Rows.SplitBothCardSaid :=
  Claim7.holds_tied_plain_at .later [] _ _ _ _ said (fun _ h => by cases h) (by kernel_rfl) (fun _ h => by cases h) splitBoth_row_tie rfl ⟨rfl, rfl⟩ (by kernel_rfl) rfl plain (by kernel_rfl)
end Go.Proofs.YtjfkppbgcgleaaaGreatDoor.SplitBoth
