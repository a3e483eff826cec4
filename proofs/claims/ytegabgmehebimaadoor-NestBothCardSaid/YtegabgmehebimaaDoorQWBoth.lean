/-
  NestBoth, as the interpreter answers it: true, whatever the two lists of tokens are.
  WHAT READS AS THE ARGUMENTS: the statement NestBoth.
-/
import Derived.Test.YtegabgmehebimaaDoorQU
import Derived.Test.YtegabgmehebimaaDoorQV
set_option linter.unusedSimpArgs false
set_option linter.unusedVariables false
namespace Go.Abs
open Go Go.Proofs
set_option maxRecDepth 10000
attribute [local go_sem] exL_seq exL_region exL_cond exL_block exL_scope exL_ret exL_skip exL_exit runRegion runOps stepOp guardA absOp takeOver opd avOf cvOf St.degAt St.put okPV okVal okAV absBin intBin strBin boolBin setBoxes if_true Bool.false_eq_true if_false Option.map_some Option.map_none Option.bind_some Option.bind_none thenO outOf upd List.toList_toArray isOwn steal appArgs inApps AV.deg CV.deg AV.gv AV.isIter absNext some_bne List.length_nil List.length_cons List.filterMap_cons List.filterMap_nil beq_iff_eq List.getElem?_cons_zero List.getElem?_cons_succ Option.getD_some K_hook hookB Bool.false_and Bool.and_false Bool.and_self K_P K_own absCall doCall getBoxes lend back idx dedup AV.ren CV.ren TV.ren AV.ptrs CV.ptrs zipBox AV.flat CV.flat absLoad absStore cellsOfAV setAt newBox markB bldTypes absFieldAddr absField absExtract absAssert noAssert absMkIface ifcOf CV.pv? content pushHead ownT fillCells reps pvs chunks enterSt leave resOf resVars resVar outBoxes lentOnly TV.deg TV.av LK CV.plain CV.noBld nilBin absUn bound List.map_cons List.map_nil List.all_cons List.all_nil List.any_cons List.any_nil List.contains_cons List.contains_nil List.elem_cons List.elem_nil List.cons_append List.nil_append List.append_nil List.flatMap_cons List.flatMap_nil List.zip_cons_cons List.zip_nil_left List.zip_nil_right List.take_succ_cons List.take_zero List.take_nil List.drop_succ_cons List.drop_zero List.drop_nil List.isEmpty_nil List.isEmpty_cons Bool.and_true Bool.true_and Bool.or_true Bool.true_or Bool.or_false Bool.false_or Bool.not_true Bool.not_false Nat.add_zero Nat.zero_add Option.isNone_none Option.isNone_some Option.getD_none true_and and_true not_true_eq_false not_false_eq_true decide_true decide_false Nat.le_refl and_self Bool.not_eq_true Nat.sub_self or_true true_or Option.some.injEq List.length_map List.nil_eq and_false false_and AV.live CV.live CV.liveIn K_keep firstReg Option.orElse_some Option.orElse_none head keepSlots keepBoxes Int.lt_irrefl List.length_append ite_self memOK logOps opKey lentBoxes Key.clash Key.sees Key.writes Nat.lt_irrefl gt_iff_lt nobox_at bot_at false_or or_false beq_self_eq_true Bool.true_beq Bool.false_beq

set_option maxHeartbeats 4000000 in
theorem NestBoth_den (a b : List Tok) (ha : a.length ≤ reachBytes) (hb : b.length ≤ reachBytes) :
    den K 5 [L (a.map Tok.enc), L (b.map Tok.enc)] [] = some (.ret (B true) []) := by
  have oka : lenOk a.length := by unfold lenOk; simp [reachBytes] at ha; omega
  have okb : lenOk b.length := by unfold lenOk; simp [reachBytes] at hb; omega
  have hf := fixed2_den
  have m1 := SmallT_den a 150 oka
  have m2 := SmallT_den b 150 okb
  refine den_run rfl Tryd.func5 rfl Tryd.ntmps5 ⟨by simp, by simp [LK]⟩ ?_
  have hr : Tryd.f5.results = #[.tmp 4] := rfl
  cases h1 : smallT a 150
  · rw [h1] at m1
    simp only [go_sem, Nat.reduceLT, reduceIte, reduceCtorEq, Nat.reduceEqDiff, apply_ite (Option.map (outOf _)), Nat.reduceBEq, Nat.reduceAdd, Nat.reduceSub, Nat.reduceLeDiff, Nat.reduceMul, good_10, good_8, good_11, ev_buildSlice (len := 0) ty_descOf_22 ty_szOf_38 ty_zeroCells_38 ⟨rfl, by decide, by decide⟩, good_15, ev_append ty_appInfo_22, ev_appNew_sl ty_descOf_22, ev_buildSlice (len := 0) ty_descOf_23 ty_szOf_40 ty_zeroCells_40 ⟨rfl, by decide, by decide⟩, ev_append ty_appInfo_23, ev_appNew_sl ty_descOf_23, good_22, good_17, hr, hf, m1]
  cases h2 : smallT b 150
  · rw [h1] at m1
    rw [h2] at m2
    simp only [go_sem, Nat.reduceLT, reduceIte, reduceCtorEq, Nat.reduceEqDiff, apply_ite (Option.map (outOf _)), Nat.reduceBEq, Nat.reduceAdd, Nat.reduceSub, Nat.reduceLeDiff, Nat.reduceMul, good_10, good_8, good_11, ev_buildSlice (len := 0) ty_descOf_22 ty_szOf_38 ty_zeroCells_38 ⟨rfl, by decide, by decide⟩, good_15, ev_append ty_appInfo_22, ev_appNew_sl ty_descOf_22, ev_buildSlice (len := 0) ty_descOf_23 ty_szOf_40 ty_zeroCells_40 ⟨rfl, by decide, by decide⟩, ev_append ty_appInfo_23, ev_appNew_sl ty_descOf_23, good_22, good_17, hr, hf, m1, m2]
  rw [h1] at m1
  rw [h2] at m2
  obtain ⟨n1, _⟩ := smallT_lens h1
  obtain ⟨n2, _⟩ := smallT_lens h2
  have d1 := Parse_den a (by omega) 60
  have d2 := Parse_den b (by omega) 60
  have z60 : (60 : Int).toNat = 60 := rfl
  have e20 : ((20 : Int) != 0) = true := by decide
  have e00 : ((0 : Int) != 0) = false := by decide
  cases h3 : Ne.parse 60 a with
  | none =>
    rw [parse_none (deep := 60) (by decide) (by decide) h3] at d1
    cases h4 : Ne.parse 60 b with
    | none =>
      rw [parse_none (deep := 60) (by decide) (by decide) h4] at d2
      simp only [go_sem, Nat.reduceLT, reduceIte, reduceCtorEq, Nat.reduceEqDiff, apply_ite (Option.map (outOf _)), Nat.reduceBEq, Nat.reduceAdd, Nat.reduceSub, Nat.reduceLeDiff, Nat.reduceMul, good_10, good_8, good_11, ev_buildSlice (len := 0) ty_descOf_22 ty_szOf_38 ty_zeroCells_38 ⟨rfl, by decide, by decide⟩, good_15, ev_append ty_appInfo_22, ev_appNew_sl ty_descOf_22, ev_buildSlice (len := 0) ty_descOf_23 ty_szOf_40 ty_zeroCells_40 ⟨rfl, by decide, by decide⟩, ev_append ty_appInfo_23, ev_appNew_sl ty_descOf_23, good_22, good_17, hr, hf, m1, m2, d1, d2, e20, e00, TV.flat]
    | some ws =>
      rw [parse_some (deep := 60) (by decide) (by decide) h4] at d2
      simp only [go_sem, Nat.reduceLT, reduceIte, reduceCtorEq, Nat.reduceEqDiff, apply_ite (Option.map (outOf _)), Nat.reduceBEq, Nat.reduceAdd, Nat.reduceSub, Nat.reduceLeDiff, Nat.reduceMul, good_10, good_8, good_11, ev_buildSlice (len := 0) ty_descOf_22 ty_szOf_38 ty_zeroCells_38 ⟨rfl, by decide, by decide⟩, good_15, ev_append ty_appInfo_22, ev_appNew_sl ty_descOf_22, ev_buildSlice (len := 0) ty_descOf_23 ty_szOf_40 ty_zeroCells_40 ⟨rfl, by decide, by decide⟩, ev_append ty_appInfo_23, ev_appNew_sl ty_descOf_23, good_22, good_17, hr, hf, m1, m2, d1, d2, e20, e00, TV.flat]
  | some vs =>
    rw [parse_some (deep := 60) (by decide) (by decide) h3] at d1
    obtain ⟨g1, p1, s1, _⟩ := Ne.parse_good h3
    cases h4 : Ne.parse 60 b with
    | none =>
      rw [parse_none (deep := 60) (by decide) (by decide) h4] at d2
      simp only [go_sem, Nat.reduceLT, reduceIte, reduceCtorEq, Nat.reduceEqDiff, apply_ite (Option.map (outOf _)), Nat.reduceBEq, Nat.reduceAdd, Nat.reduceSub, Nat.reduceLeDiff, Nat.reduceMul, good_10, good_8, good_11, ev_buildSlice (len := 0) ty_descOf_22 ty_szOf_38 ty_zeroCells_38 ⟨rfl, by decide, by decide⟩, good_15, ev_append ty_appInfo_22, ev_appNew_sl ty_descOf_22, ev_buildSlice (len := 0) ty_descOf_23 ty_szOf_40 ty_zeroCells_40 ⟨rfl, by decide, by decide⟩, ev_append ty_appInfo_23, ev_appNew_sl ty_descOf_23, good_22, good_17, hr, hf, m1, m2, d1, d2, e20, e00, TV.flat]
    | some ws =>
      rw [parse_some (deep := 60) (by decide) (by decide) h4] at d2
      obtain ⟨g2, p2, s2, _⟩ := Ne.parse_good h4
      have fl := Ne.flat_size vs
      have l1 := Ne.length_size vs
      have l2 := Ne.length_size ws
      have hap : Ne.parse 60 (Ne.flat vs ++ b) = some (vs ++ ws) := by rw [Ne.parse_app g1 p1 b, h4]; rfl
      have d3 := Parse_den (Ne.flat vs ++ b) (by rw [List.length_append]; omega) 60
      rw [parse_some (deep := 60) (by decide) (by decide) hap] at d3
      obtain ⟨_, _, s3, _⟩ := Ne.parse_good hap
      rw [List.length_append] at s3
      have d4 := Flat_den vs (by omega)
      have d5 := VSame_den (vs ++ ws) (by omega) (vs ++ ws) (by omega)
      unfold VSameDen at d5
      rw [same_refl] at d5
      have d6 := Depth_den (vs ++ ws) (by omega)
      have d7 := Depth_den vs (by omega)
      have d8 := Depth_den ws (by omega)
      rw [Ne.depth_app] at d6
      have y1 : (Ne.flat vs).length < appLim := by unfold appLim; omega
      have y2 : (Ne.flat vs).length + b.length < appLim := by unfold appLim; omega
      have y3 : vs.length < appLim := by unfold appLim; omega
      have y4 : vs.length + ws.length < appLim := by unfold appLim; omega
      have q1 : (Ne.flat vs).map Tok.enc ++ b.map Tok.enc = (Ne.flat vs ++ b).map Tok.enc := by simp
      have q2 : encL vs ++ encL ws = encL (vs ++ ws) := (encL_app vs ws).symm
      have v1 := lens_valsK vs
      have v2 := lens_valsK ws
      simp only [go_sem, Nat.reduceLT, reduceIte, reduceCtorEq, Nat.reduceEqDiff, apply_ite (Option.map (outOf _)), Nat.reduceBEq, Nat.reduceAdd, Nat.reduceSub, Nat.reduceLeDiff, Nat.reduceMul, good_10, good_8, good_11, ev_buildSlice (len := 0) ty_descOf_22 ty_szOf_38 ty_zeroCells_38 ⟨rfl, by decide, by decide⟩, good_15, ev_append ty_appInfo_22, ev_appNew_sl ty_descOf_22, ev_buildSlice (len := 0) ty_descOf_23 ty_szOf_40 ty_zeroCells_40 ⟨rfl, by decide, by decide⟩, ev_append ty_appInfo_23, ev_appNew_sl ty_descOf_23, good_22, good_17, hr, hf, m1, m2, d1, d2, d3, d4, d5, d6, d7, d8, e20, e00, TV.flat, y1, y2, y3, y4, q1, q2, v1, v2, lens_nil, lens_toksK, encL_len, max_two, max_nat]
end Go.Abs

namespace Go.Abs
open Go Go.Proofs
set_option maxRecDepth 100000
theorem NestBoth_args (pss : List (List PV)) (h : All2 (fun t p => ∃ n, TyP Tryd.prog n t p) Tryd.f5.params.toList pss) :
    den K 5 (List.zipWith (argOf Tryd.prog) Tryd.f5.params.toList pss) [] = some (.ret (.c (.pv (.bool true))) []) := by
  have hp : Tryd.f5.params.toList = [22, 22] := rfl
  rw [hp] at h ⊢
  refine args2 h fun n m p q h1 h2 e => ?_
  subst e
  obtain ⟨a, rfl, ha, _⟩ := ty_toks h1
  obtain ⟨b, rfl, hb, _⟩ := ty_toks h2
  simp only [List.zipWith_cons_cons, List.zipWith_nil_left, argOf_toks]
  exact NestBoth_den a b ha hb
end Go.Abs
