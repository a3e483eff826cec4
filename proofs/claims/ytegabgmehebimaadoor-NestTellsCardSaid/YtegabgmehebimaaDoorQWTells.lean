/-
  NestTells, as the interpreter answers it: true, whatever the tokens, the depth and the values are.
  WHAT READS AS THE ARGUMENTS: the statement NestTells.
-/
import Derived.Test.YtegabgmehebimaaDoorQU
import Derived.Test.YtegabgmehebimaaDoorQV
set_option linter.unusedSimpArgs false
set_option linter.unusedVariables false
namespace Go.Abs
open Go Go.Proofs
set_option maxRecDepth 10000
attribute [local go_sem] exL_seq exL_region exL_cond exL_block exL_scope exL_ret exL_skip exL_exit runRegion runOps stepOp guardA absOp takeOver opd avOf cvOf St.degAt St.put okPV okVal okAV absBin intBin strBin boolBin setBoxes if_true Bool.false_eq_true if_false Option.map_some Option.map_none Option.bind_some Option.bind_none thenO outOf upd List.toList_toArray isOwn steal appArgs inApps AV.deg CV.deg AV.gv AV.isIter absNext some_bne List.length_nil List.length_cons List.filterMap_cons List.filterMap_nil beq_iff_eq List.getElem?_cons_zero List.getElem?_cons_succ Option.getD_some K_hook hookB Bool.false_and Bool.and_false Bool.and_self K_P K_own absCall doCall getBoxes lend back idx dedup AV.ren CV.ren TV.ren AV.ptrs CV.ptrs zipBox AV.flat CV.flat absLoad absStore cellsOfAV setAt newBox markB bldTypes absFieldAddr absField absExtract absAssert noAssert absMkIface ifcOf CV.pv? content pushHead ownT fillCells reps pvs chunks enterSt leave resOf resVars resVar outBoxes lentOnly TV.deg TV.av LK CV.plain CV.noBld nilBin absUn bound List.map_cons List.map_nil List.all_cons List.all_nil List.any_cons List.any_nil List.contains_cons List.contains_nil List.elem_cons List.elem_nil List.cons_append List.nil_append List.append_nil List.flatMap_cons List.flatMap_nil List.zip_cons_cons List.zip_nil_left List.zip_nil_right List.take_succ_cons List.take_zero List.take_nil List.drop_succ_cons List.drop_zero List.drop_nil List.isEmpty_nil List.isEmpty_cons Bool.and_true Bool.true_and Bool.or_true Bool.true_or Bool.or_false Bool.false_or Bool.not_true Bool.not_false Nat.add_zero Nat.zero_add Option.isNone_none Option.isNone_some Option.getD_none true_and and_true not_true_eq_false not_false_eq_true decide_true decide_false Nat.le_refl and_self Bool.not_eq_true Nat.sub_self or_true true_or Option.some.injEq List.length_map List.nil_eq and_false false_and AV.live CV.live CV.liveIn K_keep firstReg Option.orElse_some Option.orElse_none head keepSlots keepBoxes Int.lt_irrefl List.length_append ite_self memOK logOps opKey lentBoxes Key.clash Key.sees Key.writes Nat.lt_irrefl gt_iff_lt nobox_at bot_at false_or or_false beq_self_eq_true Bool.true_beq Bool.false_beq

set_option maxHeartbeats 4000000 in
theorem NestTells_den (l : List Tok) (deep : Int) (v : List Val) (hll : l.length ≤ reachBytes) (hv : Ne.allT (fun t => I64 t.n) v) :
    den K 3 [L (l.map Tok.enc), I deep, L (encL v)] [] = some (.ret (B true) []) := by
  have hok : lenOk l.length := by unfold lenOk; simp [reachBytes] at hll; omega
  have hf := fixed2_den
  have hs := SmallT_den l 300 hok
  have hm := SmallV_den v 200 (by decide) (by decide)
  refine den_run rfl Tryd.func3 rfl Tryd.ntmps3 ⟨by simp, by simp [LK]⟩ ?_
  have hr : Tryd.f3.results = #[.tmp 6] := rfl
  cases h1 : smallT l 300
  · rw [h1] at hs
    simp only [go_sem, Nat.reduceLT, reduceIte, reduceCtorEq, Nat.reduceEqDiff, apply_ite (Option.map (outOf _)), Nat.reduceBEq, Nat.reduceAdd, Nat.reduceSub, Nat.reduceLeDiff, Nat.reduceMul, good_8, good_9, good_10, good_11, good_12, good_13, good_15, good_16, good_14, good_17, good_18, good_19, good_20, ty_isBoolT_4, hr, hf, hs]
  cases h2 : decide (0 ≤ Ne.few 100 200 v)
  · rw [h1] at hs
    rw [h2] at hm
    simp only [go_sem, Nat.reduceLT, reduceIte, reduceCtorEq, Nat.reduceEqDiff, apply_ite (Option.map (outOf _)), Nat.reduceBEq, Nat.reduceAdd, Nat.reduceSub, Nat.reduceLeDiff, Nat.reduceMul, good_8, good_9, good_10, good_11, good_12, good_13, good_15, good_16, good_14, good_17, good_18, good_19, good_20, ty_isBoolT_4, hr, hf, hs, hm]
  rw [h1] at hs
  rw [h2] at hm
  obtain ⟨n1, n2⟩ := smallT_lens h1
  obtain ⟨n3, n4⟩ := few_facts (of_decide_eq_true h2)
  have hl6 : l.length ≤ 1000000 := by omega
  have hv6 : Ne.size v ≤ 1000000 := by omega
  have hv4 : Ne.size v ≤ 400000 := by omega
  have hfo := flat_ok hv n4
  have hfl := Ne.flat_size v
  have d1 := Parse_den l hl6 deep
  have d2 := Parse2_den l hl6 deep
  have d3 := Flat_den v hv6
  have d4 := Flat2_den v hv6
  have d5 := Same_den (Ne.flat v) (Ne.flat v) (by unfold lenOk; omega) (by unfold lenOk; omega)
  rw [decide_eq_true rfl] at d5
  have d6 := Depth_den v hv6
  have d7 := Depth2_den v hv6
  have d8 := MayV_den v hv4 hfo
  have d9 := May2_den v hv4 hfo
  rcases parse_cases deep l hl6 with ⟨vs, _, _, _, hsz, e1, e2⟩ | ⟨e, _, he, e1, e2⟩
  · have d0 := VSame2_den vs (by omega) vs (by omega)
    unfold VSame2Den at d0
    rw [same_refl] at d0
    rw [e1] at d1
    rw [e2] at d2
    simp only [go_sem, Nat.reduceLT, reduceIte, reduceCtorEq, Nat.reduceEqDiff, apply_ite (Option.map (outOf _)), Nat.reduceBEq, Nat.reduceAdd, Nat.reduceSub, Nat.reduceLeDiff, Nat.reduceMul, good_8, good_9, good_10, good_11, good_12, good_13, good_15, good_16, good_14, good_17, good_18, good_19, good_20, ty_isBoolT_4, hr, hf, hs, hm, d0, d1, d2, d3, d4, d5, d6, d7, d8, d9, TV.flat]
  · have d0 := same2_nil
    rw [e1] at d1
    rw [e2] at d2
    simp only [go_sem, Nat.reduceLT, reduceIte, reduceCtorEq, Nat.reduceEqDiff, apply_ite (Option.map (outOf _)), Nat.reduceBEq, Nat.reduceAdd, Nat.reduceSub, Nat.reduceLeDiff, Nat.reduceMul, good_8, good_9, good_10, good_11, good_12, good_13, good_15, good_16, good_14, good_17, good_18, good_19, good_20, ty_isBoolT_4, hr, hf, hs, hm, d0, d1, d2, d3, d4, d5, d6, d7, d8, d9, TV.flat]
end Go.Abs

namespace Go.Abs
open Go Go.Proofs
set_option maxRecDepth 100000
theorem NestTells_args (pss : List (List PV)) (h : All2 (fun t p => ∃ n, TyP Tryd.prog n t p) Tryd.f3.params.toList pss) :
    den K 3 (List.zipWith (argOf Tryd.prog) Tryd.f3.params.toList pss) [] = some (.ret (.c (.pv (.bool true))) []) := by
  have hp : Tryd.f3.params.toList = [22, 3, 23] := rfl
  rw [hp] at h ⊢
  refine args3 h fun n m k p q r h1 h2 h3 e => ?_
  subst e
  obtain ⟨l, rfl, hll, hl⟩ := ty_toks h1
  obtain ⟨d, rfl, hd⟩ := TyP_int ty_descOf_3 h2
  obtain ⟨v, rfl, hv⟩ := ty_vals h3
  simp only [List.zipWith_cons_cons, List.zipWith_nil_left, argOf_toks, argOf_num, argOf_vals]
  exact NestTells_den l d v hll hv
end Go.Abs
