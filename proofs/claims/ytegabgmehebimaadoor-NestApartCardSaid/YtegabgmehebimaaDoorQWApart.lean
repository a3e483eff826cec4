/-
  NestApart, as the interpreter answers it: true, whatever the two lists of values are.
  WHAT READS AS THE ARGUMENTS: the statement NestApart.
-/
import Derived.Test.YtegabgmehebimaaDoorQU
import Derived.Test.YtegabgmehebimaaDoorQV
set_option linter.unusedSimpArgs false
set_option linter.unusedVariables false
namespace Go.Abs
open Go Go.Proofs
set_option maxRecDepth 10000
attribute [local go_sem] exL_seq exL_region exL_cond exL_block exL_scope exL_ret exL_skip exL_exit runRegion runOps stepOp guardA absOp takeOver opd avOf cvOf St.degAt St.put okPV okVal okAV absBin intBin strBin boolBin setBoxes if_true Bool.false_eq_true if_false Option.map_some Option.map_none Option.bind_some Option.bind_none thenO outOf upd List.toList_toArray isOwn steal appArgs inApps AV.deg CV.deg AV.gv AV.isIter absNext some_bne List.length_nil List.length_cons List.filterMap_cons List.filterMap_nil beq_iff_eq List.getElem?_cons_zero List.getElem?_cons_succ Option.getD_some K_hook hookB Bool.false_and Bool.and_false Bool.and_self K_P K_own absCall doCall getBoxes lend back idx dedup AV.ren CV.ren TV.ren AV.ptrs CV.ptrs zipBox AV.flat CV.flat absLoad absStore cellsOfAV setAt newBox markB bldTypes absFieldAddr absField absExtract absAssert noAssert absMkIface ifcOf CV.pv? content pushHead ownT fillCells reps pvs chunks enterSt leave resOf resVars resVar outBoxes lentOnly TV.deg TV.av LK CV.plain CV.noBld nilBin absUn bound List.map_cons List.map_nil List.all_cons List.all_nil List.any_cons List.any_nil List.contains_cons List.contains_nil List.elem_cons List.elem_nil List.cons_append List.nil_append List.append_nil List.flatMap_cons List.flatMap_nil List.zip_cons_cons List.zip_nil_left List.zip_nil_right List.take_succ_cons List.take_zero List.take_nil List.drop_succ_cons List.drop_zero List.drop_nil List.isEmpty_nil List.isEmpty_cons Bool.and_true Bool.true_and Bool.or_true Bool.true_or Bool.or_false Bool.false_or Bool.not_true Bool.not_false Nat.add_zero Nat.zero_add Option.isNone_none Option.isNone_some Option.getD_none true_and and_true not_true_eq_false not_false_eq_true decide_true decide_false Nat.le_refl and_self Bool.not_eq_true Nat.sub_self or_true true_or Option.some.injEq List.length_map List.nil_eq and_false false_and AV.live CV.live CV.liveIn K_keep firstReg Option.orElse_some Option.orElse_none head keepSlots keepBoxes Int.lt_irrefl List.length_append ite_self memOK logOps opKey lentBoxes Key.clash Key.sees Key.writes Nat.lt_irrefl gt_iff_lt nobox_at bot_at false_or or_false beq_self_eq_true Bool.true_beq Bool.false_beq

theorem same_comm (a b : List Val) : Ne.same a b = Ne.same b a := by
  rw [Bool.eq_iff_iff, Ne.same_iff, Ne.same_iff]
  exact eq_comm

theorem same_flat {a b : List Val} (ha : Ne.may 60 Tk.may a = true) (hb : Ne.may 60 Tk.may b = true) : Ne.same a b = decide (Ne.flat a = Ne.flat b) := by
  obtain ⟨_, ga, da⟩ := Ne.may_iff.1 ha
  obtain ⟨_, gb, db⟩ := Ne.may_iff.1 hb
  rw [Bool.eq_iff_iff, Ne.same_iff, decide_eq_true_eq]
  constructor
  · intro h; rw [h]
  · intro h
    have pa := Ne.parse_flat ga 60
    have pb := Ne.parse_flat gb 60
    rw [if_pos da] at pa
    rw [if_pos db, ← h, pa] at pb
    exact Option.some.inj pb

set_option maxHeartbeats 4000000 in
theorem NestApart_den (a b : List Val) (ha : Ne.allT (fun t => I64 t.n) a) (hb : Ne.allT (fun t => I64 t.n) b) :
    den K 7 [L (encL a), L (encL b)] [] = some (.ret (B true) []) := by
  have hf := fixed2_den
  have m1 := SmallV_den a 200 (by decide) (by decide)
  have m2 := SmallV_den b 200 (by decide) (by decide)
  refine den_run rfl Tryd.func7 rfl Tryd.ntmps7 ⟨by simp, by simp [LK]⟩ ?_
  have hr : Tryd.f7.results = #[.tmp 4] := rfl
  cases h1 : decide (0 ≤ Ne.few 100 200 a)
  · rw [h1] at m1
    simp only [go_sem, Nat.reduceLT, reduceIte, reduceCtorEq, Nat.reduceEqDiff, apply_ite (Option.map (outOf _)), Nat.reduceBEq, Nat.reduceAdd, Nat.reduceSub, Nat.reduceLeDiff, Nat.reduceMul, good_10, good_9, good_20, good_22, ty_isBoolT_4, good_15, good_14, hr, hf, m1]
  cases h2 : decide (0 ≤ Ne.few 100 200 b)
  · rw [h1] at m1
    rw [h2] at m2
    simp only [go_sem, Nat.reduceLT, reduceIte, reduceCtorEq, Nat.reduceEqDiff, apply_ite (Option.map (outOf _)), Nat.reduceBEq, Nat.reduceAdd, Nat.reduceSub, Nat.reduceLeDiff, Nat.reduceMul, good_10, good_9, good_20, good_22, ty_isBoolT_4, good_15, good_14, hr, hf, m1, m2]
  rw [h1] at m1
  rw [h2] at m2
  obtain ⟨n1, n2⟩ := few_facts (of_decide_eq_true h1)
  obtain ⟨n3, n4⟩ := few_facts (of_decide_eq_true h2)
  have k1 := May2_den a (by omega) (flat_ok ha n2)
  have k2 := May2_den b (by omega) (flat_ok hb n4)
  cases h3 : Ne.may 60 Tk.may a
  · rw [h3] at k1
    simp only [go_sem, Nat.reduceLT, reduceIte, reduceCtorEq, Nat.reduceEqDiff, apply_ite (Option.map (outOf _)), Nat.reduceBEq, Nat.reduceAdd, Nat.reduceSub, Nat.reduceLeDiff, Nat.reduceMul, good_10, good_9, good_20, good_22, ty_isBoolT_4, good_15, good_14, hr, hf, m1, m2, k1]
  cases h4 : Ne.may 60 Tk.may b
  · rw [h3] at k1
    rw [h4] at k2
    simp only [go_sem, Nat.reduceLT, reduceIte, reduceCtorEq, Nat.reduceEqDiff, apply_ite (Option.map (outOf _)), Nat.reduceBEq, Nat.reduceAdd, Nat.reduceSub, Nat.reduceLeDiff, Nat.reduceMul, good_10, good_9, good_20, good_22, ty_isBoolT_4, good_15, good_14, hr, hf, m1, m2, k1, k2]
  have hsf := same_flat h3 h4
  rw [h3] at k1
  rw [h4] at k2
  have f1 := Ne.flat_size a
  have f2 := Ne.flat_size b
  have d1 := VSame_den a (by omega) b (by omega)
  have d2 := VSame_den b (by omega) a (by omega)
  have d3 := VSame_den a (by omega) a (by omega)
  unfold VSameDen at d1 d2 d3
  rw [same_comm b a] at d2
  rw [same_refl] at d3
  have d4 := Flat_den a (by omega)
  have d5 := Flat_den b (by omega)
  have d6 := Same_den (Ne.flat a) (Ne.flat b) (by unfold lenOk; omega) (by unfold lenOk; omega)
  rw [← hsf] at d6
  cases h5 : Ne.same a b <;> rw [h5] at d1 d2 d6 <;> simp only [go_sem, Nat.reduceLT, reduceIte, reduceCtorEq, Nat.reduceEqDiff, apply_ite (Option.map (outOf _)), Nat.reduceBEq, Nat.reduceAdd, Nat.reduceSub, Nat.reduceLeDiff, Nat.reduceMul, good_10, good_9, good_20, good_22, ty_isBoolT_4, good_15, good_14, hr, hf, m1, m2, k1, k2, d1, d2, d3, d4, d5, d6]
end Go.Abs

namespace Go.Abs
open Go Go.Proofs
set_option maxRecDepth 100000
theorem NestApart_args (pss : List (List PV)) (h : All2 (fun t p => ∃ n, TyP Tryd.prog n t p) Tryd.f7.params.toList pss) :
    den K 7 (List.zipWith (argOf Tryd.prog) Tryd.f7.params.toList pss) [] = some (.ret (.c (.pv (.bool true))) []) := by
  have hp : Tryd.f7.params.toList = [23, 23] := rfl
  rw [hp] at h ⊢
  refine args2 h fun n m p q h1 h2 e => ?_
  subst e
  obtain ⟨a, rfl, ha⟩ := ty_vals h1
  obtain ⟨b, rfl, hb⟩ := ty_vals h2
  simp only [List.zipWith_cons_cons, List.zipWith_nil_left, argOf_vals]
  exact NestApart_den a b ha hb
end Go.Abs
