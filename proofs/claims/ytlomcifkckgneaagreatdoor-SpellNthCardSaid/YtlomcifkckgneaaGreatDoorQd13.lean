/-
  SpellNth, as the interpreter answers it: true, whatever the numbers are.
  WHAT READS AS THE ARGUMENTS: the statement SpellNth.
-/
import Derived.Lib.ItoaLen
import Derived.Test.YtlomcifkckgneaaGreatDoorQd6
import Derived.Test.YtlomcifkckgneaaGreatDoorQd11
import Derived.Test.YtlomcifkckgneaaGreatDoorQd12
set_option linter.unusedSimpArgs false
set_option linter.unusedVariables false
namespace Go.Abs
open Go Go.Proofs
set_option maxRecDepth 10000
attribute [local go_sem] exL_seq exL_region exL_cond exL_block exL_scope exL_ret exL_skip exL_exit runRegion runOps stepOp guardA absOp takeOver opd avOf cvOf St.degAt St.put okPV okVal okAV absBin intBin strBin boolBin setBoxes if_true Bool.false_eq_true if_false Option.map_some Option.map_none Option.bind_some Option.bind_none thenO outOf upd List.toList_toArray isOwn steal appArgs mvB fullAt absFull inApps AV.deg CV.deg AV.gv AV.isIter absNext some_bne some_beqN List.length_nil List.length_cons List.filterMap_cons List.filterMap_nil beq_iff_eq List.getElem?_cons_zero List.getElem?_cons_succ Option.getD_some K_hook hookB Bool.false_and Bool.and_false Bool.and_self K_P K_own absCall doCall getBoxes lend back idx dedup AV.ren CV.ren TV.ren AV.ptrs CV.ptrs zipBox AV.flat CV.flat absLoad absStore cellsOfAV setAt newBox markB bldTypes absFieldAddr absField absExtract absAssert noAssert absMkIface ifcOf CV.pv? content pushHead ownT fillCells reps pvs chunks enterSt leave resOf resVars resVar outBoxes lentOnly TV.deg TV.av LK CV.plain CV.noBld nilBin absUn bound List.map_cons List.map_nil List.all_cons List.all_nil List.any_cons List.any_nil List.contains_cons List.contains_nil List.elem_cons List.elem_nil List.cons_append List.nil_append List.append_nil List.flatMap_cons List.flatMap_nil List.zip_cons_cons List.zip_nil_left List.zip_nil_right List.take_succ_cons List.take_zero List.take_nil List.drop_succ_cons List.drop_zero List.drop_nil List.isEmpty_nil List.isEmpty_cons Bool.and_true Bool.true_and Bool.or_true Bool.true_or Bool.or_false Bool.false_or Bool.not_true Bool.not_false Nat.add_zero Nat.zero_add Option.isNone_none Option.isNone_some Option.getD_none true_and and_true not_true_eq_false not_false_eq_true decide_true decide_false Nat.le_refl and_self Bool.not_eq_true Nat.sub_self or_true true_or Option.some.injEq List.length_map List.nil_eq and_false false_and AV.live CV.live CV.liveIn K_keep firstReg Option.orElse_some Option.orElse_none head keepSlots keepBoxes Int.lt_irrefl List.length_append ite_self memOK logOps opKey lentBoxes Key.clash Key.sees Key.writes Nat.lt_irrefl gt_iff_lt nobox_at bot_at false_or or_false beq_self_eq_true Bool.true_beq Bool.false_beq
theorem nthS_short {a b : Int} (ha : Sl.few a) (hb : Sl.few b) : (nthS a b).length ≤ 1000 := by
  have h1 := Lib.itoa_length_le a (by have := ha.1; omega) (by have := ha.2; omega)
  have h2 := Lib.itoa_length_le b (by have := hb.1; omega) (by have := hb.2; omega)
  unfold nthS
  rw [List.length_append]
  split
  all_goals split
  all_goals try split
  all_goals simp
  all_goals omega
set_option maxHeartbeats 8000000 in
theorem SpellNth_den (a b : Int) (ha : I64 a) (hb : I64 b) : den K 3 [I a, I b] [] = some (.ret (B true) []) := by
  have hr : Tryz.f3.results = #[.tmp 4] := rfl
  have hf := fixed5_den
  by_cases h1 : a < -9999
  · have e1 : decide (a < -9999) = true := decide_eq_true h1
    refine den_run rfl rfl Tryz.func3 rfl Tryz.ntmps3 ⟨by simp, by simp [LK]⟩ ?_
    simp only [go_sem, Nat.reduceLT, reduceIte, reduceCtorEq, Nat.reduceEqDiff, apply_ite (Option.map (outOf _)), Nat.reduceBEq, Nat.reduceAdd, Nat.reduceSub, Nat.reduceLeDiff, Nat.reduceMul, good_10, good_12, good_11, good_13, hr, hf, e1]
  have e1 : decide (a < -9999) = false := decide_eq_false h1
  by_cases h2 : 9999 < a
  · have e2 : decide ((9999 : Int) < a) = true := decide_eq_true h2
    refine den_run rfl rfl Tryz.func3 rfl Tryz.ntmps3 ⟨by simp, by simp [LK]⟩ ?_
    simp only [go_sem, Nat.reduceLT, reduceIte, reduceCtorEq, Nat.reduceEqDiff, apply_ite (Option.map (outOf _)), Nat.reduceBEq, Nat.reduceAdd, Nat.reduceSub, Nat.reduceLeDiff, Nat.reduceMul, good_10, good_12, good_11, good_13, hr, hf, e1, e2]
  have e2 : decide ((9999 : Int) < a) = false := decide_eq_false h2
  by_cases h3 : b < -9999
  · have e3 : decide (b < -9999) = true := decide_eq_true h3
    refine den_run rfl rfl Tryz.func3 rfl Tryz.ntmps3 ⟨by simp, by simp [LK]⟩ ?_
    simp only [go_sem, Nat.reduceLT, reduceIte, reduceCtorEq, Nat.reduceEqDiff, apply_ite (Option.map (outOf _)), Nat.reduceBEq, Nat.reduceAdd, Nat.reduceSub, Nat.reduceLeDiff, Nat.reduceMul, good_10, good_12, good_11, good_13, hr, hf, e1, e2, e3]
  have e3 : decide (b < -9999) = false := decide_eq_false h3
  by_cases h4 : 9999 < b
  · have e4 : decide ((9999 : Int) < b) = true := decide_eq_true h4
    refine den_run rfl rfl Tryz.func3 rfl Tryz.ntmps3 ⟨by simp, by simp [LK]⟩ ?_
    simp only [go_sem, Nat.reduceLT, reduceIte, reduceCtorEq, Nat.reduceEqDiff, apply_ite (Option.map (outOf _)), Nat.reduceBEq, Nat.reduceAdd, Nat.reduceSub, Nat.reduceLeDiff, Nat.reduceMul, good_10, good_12, good_11, good_13, hr, hf, e1, e2, e3, e4]
  have e4 : decide ((9999 : Int) < b) = false := decide_eq_false h4
  have fa : Sl.few a := ⟨by omega, by omega⟩
  have fb : Sl.few b := ⟨by omega, by omega⟩
  have hn := Nth_den a b ha hb
  have hlen := nthS_short fa fb
  have hal := all_count (nthS a b)
  have hrd := ReadV3_den (nthS a b) (by omega) (by omega)
  have hv := Sl.read_nth fa fb
  unfold readAV3 at hrd
  rw [hv] at hrd
  simp only at hrd
  obtain ⟨hsz, hts⟩ := readS_sz hv (by omega)
  have hll := Ne.length_size (Sl.nthV a b)
  have hnth := NthS_den (Sl.nthV a b) (by omega) hts
  rw [Sl.nth_back fa fb] at hnth
  unfold nthA at hnth
  simp only at hnth
  have q0 : ((0 : Int) == 0) = true := rfl
  refine den_run rfl rfl Tryz.func3 rfl Tryz.ntmps3 ⟨by simp, by simp [LK]⟩ ?_
  simp only [go_sem, Nat.reduceLT, reduceIte, reduceCtorEq, Nat.reduceEqDiff, apply_ite (Option.map (outOf _)), Nat.reduceBEq, Nat.reduceAdd, Nat.reduceSub, Nat.reduceLeDiff, Nat.reduceMul, good_10, good_12, good_11, good_13, hr, hf, e1, e2, e3, e4, hn, hrd, hnth, q0, TV.flat]
end Go.Abs
namespace Go.Abs
open Go Go.Proofs
set_option maxRecDepth 100000
theorem SpellNth_args (pss : List (List PV)) (h : All2 (fun t p => ∃ n, TyP Tryz.prog n t p) Tryz.f3.params.toList pss) :
    den K 3 (List.zipWith (argOf Tryz.prog) Tryz.f3.params.toList pss) [] = some (.ret (.c (.pv (.bool true))) []) := by
  have hp : Tryz.f3.params.toList = [3, 3] := rfl
  rw [hp] at h ⊢
  refine args2 h fun n m p q h1 h2 e => ?_
  subst e
  obtain ⟨a, rfl, ha⟩ := TyP_int ty_descOf_3 h1
  obtain ⟨b, rfl, hb⟩ := TyP_int ty_descOf_3 h2
  simp only [List.zipWith_cons_cons, List.zipWith_nil_left, argOf_num]
  exact SpellNth_den a b (wf_I64 ha) (wf_I64 hb)
end Go.Abs
