/-
  WHAT THE FUNCTIONS COMPUTE, layer 4, the document's reader of selectors: an nth.
-/
import Derived.Test.YtmcjabhnmealgaaDoorQSpecL3
set_option linter.unusedSimpArgs false
set_option linter.unusedVariables false
namespace Go.Abs
open Go Go.Proofs
set_option maxRecDepth 10000
attribute [local go_sem] exL_seq exL_region exL_cond exL_block exL_scope exL_ret exL_skip exL_exit runRegion runOps stepOp guardA absOp takeOver opd avOf cvOf St.degAt St.put okPV okVal okAV absBin intBin strBin boolBin setBoxes if_true Bool.false_eq_true if_false Option.map_some Option.map_none Option.bind_some Option.bind_none thenO outOf upd List.toList_toArray isOwn steal appArgs inApps AV.deg CV.deg AV.gv AV.isIter absNext some_bne List.length_nil List.length_cons List.filterMap_cons List.filterMap_nil beq_iff_eq List.getElem?_cons_zero List.getElem?_cons_succ Option.getD_some K_hook hookB Bool.false_and Bool.and_false Bool.and_self K_P K_own absCall doCall getBoxes lend back idx dedup AV.ren CV.ren TV.ren AV.ptrs CV.ptrs zipBox AV.flat CV.flat absLoad absStore cellsOfAV setAt newBox markB bldTypes absFieldAddr absField absExtract absAssert noAssert absMkIface ifcOf CV.pv? content pushHead ownT fillCells reps pvs chunks enterSt leave resOf resVars resVar outBoxes lentOnly TV.deg TV.av LK CV.plain CV.noBld nilBin absUn bound List.map_cons List.map_nil List.all_cons List.all_nil List.any_cons List.any_nil List.contains_cons List.contains_nil List.elem_cons List.elem_nil List.cons_append List.nil_append List.append_nil List.flatMap_cons List.flatMap_nil List.zip_cons_cons List.zip_nil_left List.zip_nil_right List.take_succ_cons List.take_zero List.take_nil List.drop_succ_cons List.drop_zero List.drop_nil List.isEmpty_nil List.isEmpty_cons Bool.and_true Bool.true_and Bool.or_true Bool.true_or Bool.or_false Bool.false_or Bool.not_true Bool.not_false Nat.add_zero Nat.zero_add Option.isNone_none Option.isNone_some Option.getD_none true_and and_true not_true_eq_false not_false_eq_true decide_true decide_false Nat.le_refl and_self Bool.not_eq_true Nat.sub_self or_true true_or Option.some.injEq List.length_map List.nil_eq and_false false_and AV.live CV.live CV.liveIn K_keep firstReg Option.orElse_some Option.orElse_none head keepSlots keepBoxes Int.lt_irrefl List.length_append ite_self memOK logOps opKey lentBoxes Key.clash Key.sees Key.writes Nat.lt_irrefl gt_iff_lt nobox_at bot_at false_or or_false beq_self_eq_true Bool.true_beq Bool.false_beq

/-! ### numbers -/

/-- what the reader's nth answers -/
def nthG (R : List Val) : Int × Int × Bool :=
  if R.length = 1 ∧ (tk0 1 R).kind = 1 then (if (tk0 1 R).text = [111, 100, 100] then (2, 1, true) else if (tk0 1 R).text = [101, 118, 101, 110] then (2, 0, true) else if (tk0 1 R).text = [110] then (1, 0, true) else (0, 0, false))
  else if (tk0 5 R).kind = 0 then (0, 0, false)
  else if R.length = 1 ∧ (tk0 5 R).text = [] then (0, (tk0 5 R).n, true)
  else if R.length = 1 ∧ (tk0 5 R).text = [110] then ((tk0 5 R).n, 0, true)
  else if R.length = 1 ∧ 2 < (tk0 5 R).text.length ∧ (tk0 5 R).text.take 2 = [110, 45] ∧ 0 ≤ Sl.digits ((tk0 5 R).text.drop 2) then ((tk0 5 R).n, -Sl.digits ((tk0 5 R).text.drop 2), true)
  else if R.length = 3 ∧ (tk0 5 R).text = [110] ∧ (Sl.sign [43] (R.drop 1)).isSome then ((tk0 5 R).n, (tk0 5 (R.drop 2)).n, (tk0 5 (R.drop 2)).kind == 5 && ((tk0 5 (R.drop 2)).text == [] && decide (0 ≤ (tk0 5 (R.drop 2)).n)))
  else (0, 0, false)

abbrev nthRes (x : Int × Int × Bool) : AV := .tup [.agg [.pv (.int .i64 x.1), .pv (.int .i64 x.2.1)], .c (.pv (.bool x.2.2))]

set_option maxHeartbeats 8000000 in
theorem nth_den (l : List Val) (hl : l.length ≤ 100000000) : den K 71 [L (encL l)] [] = some (.ret (nthRes (nthG (Sl.trim l))) []) := by
  have hr : Tryd.f71.results = #[.cell 2 120, .tmp 3] := rfl
  have htrim := Trim_den l hl
  have hR : (Sl.trim l).length ≤ 100000000 := Nat.le_trans (Sl.trim_len l) hl
  generalize Sl.trim l = R at htrim hR
  have t1 := tok0_den R 0 false 1 hR
  have t5 := tok0_den R 0 false 5 hR
  rw [List.drop_zero] at t1 t5
  have t5' := tok0_den R 2 false 5 hR
  unfold nthG
  have z0 : ((0 : Nat) : Int) = 0 := rfl
  have z1 : ((1 : Nat) : Int) = 1 := rfl
  have z2 : ((2 : Nat) : Int) = 2 := rfl
  have w1 : IntKind.i64.wrap (0 + 1) = 1 := by decide
  have h22 : (2 : Int).toNat = 2 := rfl
  simp only [rb0, z0] at t1 t5
  simp only [rb0, z2] at t5'
  generalize tk0 1 R = w at t1
  generalize tk0 5 R = t at t5
  generalize tk0 5 (R.drop 2) = b at t5'
  by_cases L1 : R.length = 1
  · have e1 : ((R.length : Int) == 1) = true := by rw [L1]; rfl
    have e3 : ((R.length : Int) == 3) = false := by rw [L1]; rfl
    cases ew : (w.kind == 1)
    · rw [if_neg (fun h => by rw [h.2] at ew; cases ew)]
      cases e0 : (t.kind == 0)
      · rw [if_neg (by simpa using e0)]
        cases et : (t.text == [])
        · rw [if_neg (fun h => by rw [h.2] at et; cases et)]
          cases en : (t.text == [110])
          · rw [if_neg (fun h => by rw [h.2] at en; cases en)]
            cases el : decide ((2 : Int) < (t.text.length : Int))
            · have el' := of_decide_eq_false el
              rw [if_neg (fun h => el' (by omega)), if_neg (fun h => by omega)]
              refine den_run rfl Tryd.func71 rfl Tryd.ntmps71 ⟨by simp, by simp [LK]⟩ ?_
              simp only [go_sem, Nat.reduceLT, reduceIte, reduceCtorEq, Nat.reduceEqDiff, apply_ite (Option.map (outOf _)), Nat.reduceBEq, Nat.reduceAdd, Nat.reduceSub, Nat.reduceLeDiff, Nat.reduceMul, ty_shapeT_120, ty_zeroCells_120, good_22, ev_build ty_zeroCells_92 ty_placesOf_92, ev_build_arr ty_zeroCells_120 ty_arrOf_120, ty_szOf_120, good_52, ty_zeroCells_83, ty_szOf_83, ty_fieldOff_92_0, ty_szOf_39, ty_shapeT_39, ev_len_sl ty_descOf_39, ty_fieldOff_83_0, ty_szOf_3, ty_shapeT_3, ty_fieldOff_83_1, ty_szOf_9, ty_shapeT_9, ty_fieldOff_92_1, ty_fieldOff_83_2, ev_len_str ty_descOf_9, ev_slice_str ty_descOf_9, good_82, good_54, hr, htrim, t1, t5, e1, e3, ew, e0, et, en, el, w1, z0, encL_len, TV.flat]
            · have el' := of_decide_eq_true el
              have hb : ((0 : Int) ≤ 2 ∧ (2 : Int) ≤ (t.text.length : Int)) = True := by rw [eq_iff_iff]; simp; omega
              have hb0 : ((0 : Int) ≤ 0 ∧ (0 : Int) ≤ 2) = True := by decide
              cases ep : (t.text.take 2 == [110, 45])
              · rw [if_neg (fun h => by rw [h.2.2.1] at ep; cases ep), if_neg (fun h => by omega)]
                refine den_run rfl Tryd.func71 rfl Tryd.ntmps71 ⟨by simp, by simp [LK]⟩ ?_
                simp only [go_sem, Nat.reduceLT, reduceIte, reduceCtorEq, Nat.reduceEqDiff, apply_ite (Option.map (outOf _)), Nat.reduceBEq, Nat.reduceAdd, Nat.reduceSub, Nat.reduceLeDiff, Nat.reduceMul, ty_shapeT_120, ty_zeroCells_120, good_22, ev_build ty_zeroCells_92 ty_placesOf_92, ev_build_arr ty_zeroCells_120 ty_arrOf_120, ty_szOf_120, good_52, ty_zeroCells_83, ty_szOf_83, ty_fieldOff_92_0, ty_szOf_39, ty_shapeT_39, ev_len_sl ty_descOf_39, ty_fieldOff_83_0, ty_szOf_3, ty_shapeT_3, ty_fieldOff_83_1, ty_szOf_9, ty_shapeT_9, ty_fieldOff_92_1, ty_fieldOff_83_2, ev_len_str ty_descOf_9, ev_slice_str ty_descOf_9, good_82, good_54, hr, htrim, t1, t5, e1, e3, ew, e0, et, en, el, ep, hb, w1, z0, encL_len, TV.flat, h22, List.drop_zero]
              · have hdg := digits_den (t.text.drop 2)
                have hdf := digits_few (t.text.drop 2)
                cases ed : decide (0 ≤ Sl.digits (t.text.drop 2))
                · have ed' := of_decide_eq_false ed
                  rw [if_neg (fun h => ed' h.2.2.2), if_neg (fun h => by omega)]
                  refine den_run rfl Tryd.func71 rfl Tryd.ntmps71 ⟨by simp, by simp [LK]⟩ ?_
                  simp only [go_sem, Nat.reduceLT, reduceIte, reduceCtorEq, Nat.reduceEqDiff, apply_ite (Option.map (outOf _)), Nat.reduceBEq, Nat.reduceAdd, Nat.reduceSub, Nat.reduceLeDiff, Nat.reduceMul, ty_shapeT_120, ty_zeroCells_120, good_22, ev_build ty_zeroCells_92 ty_placesOf_92, ev_build_arr ty_zeroCells_120 ty_arrOf_120, ty_szOf_120, good_52, ty_zeroCells_83, ty_szOf_83, ty_fieldOff_92_0, ty_szOf_39, ty_shapeT_39, ev_len_sl ty_descOf_39, ty_fieldOff_83_0, ty_szOf_3, ty_shapeT_3, ty_fieldOff_83_1, ty_szOf_9, ty_shapeT_9, ty_fieldOff_92_1, ty_fieldOff_83_2, ev_len_str ty_descOf_9, ev_slice_str ty_descOf_9, good_82, good_54, hr, htrim, t1, t5, e1, e3, ew, e0, et, en, el, ep, hb, hdg, ed, w1, z0, encL_len, TV.flat, h22, List.drop_zero, List.take_length]
                · have ed' := of_decide_eq_true ed
                  have hneg : IntKind.i64.wrap (0 - Sl.digits (t.text.drop 2)) = -Sl.digits (t.text.drop 2) := by rw [IntWalk.i64_in _ (by omega)]; omega
                  rw [if_pos ⟨L1, by omega, by simpa using ep, ed'⟩]
                  refine den_run rfl Tryd.func71 rfl Tryd.ntmps71 ⟨by simp, by simp [LK]⟩ ?_
                  simp only [go_sem, Nat.reduceLT, reduceIte, reduceCtorEq, Nat.reduceEqDiff, apply_ite (Option.map (outOf _)), Nat.reduceBEq, Nat.reduceAdd, Nat.reduceSub, Nat.reduceLeDiff, Nat.reduceMul, ty_shapeT_120, ty_zeroCells_120, good_22, ev_build ty_zeroCells_92 ty_placesOf_92, ev_build_arr ty_zeroCells_120 ty_arrOf_120, ty_szOf_120, good_52, ty_zeroCells_83, ty_szOf_83, ty_fieldOff_92_0, ty_szOf_39, ty_shapeT_39, ev_len_sl ty_descOf_39, ty_fieldOff_83_0, ty_szOf_3, ty_shapeT_3, ty_fieldOff_83_1, ty_szOf_9, ty_shapeT_9, ty_fieldOff_92_1, ty_fieldOff_83_2, ev_len_str ty_descOf_9, ev_slice_str ty_descOf_9, good_82, good_54, hr, htrim, t1, t5, e1, e3, ew, e0, et, en, el, ep, hb, hdg, ed, hneg, w1, z0, encL_len, TV.flat, h22, List.drop_zero, List.take_length]
          · rw [if_pos ⟨L1, by simpa using en⟩]
            refine den_run rfl Tryd.func71 rfl Tryd.ntmps71 ⟨by simp, by simp [LK]⟩ ?_
            simp only [go_sem, Nat.reduceLT, reduceIte, reduceCtorEq, Nat.reduceEqDiff, apply_ite (Option.map (outOf _)), Nat.reduceBEq, Nat.reduceAdd, Nat.reduceSub, Nat.reduceLeDiff, Nat.reduceMul, ty_shapeT_120, ty_zeroCells_120, good_22, ev_build ty_zeroCells_92 ty_placesOf_92, ev_build_arr ty_zeroCells_120 ty_arrOf_120, ty_szOf_120, good_52, ty_zeroCells_83, ty_szOf_83, ty_fieldOff_92_0, ty_szOf_39, ty_shapeT_39, ev_len_sl ty_descOf_39, ty_fieldOff_83_0, ty_szOf_3, ty_shapeT_3, ty_fieldOff_83_1, ty_szOf_9, ty_shapeT_9, ty_fieldOff_92_1, ty_fieldOff_83_2, ev_len_str ty_descOf_9, ev_slice_str ty_descOf_9, good_82, good_54, hr, htrim, t1, t5, e1, e3, ew, e0, et, en, w1, z0, encL_len, TV.flat]
        · rw [if_pos ⟨L1, by simpa using et⟩]
          refine den_run rfl Tryd.func71 rfl Tryd.ntmps71 ⟨by simp, by simp [LK]⟩ ?_
          simp only [go_sem, Nat.reduceLT, reduceIte, reduceCtorEq, Nat.reduceEqDiff, apply_ite (Option.map (outOf _)), Nat.reduceBEq, Nat.reduceAdd, Nat.reduceSub, Nat.reduceLeDiff, Nat.reduceMul, ty_shapeT_120, ty_zeroCells_120, good_22, ev_build ty_zeroCells_92 ty_placesOf_92, ev_build_arr ty_zeroCells_120 ty_arrOf_120, ty_szOf_120, good_52, ty_zeroCells_83, ty_szOf_83, ty_fieldOff_92_0, ty_szOf_39, ty_shapeT_39, ev_len_sl ty_descOf_39, ty_fieldOff_83_0, ty_szOf_3, ty_shapeT_3, ty_fieldOff_83_1, ty_szOf_9, ty_shapeT_9, ty_fieldOff_92_1, ty_fieldOff_83_2, ev_len_str ty_descOf_9, ev_slice_str ty_descOf_9, good_82, good_54, hr, htrim, t1, t5, e1, e3, ew, e0, et, w1, z0, encL_len, TV.flat]
      · rw [if_pos (by simpa using e0)]
        refine den_run rfl Tryd.func71 rfl Tryd.ntmps71 ⟨by simp, by simp [LK]⟩ ?_
        simp only [go_sem, Nat.reduceLT, reduceIte, reduceCtorEq, Nat.reduceEqDiff, apply_ite (Option.map (outOf _)), Nat.reduceBEq, Nat.reduceAdd, Nat.reduceSub, Nat.reduceLeDiff, Nat.reduceMul, ty_shapeT_120, ty_zeroCells_120, good_22, ev_build ty_zeroCells_92 ty_placesOf_92, ev_build_arr ty_zeroCells_120 ty_arrOf_120, ty_szOf_120, good_52, ty_zeroCells_83, ty_szOf_83, ty_fieldOff_92_0, ty_szOf_39, ty_shapeT_39, ev_len_sl ty_descOf_39, ty_fieldOff_83_0, ty_szOf_3, ty_shapeT_3, ty_fieldOff_83_1, ty_szOf_9, ty_shapeT_9, ty_fieldOff_92_1, ty_fieldOff_83_2, ev_len_str ty_descOf_9, ev_slice_str ty_descOf_9, good_82, good_54, hr, htrim, t1, t5, e1, e3, ew, e0, w1, z0, encL_len, TV.flat]
    · rw [if_pos ⟨L1, by simpa using ew⟩]
      cases a1 : (w.text == [111, 100, 100])
      · rw [if_neg (by simpa using a1)]
        cases a2 : (w.text == [101, 118, 101, 110])
        · rw [if_neg (by simpa using a2)]
          cases a3 : (w.text == [110])
          · rw [if_neg (by simpa using a3)]
            refine den_run rfl Tryd.func71 rfl Tryd.ntmps71 ⟨by simp, by simp [LK]⟩ ?_
            simp only [go_sem, Nat.reduceLT, reduceIte, reduceCtorEq, Nat.reduceEqDiff, apply_ite (Option.map (outOf _)), Nat.reduceBEq, Nat.reduceAdd, Nat.reduceSub, Nat.reduceLeDiff, Nat.reduceMul, ty_shapeT_120, ty_zeroCells_120, good_22, ev_build ty_zeroCells_92 ty_placesOf_92, ev_build_arr ty_zeroCells_120 ty_arrOf_120, ty_szOf_120, good_52, ty_zeroCells_83, ty_szOf_83, ty_fieldOff_92_0, ty_szOf_39, ty_shapeT_39, ev_len_sl ty_descOf_39, ty_fieldOff_83_0, ty_szOf_3, ty_shapeT_3, ty_fieldOff_83_1, ty_szOf_9, ty_shapeT_9, ty_fieldOff_92_1, ty_fieldOff_83_2, ev_len_str ty_descOf_9, ev_slice_str ty_descOf_9, good_82, good_54, hr, htrim, t1, t5, e1, e3, ew, a1, a2, a3, w1, z0, encL_len, TV.flat]
          · rw [if_pos (by simpa using a3)]
            refine den_run rfl Tryd.func71 rfl Tryd.ntmps71 ⟨by simp, by simp [LK]⟩ ?_
            simp only [go_sem, Nat.reduceLT, reduceIte, reduceCtorEq, Nat.reduceEqDiff, apply_ite (Option.map (outOf _)), Nat.reduceBEq, Nat.reduceAdd, Nat.reduceSub, Nat.reduceLeDiff, Nat.reduceMul, ty_shapeT_120, ty_zeroCells_120, good_22, ev_build ty_zeroCells_92 ty_placesOf_92, ev_build_arr ty_zeroCells_120 ty_arrOf_120, ty_szOf_120, good_52, ty_zeroCells_83, ty_szOf_83, ty_fieldOff_92_0, ty_szOf_39, ty_shapeT_39, ev_len_sl ty_descOf_39, ty_fieldOff_83_0, ty_szOf_3, ty_shapeT_3, ty_fieldOff_83_1, ty_szOf_9, ty_shapeT_9, ty_fieldOff_92_1, ty_fieldOff_83_2, ev_len_str ty_descOf_9, ev_slice_str ty_descOf_9, good_82, good_54, hr, htrim, t1, t5, e1, e3, ew, a1, a2, a3, w1, z0, encL_len, TV.flat]
        · rw [if_pos (by simpa using a2)]
          refine den_run rfl Tryd.func71 rfl Tryd.ntmps71 ⟨by simp, by simp [LK]⟩ ?_
          simp only [go_sem, Nat.reduceLT, reduceIte, reduceCtorEq, Nat.reduceEqDiff, apply_ite (Option.map (outOf _)), Nat.reduceBEq, Nat.reduceAdd, Nat.reduceSub, Nat.reduceLeDiff, Nat.reduceMul, ty_shapeT_120, ty_zeroCells_120, good_22, ev_build ty_zeroCells_92 ty_placesOf_92, ev_build_arr ty_zeroCells_120 ty_arrOf_120, ty_szOf_120, good_52, ty_zeroCells_83, ty_szOf_83, ty_fieldOff_92_0, ty_szOf_39, ty_shapeT_39, ev_len_sl ty_descOf_39, ty_fieldOff_83_0, ty_szOf_3, ty_shapeT_3, ty_fieldOff_83_1, ty_szOf_9, ty_shapeT_9, ty_fieldOff_92_1, ty_fieldOff_83_2, ev_len_str ty_descOf_9, ev_slice_str ty_descOf_9, good_82, good_54, hr, htrim, t1, t5, e1, e3, ew, a1, a2, w1, z0, encL_len, TV.flat]
      · rw [if_pos (by simpa using a1)]
        refine den_run rfl Tryd.func71 rfl Tryd.ntmps71 ⟨by simp, by simp [LK]⟩ ?_
        simp only [go_sem, Nat.reduceLT, reduceIte, reduceCtorEq, Nat.reduceEqDiff, apply_ite (Option.map (outOf _)), Nat.reduceBEq, Nat.reduceAdd, Nat.reduceSub, Nat.reduceLeDiff, Nat.reduceMul, ty_shapeT_120, ty_zeroCells_120, good_22, ev_build ty_zeroCells_92 ty_placesOf_92, ev_build_arr ty_zeroCells_120 ty_arrOf_120, ty_szOf_120, good_52, ty_zeroCells_83, ty_szOf_83, ty_fieldOff_92_0, ty_szOf_39, ty_shapeT_39, ev_len_sl ty_descOf_39, ty_fieldOff_83_0, ty_szOf_3, ty_shapeT_3, ty_fieldOff_83_1, ty_szOf_9, ty_shapeT_9, ty_fieldOff_92_1, ty_fieldOff_83_2, ev_len_str ty_descOf_9, ev_slice_str ty_descOf_9, good_82, good_54, hr, htrim, t1, t5, e1, e3, ew, a1, w1, z0, encL_len, TV.flat]
  · have e1 : ((R.length : Int) == 1) = false := by rw [beq_eq_false_iff_ne]; omega
    rw [if_neg (fun h => L1 h.1)]
    cases e0 : (t.kind == 0)
    · rw [if_neg (by simpa using e0), if_neg (fun h => L1 h.1), if_neg (fun h => L1 h.1), if_neg (fun h => L1 h.1)]
      by_cases L3 : R.length = 3
      · have e3 : ((R.length : Int) == 3) = true := by rw [L3]; rfl
        cases en : (t.text == [110])
        · rw [if_neg (fun h => by rw [h.2.1] at en; cases en)]
          refine den_run rfl Tryd.func71 rfl Tryd.ntmps71 ⟨by simp, by simp [LK]⟩ ?_
          simp only [go_sem, Nat.reduceLT, reduceIte, reduceCtorEq, Nat.reduceEqDiff, apply_ite (Option.map (outOf _)), Nat.reduceBEq, Nat.reduceAdd, Nat.reduceSub, Nat.reduceLeDiff, Nat.reduceMul, ty_shapeT_120, ty_zeroCells_120, good_22, ev_build ty_zeroCells_92 ty_placesOf_92, ev_build_arr ty_zeroCells_120 ty_arrOf_120, ty_szOf_120, good_52, ty_zeroCells_83, ty_szOf_83, ty_fieldOff_92_0, ty_szOf_39, ty_shapeT_39, ev_len_sl ty_descOf_39, ty_fieldOff_83_0, ty_szOf_3, ty_shapeT_3, ty_fieldOff_83_1, ty_szOf_9, ty_shapeT_9, ty_fieldOff_92_1, ty_fieldOff_83_2, ev_len_str ty_descOf_9, ev_slice_str ty_descOf_9, good_82, good_54, hr, htrim, t1, t5, e1, e3, e0, en, w1, z0, encL_len, TV.flat]
        · cases hs : Sl.sign [43] (R.drop 1) with
          | none =>
            have s1 := sign0_no R 1 false [43] hR hs
            simp only [rb0, z1] at s1
            rw [if_neg (by simp)]
            refine den_run rfl Tryd.func71 rfl Tryd.ntmps71 ⟨by simp, by simp [LK]⟩ ?_
            simp only [go_sem, Nat.reduceLT, reduceIte, reduceCtorEq, Nat.reduceEqDiff, apply_ite (Option.map (outOf _)), Nat.reduceBEq, Nat.reduceAdd, Nat.reduceSub, Nat.reduceLeDiff, Nat.reduceMul, ty_shapeT_120, ty_zeroCells_120, good_22, ev_build ty_zeroCells_92 ty_placesOf_92, ev_build_arr ty_zeroCells_120 ty_arrOf_120, ty_szOf_120, good_52, ty_zeroCells_83, ty_szOf_83, ty_fieldOff_92_0, ty_szOf_39, ty_shapeT_39, ev_len_sl ty_descOf_39, ty_fieldOff_83_0, ty_szOf_3, ty_shapeT_3, ty_fieldOff_83_1, ty_szOf_9, ty_shapeT_9, ty_fieldOff_92_1, ty_fieldOff_83_2, ev_len_str ty_descOf_9, ev_slice_str ty_descOf_9, good_82, good_54, hr, htrim, t1, t5, e1, e3, e0, en, s1, w1, z0, z1, encL_len, TV.flat]
          | some r =>
            obtain ⟨s1, _, _⟩ := sign0_yes R 1 false [43] hR r hs
            rw [if_pos ⟨L3, by simpa using en, rfl⟩]
            have z12 : ((1 + 1 : Nat) : Int) = 2 := rfl
            simp only [rb0, z1, z12] at s1
            cases b1 : (b.kind == 5)
            · refine den_run rfl Tryd.func71 rfl Tryd.ntmps71 ⟨by simp, by simp [LK]⟩ ?_
              simp only [go_sem, Nat.reduceLT, reduceIte, reduceCtorEq, Nat.reduceEqDiff, apply_ite (Option.map (outOf _)), Nat.reduceBEq, Nat.reduceAdd, Nat.reduceSub, Nat.reduceLeDiff, Nat.reduceMul, ty_shapeT_120, ty_zeroCells_120, good_22, ev_build ty_zeroCells_92 ty_placesOf_92, ev_build_arr ty_zeroCells_120 ty_arrOf_120, ty_szOf_120, good_52, ty_zeroCells_83, ty_szOf_83, ty_fieldOff_92_0, ty_szOf_39, ty_shapeT_39, ev_len_sl ty_descOf_39, ty_fieldOff_83_0, ty_szOf_3, ty_shapeT_3, ty_fieldOff_83_1, ty_szOf_9, ty_shapeT_9, ty_fieldOff_92_1, ty_fieldOff_83_2, ev_len_str ty_descOf_9, ev_slice_str ty_descOf_9, good_82, good_54, hr, htrim, t1, t5, t5', e1, e3, e0, en, s1, b1, w1, z0, z1, z2, z12, encL_len, TV.flat]
            · cases b2 : (b.text == [])
              · refine den_run rfl Tryd.func71 rfl Tryd.ntmps71 ⟨by simp, by simp [LK]⟩ ?_
                simp only [go_sem, Nat.reduceLT, reduceIte, reduceCtorEq, Nat.reduceEqDiff, apply_ite (Option.map (outOf _)), Nat.reduceBEq, Nat.reduceAdd, Nat.reduceSub, Nat.reduceLeDiff, Nat.reduceMul, ty_shapeT_120, ty_zeroCells_120, good_22, ev_build ty_zeroCells_92 ty_placesOf_92, ev_build_arr ty_zeroCells_120 ty_arrOf_120, ty_szOf_120, good_52, ty_zeroCells_83, ty_szOf_83, ty_fieldOff_92_0, ty_szOf_39, ty_shapeT_39, ev_len_sl ty_descOf_39, ty_fieldOff_83_0, ty_szOf_3, ty_shapeT_3, ty_fieldOff_83_1, ty_szOf_9, ty_shapeT_9, ty_fieldOff_92_1, ty_fieldOff_83_2, ev_len_str ty_descOf_9, ev_slice_str ty_descOf_9, good_82, good_54, hr, htrim, t1, t5, t5', e1, e3, e0, en, s1, b1, b2, w1, z0, z1, z2, z12, encL_len, TV.flat]
              · refine den_run rfl Tryd.func71 rfl Tryd.ntmps71 ⟨by simp, by simp [LK]⟩ ?_
                simp only [go_sem, Nat.reduceLT, reduceIte, reduceCtorEq, Nat.reduceEqDiff, apply_ite (Option.map (outOf _)), Nat.reduceBEq, Nat.reduceAdd, Nat.reduceSub, Nat.reduceLeDiff, Nat.reduceMul, ty_shapeT_120, ty_zeroCells_120, good_22, ev_build ty_zeroCells_92 ty_placesOf_92, ev_build_arr ty_zeroCells_120 ty_arrOf_120, ty_szOf_120, good_52, ty_zeroCells_83, ty_szOf_83, ty_fieldOff_92_0, ty_szOf_39, ty_shapeT_39, ev_len_sl ty_descOf_39, ty_fieldOff_83_0, ty_szOf_3, ty_shapeT_3, ty_fieldOff_83_1, ty_szOf_9, ty_shapeT_9, ty_fieldOff_92_1, ty_fieldOff_83_2, ev_len_str ty_descOf_9, ev_slice_str ty_descOf_9, good_82, good_54, hr, htrim, t1, t5, t5', e1, e3, e0, en, s1, b1, b2, w1, z0, z1, z2, z12, encL_len, TV.flat]
      · have e3 : ((R.length : Int) == 3) = false := by rw [beq_eq_false_iff_ne]; omega
        rw [if_neg (fun h => L3 h.1)]
        refine den_run rfl Tryd.func71 rfl Tryd.ntmps71 ⟨by simp, by simp [LK]⟩ ?_
        simp only [go_sem, Nat.reduceLT, reduceIte, reduceCtorEq, Nat.reduceEqDiff, apply_ite (Option.map (outOf _)), Nat.reduceBEq, Nat.reduceAdd, Nat.reduceSub, Nat.reduceLeDiff, Nat.reduceMul, ty_shapeT_120, ty_zeroCells_120, good_22, ev_build ty_zeroCells_92 ty_placesOf_92, ev_build_arr ty_zeroCells_120 ty_arrOf_120, ty_szOf_120, good_52, ty_zeroCells_83, ty_szOf_83, ty_fieldOff_92_0, ty_szOf_39, ty_shapeT_39, ev_len_sl ty_descOf_39, ty_fieldOff_83_0, ty_szOf_3, ty_shapeT_3, ty_fieldOff_83_1, ty_szOf_9, ty_shapeT_9, ty_fieldOff_92_1, ty_fieldOff_83_2, ev_len_str ty_descOf_9, ev_slice_str ty_descOf_9, good_82, good_54, hr, htrim, t1, t5, e1, e3, e0, w1, z0, encL_len, TV.flat]
    · rw [if_pos (by simpa using e0)]
      refine den_run rfl Tryd.func71 rfl Tryd.ntmps71 ⟨by simp, by simp [LK]⟩ ?_
      simp only [go_sem, Nat.reduceLT, reduceIte, reduceCtorEq, Nat.reduceEqDiff, apply_ite (Option.map (outOf _)), Nat.reduceBEq, Nat.reduceAdd, Nat.reduceSub, Nat.reduceLeDiff, Nat.reduceMul, ty_shapeT_120, ty_zeroCells_120, good_22, ev_build ty_zeroCells_92 ty_placesOf_92, ev_build_arr ty_zeroCells_120 ty_arrOf_120, ty_szOf_120, good_52, ty_zeroCells_83, ty_szOf_83, ty_fieldOff_92_0, ty_szOf_39, ty_shapeT_39, ev_len_sl ty_descOf_39, ty_fieldOff_83_0, ty_szOf_3, ty_shapeT_3, ty_fieldOff_83_1, ty_szOf_9, ty_shapeT_9, ty_fieldOff_92_1, ty_fieldOff_83_2, ev_len_str ty_descOf_9, ev_slice_str ty_descOf_9, good_82, good_54, hr, htrim, t1, t5, e1, e0, w1, z0, encL_len, TV.flat]
end Go.Abs
