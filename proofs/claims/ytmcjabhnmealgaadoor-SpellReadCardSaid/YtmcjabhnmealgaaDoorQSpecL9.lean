/-
  WHAT THE FUNCTIONS COMPUTE, layer 4, the document's reader of selectors: the simple selectors of a compound one.
-/
import Derived.Test.YtmcjabhnmealgaaDoorQSpecL6
set_option linter.unusedSimpArgs false
set_option linter.unusedVariables false
namespace Go.Abs
open Go Go.Proofs
set_option maxRecDepth 10000
attribute [local go_sem] exL_seq exL_region exL_cond exL_block exL_scope exL_ret exL_skip exL_exit runRegion runOps stepOp guardA absOp takeOver opd avOf cvOf St.degAt St.put okPV okVal okAV absBin intBin strBin boolBin setBoxes if_true Bool.false_eq_true if_false Option.map_some Option.map_none Option.bind_some Option.bind_none thenO outOf upd List.toList_toArray isOwn steal appArgs inApps AV.deg CV.deg AV.gv AV.isIter absNext some_bne List.length_nil List.length_cons List.filterMap_cons List.filterMap_nil beq_iff_eq List.getElem?_cons_zero List.getElem?_cons_succ Option.getD_some K_hook hookB Bool.false_and Bool.and_false Bool.and_self K_P K_own absCall doCall getBoxes lend back idx dedup AV.ren CV.ren TV.ren AV.ptrs CV.ptrs zipBox AV.flat CV.flat absLoad absStore cellsOfAV setAt newBox markB bldTypes absFieldAddr absField absExtract absAssert noAssert absMkIface ifcOf CV.pv? content pushHead ownT fillCells reps pvs chunks enterSt leave resOf resVars resVar outBoxes lentOnly TV.deg TV.av LK CV.plain CV.noBld nilBin absUn bound List.map_cons List.map_nil List.all_cons List.all_nil List.any_cons List.any_nil List.contains_cons List.contains_nil List.elem_cons List.elem_nil List.cons_append List.nil_append List.append_nil List.flatMap_cons List.flatMap_nil List.zip_cons_cons List.zip_nil_left List.zip_nil_right List.take_succ_cons List.take_zero List.take_nil List.drop_succ_cons List.drop_zero List.drop_nil List.isEmpty_nil List.isEmpty_cons Bool.and_true Bool.true_and Bool.or_true Bool.true_or Bool.or_false Bool.false_or Bool.not_true Bool.not_false Nat.add_zero Nat.zero_add Option.isNone_none Option.isNone_some Option.getD_none true_and and_true not_true_eq_false not_false_eq_true decide_true decide_false Nat.le_refl and_self Bool.not_eq_true Nat.sub_self or_true true_or Option.some.injEq List.length_map List.nil_eq and_false false_and AV.live CV.live CV.liveIn K_keep firstReg Option.orElse_some Option.orElse_none head keepSlots keepBoxes Int.lt_irrefl List.length_append ite_self memOK logOps opKey lentBoxes Key.clash Key.sees Key.writes Nat.lt_irrefl gt_iff_lt nobox_at bot_at false_or or_false beq_self_eq_true Bool.true_beq Bool.false_beq

theorem encS_len (l : List Sim) : (Sim.encL l).length = l.length := by rw [Sim.encL_map, List.length_map]
theorem lens_sims (l : List Sim) : lens 6 (Sim.encL l) = true := by
  rw [Sim.encL_map]
  simp only [lens, List.all_map, List.all_eq_true]
  intro x _
  obtain ⟨k, n, v, a, b, xl⟩ := x
  rfl
theorem lens_sim (a b c d e f : PV) : lens 6 [[a, b, c, d, e, f]] = true := rfl
theorem encS_app (a b : List Sim) : Sim.encL (a ++ b) = Sim.encL a ++ Sim.encL b := by rw [Sim.encL_map, Sim.encL_map, Sim.encL_map, List.map_append]
theorem snoc_s0 (acc : List Sim) (k : Int) (n v : List UInt8) (a b : Int) : Sim.encL acc ++ [[.int .i64 k, .str n, .str v, .int .i64 a, .int .i64 b, .sl []]] = Sim.encL (acc ++ [.mk k n v a b []]) := by rw [encS_app]; rfl
theorem snoc_s1 (acc : List Sim) (k : Int) (n v : List UInt8) (a b : Int) (x : Sim) (xl : List Sim) : Sim.encL acc ++ [[.int .i64 k, .str n, .str v, .int .i64 a, .int .i64 b, .sl (Sim.encL (x :: xl))]] = Sim.encL (acc ++ [.mk k n v a b (x :: xl)]) := by rw [encS_app]; rfl

abbrev zcpx : List CV := [.own 0 [], .pv (.str [])]
abbrev pcell (cb : Int) (e : Nat) (acc : List Sim) : List CV := [.pv (.int .i64 cb), .own e (Sim.encL acc)]
abbrev partH (l : List Val) (i : Nat) (bad : Bool) (cb : Int) (e : Nat) (acc : List Sim) (e5 : Nat) (ps : List (List PV)) : St :=
  { sl := upd (upd (upd (upd bot 7 (.c (.loc 7 0))) 5 (.c (.loc 5 0))) 4 (.c (.loc 10 0))) 2 (.c (.loc 2 0)),
    bx := upd (upd (upd (upd nobox 10 (some (rb0 l i bad))) 7 (some (pcell cb e acc))) 5 (some [.own e5 ps, .pv (.str [])])) 2 (some zcpx), nt := 141 }
noncomputable def palp : Code := .loop (loopAt Tryd.f24 6)

/-- what stays, round by round -/
def PKept (S : St) (e5 : Nat) (ps : List (List PV)) : Prop := S.nt = 141 ∧ S.sl 2 = .c (.loc 2 0) ∧ S.sl 4 = .c (.loc 10 0) ∧ S.sl 5 = .c (.loc 5 0) ∧ S.sl 7 = .c (.loc 7 0) ∧ S.bx 2 = some zcpx ∧ S.bx 5 = some [.own e5 ps, .pv (.str [])]

set_option maxHeartbeats 8000000 in
theorem part_bad (l : List Val) (i : Nat) (cb : Int) (e : Nat) (acc : List Sim) (e5 : Nat) (ps : List (List PV)) :
    Ends (exL K 24 palp (partH l i true cb e acc e5 ps)) fun o S => o = .exit 2 ∧ PKept S e5 ps ∧ S.bx 10 = some (rb0 l i true) ∧ S.bx 7 = some (pcell cb e acc) := by
  unfold palp PKept
  conv in loopAt _ _ => whnf
  rw [exL_loop]
  simp only [go_sem, Nat.reduceLT, reduceIte, reduceCtorEq, Nat.reduceEqDiff, apply_ite (Option.map (outOf _)), Nat.reduceBEq, Nat.reduceAdd, Nat.reduceSub, Nat.reduceLeDiff, Nat.reduceMul, ty_shapeT_38, ty_zeroCells_38, ev_build ty_zeroCells_92 ty_placesOf_92, ev_build ty_zeroCells_38 ty_placesOf_38, ty_szOf_38, ty_fieldOff_92_2, ty_szOf_4, ty_shapeT_4, ty_fieldOff_38_0, ty_szOf_36, ty_shapeT_36, ev_len_sl ty_descOf_36, ev_build ty_zeroCells_46 ty_placesOf_46, ty_zeroCells_46, ty_szOf_46, good_34, good_35, ty_fieldOff_46_1, ty_szOf_30, ty_shapeT_30, ev_len_sl ty_descOf_30, good_36, ev_buildSlice (len := 1) ty_descOf_30 ty_szOf_32 ty_zeroCells_32 ⟨rfl, by decide, by decide⟩, ev_append ty_appInfo_30, ev_appNew_sl ty_descOf_30, ty_fieldOff_92_1, ty_szOf_3, ty_shapeT_3, good_37, ty_fieldOff_38_1, ty_szOf_9, ty_shapeT_9, ty_fieldOff_92_0, ty_szOf_39, ty_shapeT_39, ev_len_sl ty_descOf_39, ty_shapeT_46, ev_buildSlice (len := 1) ty_descOf_36 ty_szOf_46 ty_zeroCells_46 ⟨rfl, by decide, by decide⟩, ev_append ty_appInfo_36, ev_appNew_sl ty_descOf_36, good_38, keep_24_4, keep_24_6, ends_some]

set_option maxHeartbeats 8000000 in
theorem part_over (l : List Val) (i : Nat) (cb : Int) (e : Nat) (acc : List Sim) (e5 : Nat) (ps : List (List PV)) (hl : l.length ≤ 100000000) (ho : Sl.over (l.drop i) = true) :
    Ends (exL K 24 palp (partH l i false cb e acc e5 ps)) fun o S => o = .exit 2 ∧ PKept S e5 ps ∧ S.bx 10 = some (rb0 l i false) ∧ S.bx 7 = some (pcell cb e acc) := by
  have h1 := over_den l i false hl
  rw [ho] at h1
  simp only [rb0] at h1
  unfold palp PKept
  conv in loopAt _ _ => whnf
  rw [exL_loop]
  simp only [go_sem, Nat.reduceLT, reduceIte, reduceCtorEq, Nat.reduceEqDiff, apply_ite (Option.map (outOf _)), Nat.reduceBEq, Nat.reduceAdd, Nat.reduceSub, Nat.reduceLeDiff, Nat.reduceMul, ty_shapeT_38, ty_zeroCells_38, ev_build ty_zeroCells_92 ty_placesOf_92, ev_build ty_zeroCells_38 ty_placesOf_38, ty_szOf_38, ty_fieldOff_92_2, ty_szOf_4, ty_shapeT_4, ty_fieldOff_38_0, ty_szOf_36, ty_shapeT_36, ev_len_sl ty_descOf_36, ev_build ty_zeroCells_46 ty_placesOf_46, ty_zeroCells_46, ty_szOf_46, good_34, good_35, ty_fieldOff_46_1, ty_szOf_30, ty_shapeT_30, ev_len_sl ty_descOf_30, good_36, ev_buildSlice (len := 1) ty_descOf_30 ty_szOf_32 ty_zeroCells_32 ⟨rfl, by decide, by decide⟩, ev_append ty_appInfo_30, ev_appNew_sl ty_descOf_30, ty_fieldOff_92_1, ty_szOf_3, ty_shapeT_3, good_37, ty_fieldOff_38_1, ty_szOf_9, ty_shapeT_9, ty_fieldOff_92_0, ty_szOf_39, ty_shapeT_39, ev_len_sl ty_descOf_39, ty_shapeT_46, ev_buildSlice (len := 1) ty_descOf_36 ty_szOf_46 ty_zeroCells_46 ⟨rfl, by decide, by decide⟩, ev_append ty_appInfo_36, ev_appNew_sl ty_descOf_36, good_38, keep_24_4, keep_24_6, h1, ends_some]

set_option maxHeartbeats 8000000 in
theorem part_double (l : List Val) (i : Nat) (cb : Int) (e : Nat) (acc : List Sim) (e5 : Nat) (ps : List (List PV)) (hl : l.length ≤ 100000000) (hi : i ≤ l.length) (ho : Sl.over (l.drop i) = false) (hd : Sl.double (l.drop i) = true) :
    Ends (exL K 24 palp (partH l i false cb e acc e5 ps)) fun o S => o = .exit 2 ∧ PKept S e5 ps ∧ S.bx 10 = some (rb0 l i false) ∧ S.bx 7 = some (pcell cb e acc) := by
  have h1 := over_den l i false hl
  rw [ho] at h1
  have h2 := double_den l i false hl (by omega)
  rw [hd] at h2
  simp only [rb0] at h1 h2
  unfold palp PKept
  conv in loopAt _ _ => whnf
  rw [exL_loop]
  simp only [go_sem, Nat.reduceLT, reduceIte, reduceCtorEq, Nat.reduceEqDiff, apply_ite (Option.map (outOf _)), Nat.reduceBEq, Nat.reduceAdd, Nat.reduceSub, Nat.reduceLeDiff, Nat.reduceMul, ty_shapeT_38, ty_zeroCells_38, ev_build ty_zeroCells_92 ty_placesOf_92, ev_build ty_zeroCells_38 ty_placesOf_38, ty_szOf_38, ty_fieldOff_92_2, ty_szOf_4, ty_shapeT_4, ty_fieldOff_38_0, ty_szOf_36, ty_shapeT_36, ev_len_sl ty_descOf_36, ev_build ty_zeroCells_46 ty_placesOf_46, ty_zeroCells_46, ty_szOf_46, good_34, good_35, ty_fieldOff_46_1, ty_szOf_30, ty_shapeT_30, ev_len_sl ty_descOf_30, good_36, ev_buildSlice (len := 1) ty_descOf_30 ty_szOf_32 ty_zeroCells_32 ⟨rfl, by decide, by decide⟩, ev_append ty_appInfo_30, ev_appNew_sl ty_descOf_30, ty_fieldOff_92_1, ty_szOf_3, ty_shapeT_3, good_37, ty_fieldOff_38_1, ty_szOf_9, ty_shapeT_9, ty_fieldOff_92_0, ty_szOf_39, ty_shapeT_39, ev_len_sl ty_descOf_39, ty_shapeT_46, ev_buildSlice (len := 1) ty_descOf_36 ty_szOf_46 ty_zeroCells_46 ⟨rfl, by decide, by decide⟩, ev_append ty_appInfo_36, ev_appNew_sl ty_descOf_36, good_38, keep_24_4, keep_24_6, h1, h2, ends_some]

set_option maxHeartbeats 8000000 in
theorem part_step (l : List Val) (i : Nat) (cb : Int) (e : Nat) (acc : List Sim) (e5 : Nat) (ps : List (List PV)) (hl : l.length ≤ 100000000) (hi : i ≤ l.length) (ho : Sl.over (l.drop i) = false) (hd : Sl.double (l.drop i) = false)
    (hlen : acc.length ≤ 100000000) (he : e = 32 ∨ acc = []) (first : Bool) (hf : ((acc.length : Int) == 0) = first) (x : Sim) (j : Nat) (bad : Bool) (hs : den K 36 [P0, B first] [rb0 l i false] = some (.ret (.agg (simCv x)) [rb0 l j bad])) :
    exL K 24 palp (partH l i false cb e acc e5 ps) = exL K 24 palp (partH l j bad cb 32 (acc ++ [x]) e5 ps) := by
  have h1 := over_den l i false hl
  rw [ho] at h1
  have h2 := double_den l i false hl (by omega)
  rw [hd] at h2
  have hown : e = 32 ∨ (Sim.encL acc).isEmpty = true := by
    rcases he with rfl | rfl
    · exact .inl rfl
    · exact .inr rfl
  have hlim : acc.length + 1 < appLim := by unfold appLim; omega
  have hlv := lens_sims acc
  obtain ⟨k, n, v, a, b, xl⟩ := x
  unfold palp
  conv in loopAt _ _ => whnf
  conv in loopAt _ _ => whnf
  cases xl
  all_goals
    simp only [rb0, simCv_nil, simCv_cons] at h1 h2 hs
    conv in exL _ _ _ (partH l i false cb e acc e5 ps) => rw [exL_loop]
    simp only [go_sem, Nat.reduceLT, reduceIte, reduceCtorEq, Nat.reduceEqDiff, apply_ite (Option.map (outOf _)), Nat.reduceBEq, Nat.reduceAdd, Nat.reduceSub, Nat.reduceLeDiff, Nat.reduceMul, ty_shapeT_38, ty_zeroCells_38, ev_build ty_zeroCells_92 ty_placesOf_92, ev_build ty_zeroCells_38 ty_placesOf_38, ty_szOf_38, ty_fieldOff_92_2, ty_szOf_4, ty_shapeT_4, ty_fieldOff_38_0, ty_szOf_36, ty_shapeT_36, ev_len_sl ty_descOf_36, ev_build ty_zeroCells_46 ty_placesOf_46, ty_zeroCells_46, ty_szOf_46, good_34, good_35, ty_fieldOff_46_1, ty_szOf_30, ty_shapeT_30, ev_len_sl ty_descOf_30, good_36, ev_buildSlice (len := 1) ty_descOf_30 ty_szOf_32 ty_zeroCells_32 ⟨rfl, by decide, by decide⟩, ev_append ty_appInfo_30, ev_appNew_sl ty_descOf_30, ty_fieldOff_92_1, ty_szOf_3, ty_shapeT_3, good_37, ty_fieldOff_38_1, ty_szOf_9, ty_shapeT_9, ty_fieldOff_92_0, ty_szOf_39, ty_shapeT_39, ev_len_sl ty_descOf_39, ty_shapeT_46, ev_buildSlice (len := 1) ty_descOf_36 ty_szOf_46 ty_zeroCells_46 ⟨rfl, by decide, by decide⟩, ev_append ty_appInfo_36, ev_appNew_sl ty_descOf_36, good_38, keep_24_4, keep_24_6, h1, h2, hs, hf, encS_len, hown, hlim, hlv, lens_sim, snoc_s0, snoc_s1]
    first | rw [reach_if2] | rw [reach_if]
    rotate_left
    · kernel_rfl
    simp only [go_sem, Nat.reduceLT, reduceIte, reduceCtorEq, Nat.reduceEqDiff, apply_ite (Option.map (outOf _)), Nat.reduceBEq, Nat.reduceAdd, Nat.reduceSub, Nat.reduceLeDiff, Nat.reduceMul, ty_shapeT_38, ty_zeroCells_38, ev_build ty_zeroCells_92 ty_placesOf_92, ev_build ty_zeroCells_38 ty_placesOf_38, ty_szOf_38, ty_fieldOff_92_2, ty_szOf_4, ty_shapeT_4, ty_fieldOff_38_0, ty_szOf_36, ty_shapeT_36, ev_len_sl ty_descOf_36, ev_build ty_zeroCells_46 ty_placesOf_46, ty_zeroCells_46, ty_szOf_46, good_34, good_35, ty_fieldOff_46_1, ty_szOf_30, ty_shapeT_30, ev_len_sl ty_descOf_30, good_36, ev_buildSlice (len := 1) ty_descOf_30 ty_szOf_32 ty_zeroCells_32 ⟨rfl, by decide, by decide⟩, ev_append ty_appInfo_30, ev_appNew_sl ty_descOf_30, ty_fieldOff_92_1, ty_szOf_3, ty_shapeT_3, good_37, ty_fieldOff_38_1, ty_szOf_9, ty_shapeT_9, ty_fieldOff_92_0, ty_szOf_39, ty_shapeT_39, ev_len_sl ty_descOf_39, ty_shapeT_46, ev_buildSlice (len := 1) ty_descOf_36 ty_szOf_46 ty_zeroCells_46 ⟨rfl, by decide, by decide⟩, ev_append ty_appInfo_36, ev_appNew_sl ty_descOf_36, good_38, keep_24_4, keep_24_6, encS_len, snoc_s0, snoc_s1]
    rw [exL_head]
    simp only [go_sem, Nat.reduceLT, reduceIte, reduceCtorEq, Nat.reduceEqDiff, apply_ite (Option.map (outOf _)), Nat.reduceBEq, Nat.reduceAdd, Nat.reduceSub, Nat.reduceLeDiff, Nat.reduceMul, ty_shapeT_38, ty_zeroCells_38, ev_build ty_zeroCells_92 ty_placesOf_92, ev_build ty_zeroCells_38 ty_placesOf_38, ty_szOf_38, ty_fieldOff_92_2, ty_szOf_4, ty_shapeT_4, ty_fieldOff_38_0, ty_szOf_36, ty_shapeT_36, ev_len_sl ty_descOf_36, ev_build ty_zeroCells_46 ty_placesOf_46, ty_zeroCells_46, ty_szOf_46, good_34, good_35, ty_fieldOff_46_1, ty_szOf_30, ty_shapeT_30, ev_len_sl ty_descOf_30, good_36, ev_buildSlice (len := 1) ty_descOf_30 ty_szOf_32 ty_zeroCells_32 ⟨rfl, by decide, by decide⟩, ev_append ty_appInfo_30, ev_appNew_sl ty_descOf_30, ty_fieldOff_92_1, ty_szOf_3, ty_shapeT_3, good_37, ty_fieldOff_38_1, ty_szOf_9, ty_shapeT_9, ty_fieldOff_92_0, ty_szOf_39, ty_shapeT_39, ev_len_sl ty_descOf_39, ty_shapeT_46, ev_buildSlice (len := 1) ty_descOf_36 ty_szOf_46 ty_zeroCells_46 ⟨rfl, by decide, by decide⟩, ev_append ty_appInfo_36, ev_appNew_sl ty_descOf_36, good_38, keep_24_4, keep_24_6, snoc_s0, snoc_s1]

end Go.Abs
