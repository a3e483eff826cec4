/-
  WHAT THE FUNCTIONS COMPUTE, layer 4, the document's reader of selectors: a complex selector.
-/
import Derived.Test.YtmcjabhnmealgaaDoorQSpecL9
import Derived.Test.YtmcjabhnmealgaaDoorQD
set_option linter.unusedSimpArgs false
set_option linter.unusedVariables false
namespace Go.Abs
open Go Go.Proofs
set_option maxRecDepth 10000
attribute [local go_sem] exL_seq exL_region exL_cond exL_block exL_scope exL_ret exL_skip exL_exit runRegion runOps stepOp guardA absOp takeOver opd avOf cvOf St.degAt St.put okPV okVal okAV absBin intBin strBin boolBin setBoxes if_true Bool.false_eq_true if_false Option.map_some Option.map_none Option.bind_some Option.bind_none thenO outOf upd List.toList_toArray isOwn steal appArgs inApps AV.deg CV.deg AV.gv AV.isIter absNext some_bne List.length_nil List.length_cons List.filterMap_cons List.filterMap_nil beq_iff_eq List.getElem?_cons_zero List.getElem?_cons_succ Option.getD_some K_hook hookB Bool.false_and Bool.and_false Bool.and_self K_P K_own absCall doCall getBoxes lend back idx dedup AV.ren CV.ren TV.ren AV.ptrs CV.ptrs zipBox AV.flat CV.flat absLoad absStore cellsOfAV setAt newBox markB bldTypes absFieldAddr absField absExtract absAssert noAssert absMkIface ifcOf CV.pv? content pushHead ownT fillCells reps pvs chunks enterSt leave resOf resVars resVar outBoxes lentOnly TV.deg TV.av LK CV.plain CV.noBld nilBin absUn bound List.map_cons List.map_nil List.all_cons List.all_nil List.any_cons List.any_nil List.contains_cons List.contains_nil List.elem_cons List.elem_nil List.cons_append List.nil_append List.append_nil List.flatMap_cons List.flatMap_nil List.zip_cons_cons List.zip_nil_left List.zip_nil_right List.take_succ_cons List.take_zero List.take_nil List.drop_succ_cons List.drop_zero List.drop_nil List.isEmpty_nil List.isEmpty_cons Bool.and_true Bool.true_and Bool.or_true Bool.true_or Bool.or_false Bool.false_or Bool.not_true Bool.not_false Nat.add_zero Nat.zero_add Option.isNone_none Option.isNone_some Option.getD_none true_and and_true not_true_eq_false not_false_eq_true decide_true decide_false Nat.le_refl and_self Bool.not_eq_true Nat.sub_self or_true true_or Option.some.injEq List.length_map List.nil_eq and_false false_and AV.live CV.live CV.liveIn K_keep firstReg Option.orElse_some Option.orElse_none head keepSlots keepBoxes Int.lt_irrefl List.length_append ite_self memOK logOps opKey lentBoxes Key.clash Key.sees Key.writes Nat.lt_irrefl gt_iff_lt nobox_at bot_at false_or or_false beq_self_eq_true Bool.true_beq Bool.false_beq
attribute [local go_sem] ty_shapeT_38 ty_zeroCells_38 ty_szOf_38 ty_fieldOff_92_2 ty_szOf_4 ty_shapeT_4 ty_fieldOff_38_0 ty_szOf_36 ty_shapeT_36 ty_zeroCells_46 ty_szOf_46 good_34 good_35 ty_fieldOff_46_1 ty_szOf_30 ty_shapeT_30 good_36 ty_fieldOff_92_1 ty_szOf_3 ty_shapeT_3 good_37 ty_fieldOff_38_1 ty_szOf_9 ty_shapeT_9 ty_fieldOff_92_0 ty_szOf_39 ty_shapeT_39 ty_shapeT_46 good_38 keep_24_4 keep_24_6

theorem reach_if3 {α : Type} {ops ops' ops2 : List Oper} {n j i n' j' i' n2 j2 i2 : Nat} {a b : α} (h : (reach ops n j i && (reach ops' n' j' i' && reach ops2 n2 j2 i2)) = true) : (if (reach ops n j i && (reach ops' n' j' i' && reach ops2 n2 j2 i2)) = true then a else b) = a := if_pos h

abbrev encQ (l : List Prt) : List (List PV) := l.map Prt.enc
theorem encQ_len (l : List Prt) : (encQ l).length = l.length := List.length_map ..
theorem lens_prts (l : List Prt) : lens 2 (encQ l) = true := by
  simp only [lens, List.all_map, List.all_eq_true]
  intro x _
  rfl
theorem lens_prt (a b : PV) : lens 2 [[a, b]] = true := rfl
theorem snoc_prt (l : List Prt) (cb : Int) (acc : List Sim) : encQ l ++ [[.int .i64 cb, .sl (Sim.encL acc)]] = encQ (l ++ [⟨cb, acc⟩]) := by
  show _ = (l ++ [(⟨cb, acc⟩ : Prt)]).map Prt.enc
  rw [List.map_append, Sim.encL_map]; rfl

abbrev cx4H (l : List Val) (i : Nat) (cb : Int) (e : Nat) (ps : List Prt) : St :=
  { sl := upd (upd (upd (upd bot 6 (I cb)) 5 (.c (.loc 5 0))) 4 (.c (.loc 10 0))) 2 (.c (.loc 2 0)),
    bx := upd (upd (upd nobox 10 (some (rb0 l i false))) 5 (some [.own e (encQ ps), .pv (.str [])])) 2 (some zcpx), nt := 141 }
noncomputable def cxlp : Code := .loop (loopAt Tryd.f24 4)

theorem cpx_full (l : List Val) (i : Nat) (cb : Int) (e : Nat) (ps : List Prt) (h : ¬ ps.length < 16) :
    Ends (exL K 24 cxlp (cx4H l i cb e ps)) fun o S => o = .exit 0 ∧ S.nt = 141 ∧ S.sl 2 = .c (.loc 2 0) ∧ S.bx 2 = some zcpx := by
  have e1 : decide ((ps.length : Int) < 16) = false := decide_eq_false (by omega)
  unfold cxlp
  conv in loopAt _ _ => whnf
  rw [exL_loop]
  simp only [go_sem, Nat.reduceLT, reduceIte, reduceCtorEq, Nat.reduceEqDiff, apply_ite (Option.map (outOf _)), Nat.reduceBEq, Nat.reduceAdd, Nat.reduceSub, Nat.reduceLeDiff, Nat.reduceMul, ev_build ty_zeroCells_92 ty_placesOf_92, ev_build ty_zeroCells_38 ty_placesOf_38, ev_len_sl ty_descOf_36, ev_build ty_zeroCells_46 ty_placesOf_46, ev_len_sl ty_descOf_30, ev_buildSlice (len := 1) ty_descOf_30 ty_szOf_32 ty_zeroCells_32 ⟨rfl, by decide, by decide⟩, ev_append ty_appInfo_30, ev_appNew_sl ty_descOf_30, ev_len_sl ty_descOf_39, ev_buildSlice (len := 1) ty_descOf_36 ty_szOf_46 ty_zeroCells_46 ⟨rfl, by decide, by decide⟩, ev_append ty_appInfo_36, ev_appNew_sl ty_descOf_36, encQ_len, e1, ends_some]

/-- nothing is read -/
def CNo (o : Out) (S : St) : Prop := o = .ret ∧ S.sl 2 = .c (.loc 2 0) ∧ S.sl 3 = B false ∧ S.bx 2 = some [.nils, .pv (.str [])]
/-- something is -/
def CYes (ps : List Prt) (s : List UInt8) (o : Out) (S : St) : Prop := o = .ret ∧ S.sl 2 = .c (.loc 2 0) ∧ S.sl 3 = B true ∧ S.bx 2 = some [.pv (.sl (encQ ps)), .pv (.str s)]

set_option maxHeartbeats 8000000 in
theorem cpx_bad (l : List Val) (i : Nat) (cb : Int) (e : Nat) (ps : List Prt) (hl : l.length ≤ 100000000) (h16 : ps.length < 16) (he : e = 46 ∨ ps = []) (S : St) (w : exL K 24 palp (partH l i false cb 0 [] e (encQ ps)) = some (.exit 2, S)) (hk : PKept S e (encQ ps)) (j e7 : Nat) (acc : List Sim) (gb10 : S.bx 10 = some (rb0 l j true)) (gb7 : S.bx 7 = some (pcell cb e7 acc)) :
    Ends (exL K 24 cxlp (cx4H l i cb e ps)) fun o S => CNo o S := by
  have e16 : decide ((ps.length : Int) < 16) = true := decide_eq_true (by omega)
  have hown : e = 46 ∨ (encQ ps).isEmpty = true := by
    rcases he with rfl | rfl
    · exact .inl rfl
    · exact .inr rfl
  have hlim : ps.length + 1 < appLim := by unfold appLim; omega
  have hlv := lens_prts ps
  unfold PKept at hk
  obtain ⟨gn, g2, g4, g5, g7, gb2, gb5⟩ := hk
  simp only [rb0, pcell] at gb10 gb7
  unfold palp at w
  conv at w in loopAt _ _ => whnf
  simp only [partH, rb0, pcell] at w
  unfold cxlp
  conv in loopAt _ _ => whnf
  unfold CNo
  rw [exL_loop]
  simp only [go_sem, Nat.reduceLT, reduceIte, reduceCtorEq, Nat.reduceEqDiff, apply_ite (Option.map (outOf _)), Nat.reduceBEq, Nat.reduceAdd, Nat.reduceSub, Nat.reduceLeDiff, Nat.reduceMul, ev_build ty_zeroCells_92 ty_placesOf_92, ev_build ty_zeroCells_38 ty_placesOf_38, ev_len_sl ty_descOf_36, ev_build ty_zeroCells_46 ty_placesOf_46, ev_len_sl ty_descOf_30, ev_buildSlice (len := 1) ty_descOf_30 ty_szOf_32 ty_zeroCells_32 ⟨rfl, by decide, by decide⟩, ev_append ty_appInfo_30, ev_appNew_sl ty_descOf_30, ev_len_sl ty_descOf_39, ev_buildSlice (len := 1) ty_descOf_36 ty_szOf_46 ty_zeroCells_46 ⟨rfl, by decide, by decide⟩, ev_append ty_appInfo_36, ev_appNew_sl ty_descOf_36, encQ_len, e16]
  rw [exL_head]
  simp only [go_sem, Nat.reduceLT, reduceIte, reduceCtorEq, Nat.reduceEqDiff, apply_ite (Option.map (outOf _)), Nat.reduceBEq, Nat.reduceAdd, Nat.reduceSub, Nat.reduceLeDiff, Nat.reduceMul, ev_build ty_zeroCells_92 ty_placesOf_92, ev_build ty_zeroCells_38 ty_placesOf_38, ev_len_sl ty_descOf_36, ev_build ty_zeroCells_46 ty_placesOf_46, ev_len_sl ty_descOf_30, ev_buildSlice (len := 1) ty_descOf_30 ty_szOf_32 ty_zeroCells_32 ⟨rfl, by decide, by decide⟩, ev_append ty_appInfo_30, ev_appNew_sl ty_descOf_30, ev_len_sl ty_descOf_39, ev_buildSlice (len := 1) ty_descOf_36 ty_szOf_46 ty_zeroCells_46 ⟨rfl, by decide, by decide⟩, ev_append ty_appInfo_36, ev_appNew_sl ty_descOf_36, encQ_len, e16]
  erw [w]
  simp only [go_sem, Nat.reduceLT, reduceIte, reduceCtorEq, Nat.reduceEqDiff, apply_ite (Option.map (outOf _)), Nat.reduceBEq, Nat.reduceAdd, Nat.reduceSub, Nat.reduceLeDiff, Nat.reduceMul, ev_build ty_zeroCells_92 ty_placesOf_92, ev_build ty_zeroCells_38 ty_placesOf_38, ev_len_sl ty_descOf_36, ev_build ty_zeroCells_46 ty_placesOf_46, ev_len_sl ty_descOf_30, ev_buildSlice (len := 1) ty_descOf_30 ty_szOf_32 ty_zeroCells_32 ⟨rfl, by decide, by decide⟩, ev_append ty_appInfo_30, ev_appNew_sl ty_descOf_30, ev_len_sl ty_descOf_39, ev_buildSlice (len := 1) ty_descOf_36 ty_szOf_46 ty_zeroCells_46 ⟨rfl, by decide, by decide⟩, ev_append ty_appInfo_36, ev_appNew_sl ty_descOf_36, encQ_len, e16, hown, hlim, hlv, lens_prt, snoc_prt, encS_len, gn, g2, g4, g5, g7, gb2, gb5, gb7, gb10, ends_some]

set_option maxHeartbeats 8000000 in
theorem cpx_wrong (l : List Val) (i : Nat) (cb : Int) (e : Nat) (ps : List Prt) (hl : l.length ≤ 100000000) (h16 : ps.length < 16) (he : e = 46 ∨ ps = []) (S : St) (w : exL K 24 palp (partH l i false cb 0 [] e (encQ ps)) = some (.exit 2, S)) (hk : PKept S e (encQ ps)) (j e7 : Nat) (acc : List Sim) (hj : j ≤ l.length) (hd : Sl.double (l.drop j) = false) (hw : 8 < acc.length ∨ acc = []) (gb10 : S.bx 10 = some (rb0 l j false)) (gb7 : S.bx 7 = some (pcell cb e7 acc)) :
    Ends (exL K 24 cxlp (cx4H l i cb e ps)) fun o S => CNo o S := by
  have dd := double_den l j false hl (by omega)
  rw [hd] at dd
  simp only [rb0] at dd
  have e16 : decide ((ps.length : Int) < 16) = true := decide_eq_true (by omega)
  have hown : e = 46 ∨ (encQ ps).isEmpty = true := by
    rcases he with rfl | rfl
    · exact .inl rfl
    · exact .inr rfl
  have hlim : ps.length + 1 < appLim := by unfold appLim; omega
  have hlv := lens_prts ps
  unfold PKept at hk
  obtain ⟨gn, g2, g4, g5, g7, gb2, gb5⟩ := hk
  simp only [rb0, pcell] at gb10 gb7
  unfold palp at w
  conv at w in loopAt _ _ => whnf
  simp only [partH, rb0, pcell] at w
  unfold cxlp
  conv in loopAt _ _ => whnf
  unfold CNo
  by_cases h8 : 8 < acc.length
  · have e8 : decide ((8 : Int) < (acc.length : Int)) = true := decide_eq_true (by omega)
    rw [exL_loop]
    simp only [go_sem, Nat.reduceLT, reduceIte, reduceCtorEq, Nat.reduceEqDiff, apply_ite (Option.map (outOf _)), Nat.reduceBEq, Nat.reduceAdd, Nat.reduceSub, Nat.reduceLeDiff, Nat.reduceMul, ev_build ty_zeroCells_92 ty_placesOf_92, ev_build ty_zeroCells_38 ty_placesOf_38, ev_len_sl ty_descOf_36, ev_build ty_zeroCells_46 ty_placesOf_46, ev_len_sl ty_descOf_30, ev_buildSlice (len := 1) ty_descOf_30 ty_szOf_32 ty_zeroCells_32 ⟨rfl, by decide, by decide⟩, ev_append ty_appInfo_30, ev_appNew_sl ty_descOf_30, ev_len_sl ty_descOf_39, ev_buildSlice (len := 1) ty_descOf_36 ty_szOf_46 ty_zeroCells_46 ⟨rfl, by decide, by decide⟩, ev_append ty_appInfo_36, ev_appNew_sl ty_descOf_36, encQ_len, e16]
    rw [exL_head]
    simp only [go_sem, Nat.reduceLT, reduceIte, reduceCtorEq, Nat.reduceEqDiff, apply_ite (Option.map (outOf _)), Nat.reduceBEq, Nat.reduceAdd, Nat.reduceSub, Nat.reduceLeDiff, Nat.reduceMul, ev_build ty_zeroCells_92 ty_placesOf_92, ev_build ty_zeroCells_38 ty_placesOf_38, ev_len_sl ty_descOf_36, ev_build ty_zeroCells_46 ty_placesOf_46, ev_len_sl ty_descOf_30, ev_buildSlice (len := 1) ty_descOf_30 ty_szOf_32 ty_zeroCells_32 ⟨rfl, by decide, by decide⟩, ev_append ty_appInfo_30, ev_appNew_sl ty_descOf_30, ev_len_sl ty_descOf_39, ev_buildSlice (len := 1) ty_descOf_36 ty_szOf_46 ty_zeroCells_46 ⟨rfl, by decide, by decide⟩, ev_append ty_appInfo_36, ev_appNew_sl ty_descOf_36, encQ_len, e16]
    erw [w]
    simp only [go_sem, Nat.reduceLT, reduceIte, reduceCtorEq, Nat.reduceEqDiff, apply_ite (Option.map (outOf _)), Nat.reduceBEq, Nat.reduceAdd, Nat.reduceSub, Nat.reduceLeDiff, Nat.reduceMul, ev_build ty_zeroCells_92 ty_placesOf_92, ev_build ty_zeroCells_38 ty_placesOf_38, ev_len_sl ty_descOf_36, ev_build ty_zeroCells_46 ty_placesOf_46, ev_len_sl ty_descOf_30, ev_buildSlice (len := 1) ty_descOf_30 ty_szOf_32 ty_zeroCells_32 ⟨rfl, by decide, by decide⟩, ev_append ty_appInfo_30, ev_appNew_sl ty_descOf_30, ev_len_sl ty_descOf_39, ev_buildSlice (len := 1) ty_descOf_36 ty_szOf_46 ty_zeroCells_46 ⟨rfl, by decide, by decide⟩, ev_append ty_appInfo_36, ev_appNew_sl ty_descOf_36, encQ_len, e16, hown, hlim, hlv, lens_prt, snoc_prt, encS_len, gn, g2, g4, g5, g7, gb2, gb5, gb7, gb10, dd, e8, ends_some]
  · have e8 : decide ((8 : Int) < (acc.length : Int)) = false := decide_eq_false (by omega)
    have e0 : ((acc.length : Int) == 0) = true := by
      rcases hw with h | h
      · exact absurd h h8
      · rw [h]; rfl
    rw [exL_loop]
    simp only [go_sem, Nat.reduceLT, reduceIte, reduceCtorEq, Nat.reduceEqDiff, apply_ite (Option.map (outOf _)), Nat.reduceBEq, Nat.reduceAdd, Nat.reduceSub, Nat.reduceLeDiff, Nat.reduceMul, ev_build ty_zeroCells_92 ty_placesOf_92, ev_build ty_zeroCells_38 ty_placesOf_38, ev_len_sl ty_descOf_36, ev_build ty_zeroCells_46 ty_placesOf_46, ev_len_sl ty_descOf_30, ev_buildSlice (len := 1) ty_descOf_30 ty_szOf_32 ty_zeroCells_32 ⟨rfl, by decide, by decide⟩, ev_append ty_appInfo_30, ev_appNew_sl ty_descOf_30, ev_len_sl ty_descOf_39, ev_buildSlice (len := 1) ty_descOf_36 ty_szOf_46 ty_zeroCells_46 ⟨rfl, by decide, by decide⟩, ev_append ty_appInfo_36, ev_appNew_sl ty_descOf_36, encQ_len, e16]
    rw [exL_head]
    simp only [go_sem, Nat.reduceLT, reduceIte, reduceCtorEq, Nat.reduceEqDiff, apply_ite (Option.map (outOf _)), Nat.reduceBEq, Nat.reduceAdd, Nat.reduceSub, Nat.reduceLeDiff, Nat.reduceMul, ev_build ty_zeroCells_92 ty_placesOf_92, ev_build ty_zeroCells_38 ty_placesOf_38, ev_len_sl ty_descOf_36, ev_build ty_zeroCells_46 ty_placesOf_46, ev_len_sl ty_descOf_30, ev_buildSlice (len := 1) ty_descOf_30 ty_szOf_32 ty_zeroCells_32 ⟨rfl, by decide, by decide⟩, ev_append ty_appInfo_30, ev_appNew_sl ty_descOf_30, ev_len_sl ty_descOf_39, ev_buildSlice (len := 1) ty_descOf_36 ty_szOf_46 ty_zeroCells_46 ⟨rfl, by decide, by decide⟩, ev_append ty_appInfo_36, ev_appNew_sl ty_descOf_36, encQ_len, e16]
    erw [w]
    simp only [go_sem, Nat.reduceLT, reduceIte, reduceCtorEq, Nat.reduceEqDiff, apply_ite (Option.map (outOf _)), Nat.reduceBEq, Nat.reduceAdd, Nat.reduceSub, Nat.reduceLeDiff, Nat.reduceMul, ev_build ty_zeroCells_92 ty_placesOf_92, ev_build ty_zeroCells_38 ty_placesOf_38, ev_len_sl ty_descOf_36, ev_build ty_zeroCells_46 ty_placesOf_46, ev_len_sl ty_descOf_30, ev_buildSlice (len := 1) ty_descOf_30 ty_szOf_32 ty_zeroCells_32 ⟨rfl, by decide, by decide⟩, ev_append ty_appInfo_30, ev_appNew_sl ty_descOf_30, ev_len_sl ty_descOf_39, ev_buildSlice (len := 1) ty_descOf_36 ty_szOf_46 ty_zeroCells_46 ⟨rfl, by decide, by decide⟩, ev_append ty_appInfo_36, ev_appNew_sl ty_descOf_36, encQ_len, e16, hown, hlim, hlv, lens_prt, snoc_prt, encS_len, gn, g2, g4, g5, g7, gb2, gb5, gb7, gb10, dd, e8, e0, ends_some]

set_option maxHeartbeats 8000000 in
theorem cpx_last (l : List Val) (i : Nat) (cb : Int) (e : Nat) (ps : List Prt) (hl : l.length ≤ 100000000) (h16 : ps.length < 16) (he : e = 46 ∨ ps = []) (S : St) (w : exL K 24 palp (partH l i false cb 0 [] e (encQ ps)) = some (.exit 2, S)) (hk : PKept S e (encQ ps)) (e7 : Nat) (acc : List Sim) (hd : Sl.double (l.drop l.length) = false) (h8 : acc.length ≤ 8) (hne : acc ≠ []) (gb10 : S.bx 10 = some (rb0 l l.length false)) (gb7 : S.bx 7 = some (pcell cb e7 acc)) :
    Ends (exL K 24 cxlp (cx4H l i cb e ps)) fun o S => CYes (ps ++ [⟨cb, acc⟩]) [] o S := by
  have dd := double_den l l.length false hl (by omega)
  rw [hd] at dd
  simp only [rb0] at dd
  have en : ((l.length : Int) == (l.length : Int)) = true := beq_self_eq_true _
  have e8 : decide ((8 : Int) < (acc.length : Int)) = false := decide_eq_false (by omega)
  have e0 : ((acc.length : Int) == 0) = false := by
    rw [beq_eq_false_iff_ne]
    intro h
    exact hne (List.eq_nil_of_length_eq_zero (by omega))
  have e16 : decide ((ps.length : Int) < 16) = true := decide_eq_true (by omega)
  have hown : e = 46 ∨ (encQ ps).isEmpty = true := by
    rcases he with rfl | rfl
    · exact .inl rfl
    · exact .inr rfl
  have hlim : ps.length + 1 < appLim := by unfold appLim; omega
  have hlv := lens_prts ps
  unfold PKept at hk
  obtain ⟨gn, g2, g4, g5, g7, gb2, gb5⟩ := hk
  simp only [rb0, pcell] at gb10 gb7
  unfold palp at w
  conv at w in loopAt _ _ => whnf
  simp only [partH, rb0, pcell] at w
  unfold cxlp
  conv in loopAt _ _ => whnf
  unfold CYes
  rw [exL_loop]
  simp only [go_sem, Nat.reduceLT, reduceIte, reduceCtorEq, Nat.reduceEqDiff, apply_ite (Option.map (outOf _)), Nat.reduceBEq, Nat.reduceAdd, Nat.reduceSub, Nat.reduceLeDiff, Nat.reduceMul, ev_build ty_zeroCells_92 ty_placesOf_92, ev_build ty_zeroCells_38 ty_placesOf_38, ev_len_sl ty_descOf_36, ev_build ty_zeroCells_46 ty_placesOf_46, ev_len_sl ty_descOf_30, ev_buildSlice (len := 1) ty_descOf_30 ty_szOf_32 ty_zeroCells_32 ⟨rfl, by decide, by decide⟩, ev_append ty_appInfo_30, ev_appNew_sl ty_descOf_30, ev_len_sl ty_descOf_39, ev_buildSlice (len := 1) ty_descOf_36 ty_szOf_46 ty_zeroCells_46 ⟨rfl, by decide, by decide⟩, ev_append ty_appInfo_36, ev_appNew_sl ty_descOf_36, encQ_len, e16]
  rw [exL_head]
  simp only [go_sem, Nat.reduceLT, reduceIte, reduceCtorEq, Nat.reduceEqDiff, apply_ite (Option.map (outOf _)), Nat.reduceBEq, Nat.reduceAdd, Nat.reduceSub, Nat.reduceLeDiff, Nat.reduceMul, ev_build ty_zeroCells_92 ty_placesOf_92, ev_build ty_zeroCells_38 ty_placesOf_38, ev_len_sl ty_descOf_36, ev_build ty_zeroCells_46 ty_placesOf_46, ev_len_sl ty_descOf_30, ev_buildSlice (len := 1) ty_descOf_30 ty_szOf_32 ty_zeroCells_32 ⟨rfl, by decide, by decide⟩, ev_append ty_appInfo_30, ev_appNew_sl ty_descOf_30, ev_len_sl ty_descOf_39, ev_buildSlice (len := 1) ty_descOf_36 ty_szOf_46 ty_zeroCells_46 ⟨rfl, by decide, by decide⟩, ev_append ty_appInfo_36, ev_appNew_sl ty_descOf_36, encQ_len, e16]
  erw [w]
  simp only [go_sem, Nat.reduceLT, reduceIte, reduceCtorEq, Nat.reduceEqDiff, apply_ite (Option.map (outOf _)), Nat.reduceBEq, Nat.reduceAdd, Nat.reduceSub, Nat.reduceLeDiff, Nat.reduceMul, ev_build ty_zeroCells_92 ty_placesOf_92, ev_build ty_zeroCells_38 ty_placesOf_38, ev_len_sl ty_descOf_36, ev_build ty_zeroCells_46 ty_placesOf_46, ev_len_sl ty_descOf_30, ev_buildSlice (len := 1) ty_descOf_30 ty_szOf_32 ty_zeroCells_32 ⟨rfl, by decide, by decide⟩, ev_append ty_appInfo_30, ev_appNew_sl ty_descOf_30, ev_len_sl ty_descOf_39, ev_buildSlice (len := 1) ty_descOf_36 ty_szOf_46 ty_zeroCells_46 ⟨rfl, by decide, by decide⟩, ev_append ty_appInfo_36, ev_appNew_sl ty_descOf_36, encQ_len, e16, hown, hlim, hlv, lens_prt, snoc_prt, encS_len, gn, g2, g4, g5, g7, gb2, gb5, gb7, gb10, dd, e8, e0, en, encL_len, ends_some]

set_option maxHeartbeats 8000000 in
theorem cpx_more (l : List Val) (i : Nat) (cb : Int) (e : Nat) (ps : List Prt) (hl : l.length ≤ 100000000) (h16 : ps.length < 16) (he : e = 46 ∨ ps = []) (S : St) (w : exL K 24 palp (partH l i false cb 0 [] e (encQ ps)) = some (.exit 2, S)) (hk : PKept S e (encQ ps)) (j e7 : Nat) (acc : List Sim) (hj : j < l.length) (hd : Sl.double (l.drop j) = false) (h8 : acc.length ≤ 8) (hne : acc ≠ []) (gb10 : S.bx 10 = some (rb0 l j false)) (gb7 : S.bx 7 = some (pcell cb e7 acc)) (c : Int) (m : Nat) (hc : den K 38 [P0] [rb0 l j false] = some (.ret (I c) [rb0 l m false])) :
    exL K 24 cxlp (cx4H l i cb e ps) = exL K 24 cxlp (cx4H l m c 46 (ps ++ [⟨cb, acc⟩])) := by
  have dd := double_den l j false hl (by omega)
  rw [hd] at dd
  simp only [rb0] at dd hc
  have en : ((j : Int) == (l.length : Int)) = false := by rw [beq_eq_false_iff_ne]; omega
  have e8 : decide ((8 : Int) < (acc.length : Int)) = false := decide_eq_false (by omega)
  have e0 : ((acc.length : Int) == 0) = false := by
    rw [beq_eq_false_iff_ne]
    intro h
    exact hne (List.eq_nil_of_length_eq_zero (by omega))
  have e16 : decide ((ps.length : Int) < 16) = true := decide_eq_true (by omega)
  have hown : e = 46 ∨ (encQ ps).isEmpty = true := by
    rcases he with rfl | rfl
    · exact .inl rfl
    · exact .inr rfl
  have hlim : ps.length + 1 < appLim := by unfold appLim; omega
  have hlv := lens_prts ps
  unfold PKept at hk
  obtain ⟨gn, g2, g4, g5, g7, gb2, gb5⟩ := hk
  simp only [rb0, pcell] at gb10 gb7
  unfold palp at w
  conv at w in loopAt _ _ => whnf
  simp only [partH, rb0, pcell] at w
  unfold cxlp
  conv in loopAt _ _ => whnf
  conv in loopAt _ _ => whnf
  conv in exL _ _ _ (cx4H l i cb e ps) => rw [exL_loop]
  simp only [go_sem, Nat.reduceLT, reduceIte, reduceCtorEq, Nat.reduceEqDiff, apply_ite (Option.map (outOf _)), Nat.reduceBEq, Nat.reduceAdd, Nat.reduceSub, Nat.reduceLeDiff, Nat.reduceMul, ev_build ty_zeroCells_92 ty_placesOf_92, ev_build ty_zeroCells_38 ty_placesOf_38, ev_len_sl ty_descOf_36, ev_build ty_zeroCells_46 ty_placesOf_46, ev_len_sl ty_descOf_30, ev_buildSlice (len := 1) ty_descOf_30 ty_szOf_32 ty_zeroCells_32 ⟨rfl, by decide, by decide⟩, ev_append ty_appInfo_30, ev_appNew_sl ty_descOf_30, ev_len_sl ty_descOf_39, ev_buildSlice (len := 1) ty_descOf_36 ty_szOf_46 ty_zeroCells_46 ⟨rfl, by decide, by decide⟩, ev_append ty_appInfo_36, ev_appNew_sl ty_descOf_36, encQ_len, e16]
  rw [exL_head]
  simp only [go_sem, Nat.reduceLT, reduceIte, reduceCtorEq, Nat.reduceEqDiff, apply_ite (Option.map (outOf _)), Nat.reduceBEq, Nat.reduceAdd, Nat.reduceSub, Nat.reduceLeDiff, Nat.reduceMul, ev_build ty_zeroCells_92 ty_placesOf_92, ev_build ty_zeroCells_38 ty_placesOf_38, ev_len_sl ty_descOf_36, ev_build ty_zeroCells_46 ty_placesOf_46, ev_len_sl ty_descOf_30, ev_buildSlice (len := 1) ty_descOf_30 ty_szOf_32 ty_zeroCells_32 ⟨rfl, by decide, by decide⟩, ev_append ty_appInfo_30, ev_appNew_sl ty_descOf_30, ev_len_sl ty_descOf_39, ev_buildSlice (len := 1) ty_descOf_36 ty_szOf_46 ty_zeroCells_46 ⟨rfl, by decide, by decide⟩, ev_append ty_appInfo_36, ev_appNew_sl ty_descOf_36, encQ_len, e16]
  erw [w]
  simp only [go_sem, Nat.reduceLT, reduceIte, reduceCtorEq, Nat.reduceEqDiff, apply_ite (Option.map (outOf _)), Nat.reduceBEq, Nat.reduceAdd, Nat.reduceSub, Nat.reduceLeDiff, Nat.reduceMul, ev_build ty_zeroCells_92 ty_placesOf_92, ev_build ty_zeroCells_38 ty_placesOf_38, ev_len_sl ty_descOf_36, ev_build ty_zeroCells_46 ty_placesOf_46, ev_len_sl ty_descOf_30, ev_buildSlice (len := 1) ty_descOf_30 ty_szOf_32 ty_zeroCells_32 ⟨rfl, by decide, by decide⟩, ev_append ty_appInfo_30, ev_appNew_sl ty_descOf_30, ev_len_sl ty_descOf_39, ev_buildSlice (len := 1) ty_descOf_36 ty_szOf_46 ty_zeroCells_46 ⟨rfl, by decide, by decide⟩, ev_append ty_appInfo_36, ev_appNew_sl ty_descOf_36, encQ_len, e16, hown, hlim, hlv, lens_prt, snoc_prt, encS_len, gn, g2, g4, g5, g7, gb2, gb5, gb7, gb10, dd, e8, e0, en, hc, encL_len]
  rw [exL_head]
  simp only [go_sem, Nat.reduceLT, reduceIte, reduceCtorEq, Nat.reduceEqDiff, apply_ite (Option.map (outOf _)), Nat.reduceBEq, Nat.reduceAdd, Nat.reduceSub, Nat.reduceLeDiff, Nat.reduceMul, ev_build ty_zeroCells_92 ty_placesOf_92, ev_build ty_zeroCells_38 ty_placesOf_38, ev_len_sl ty_descOf_36, ev_build ty_zeroCells_46 ty_placesOf_46, ev_len_sl ty_descOf_30, ev_buildSlice (len := 1) ty_descOf_30 ty_szOf_32 ty_zeroCells_32 ⟨rfl, by decide, by decide⟩, ev_append ty_appInfo_30, ev_appNew_sl ty_descOf_30, ev_len_sl ty_descOf_39, ev_buildSlice (len := 1) ty_descOf_36 ty_szOf_46 ty_zeroCells_46 ⟨rfl, by decide, by decide⟩, ev_append ty_appInfo_36, ev_appNew_sl ty_descOf_36, snoc_prt, gn, g2, g4, g5, g7, gb2]

set_option maxHeartbeats 8000000 in
theorem cpx_pnone (l : List Val) (i : Nat) (cb : Int) (e : Nat) (ps : List Prt) (hl : l.length ≤ 100000000) (h16 : ps.length < 16) (he : e = 46 ∨ ps = []) (S : St) (w : exL K 24 palp (partH l i false cb 0 [] e (encQ ps)) = some (.exit 2, S)) (hk : PKept S e (encQ ps)) (j e7 : Nat) (acc : List Sim) (hj : j < l.length) (hd : Sl.double (l.drop j) = true) (hn : Sl.name (l.drop (j + 2)) = none) (gb10 : S.bx 10 = some (rb0 l j false)) (gb7 : S.bx 7 = some (pcell cb e7 acc)) :
    Ends (exL K 24 cxlp (cx4H l i cb e ps)) fun o S => CNo o S := by
  have dd := double_den l j false hl (by omega)
  rw [hd] at dd
  simp only [rb0] at dd
  have w2 : IntKind.i64.wrap ((j : Int) + 2) = ((j + 2 : Nat) : Int) := by rw [IntWalk.i64_in _ (by omega)]; omega
  have nm := name0_no l (j + 2) false hl hn
  simp only [rb0] at nm
  have e16 : decide ((ps.length : Int) < 16) = true := decide_eq_true (by omega)
  have hown : e = 46 ∨ (encQ ps).isEmpty = true := by
    rcases he with rfl | rfl
    · exact .inl rfl
    · exact .inr rfl
  have hlim : ps.length + 1 < appLim := by unfold appLim; omega
  have hlv := lens_prts ps
  unfold PKept at hk
  obtain ⟨gn, g2, g4, g5, g7, gb2, gb5⟩ := hk
  simp only [rb0, pcell] at gb10 gb7
  unfold palp at w
  conv at w in loopAt _ _ => whnf
  simp only [partH, rb0, pcell] at w
  unfold cxlp
  conv in loopAt _ _ => whnf
  unfold CNo
  rw [exL_loop]
  simp only [go_sem, Nat.reduceLT, reduceIte, reduceCtorEq, Nat.reduceEqDiff, apply_ite (Option.map (outOf _)), Nat.reduceBEq, Nat.reduceAdd, Nat.reduceSub, Nat.reduceLeDiff, Nat.reduceMul, ev_build ty_zeroCells_92 ty_placesOf_92, ev_build ty_zeroCells_38 ty_placesOf_38, ev_len_sl ty_descOf_36, ev_build ty_zeroCells_46 ty_placesOf_46, ev_len_sl ty_descOf_30, ev_buildSlice (len := 1) ty_descOf_30 ty_szOf_32 ty_zeroCells_32 ⟨rfl, by decide, by decide⟩, ev_append ty_appInfo_30, ev_appNew_sl ty_descOf_30, ev_len_sl ty_descOf_39, ev_buildSlice (len := 1) ty_descOf_36 ty_szOf_46 ty_zeroCells_46 ⟨rfl, by decide, by decide⟩, ev_append ty_appInfo_36, ev_appNew_sl ty_descOf_36, encQ_len, e16]
  rw [exL_head]
  simp only [go_sem, Nat.reduceLT, reduceIte, reduceCtorEq, Nat.reduceEqDiff, apply_ite (Option.map (outOf _)), Nat.reduceBEq, Nat.reduceAdd, Nat.reduceSub, Nat.reduceLeDiff, Nat.reduceMul, ev_build ty_zeroCells_92 ty_placesOf_92, ev_build ty_zeroCells_38 ty_placesOf_38, ev_len_sl ty_descOf_36, ev_build ty_zeroCells_46 ty_placesOf_46, ev_len_sl ty_descOf_30, ev_buildSlice (len := 1) ty_descOf_30 ty_szOf_32 ty_zeroCells_32 ⟨rfl, by decide, by decide⟩, ev_append ty_appInfo_30, ev_appNew_sl ty_descOf_30, ev_len_sl ty_descOf_39, ev_buildSlice (len := 1) ty_descOf_36 ty_szOf_46 ty_zeroCells_46 ⟨rfl, by decide, by decide⟩, ev_append ty_appInfo_36, ev_appNew_sl ty_descOf_36, encQ_len, e16]
  erw [w]
  simp only [go_sem, Nat.reduceLT, reduceIte, reduceCtorEq, Nat.reduceEqDiff, apply_ite (Option.map (outOf _)), Nat.reduceBEq, Nat.reduceAdd, Nat.reduceSub, Nat.reduceLeDiff, Nat.reduceMul, ev_build ty_zeroCells_92 ty_placesOf_92, ev_build ty_zeroCells_38 ty_placesOf_38, ev_len_sl ty_descOf_36, ev_build ty_zeroCells_46 ty_placesOf_46, ev_len_sl ty_descOf_30, ev_buildSlice (len := 1) ty_descOf_30 ty_szOf_32 ty_zeroCells_32 ⟨rfl, by decide, by decide⟩, ev_append ty_appInfo_30, ev_appNew_sl ty_descOf_30, ev_len_sl ty_descOf_39, ev_buildSlice (len := 1) ty_descOf_36 ty_szOf_46 ty_zeroCells_46 ⟨rfl, by decide, by decide⟩, ev_append ty_appInfo_36, ev_appNew_sl ty_descOf_36, encQ_len, e16, hown, hlim, hlv, lens_prt, snoc_prt, encS_len, gn, g2, g4, g5, g7, gb2, gb5, gb7, gb10, dd, w2, nm, ends_some]
  first | rw [reach_if] | rw [reach_if2] | rw [reach_if3]
  rotate_left
  · kernel_rfl
  simp only [go_sem, Nat.reduceLT, reduceIte, reduceCtorEq, Nat.reduceEqDiff, apply_ite (Option.map (outOf _)), Nat.reduceBEq, Nat.reduceAdd, Nat.reduceSub, Nat.reduceLeDiff, Nat.reduceMul, ev_build ty_zeroCells_92 ty_placesOf_92, ev_build ty_zeroCells_38 ty_placesOf_38, ev_len_sl ty_descOf_36, ev_build ty_zeroCells_46 ty_placesOf_46, ev_len_sl ty_descOf_30, ev_buildSlice (len := 1) ty_descOf_30 ty_szOf_32 ty_zeroCells_32 ⟨rfl, by decide, by decide⟩, ev_append ty_appInfo_30, ev_appNew_sl ty_descOf_30, ev_len_sl ty_descOf_39, ev_buildSlice (len := 1) ty_descOf_36 ty_szOf_46 ty_zeroCells_46 ⟨rfl, by decide, by decide⟩, ev_append ty_appInfo_36, ev_appNew_sl ty_descOf_36, encQ_len, e16, hown, hlim, hlv, lens_prt, snoc_prt, encS_len, gn, g2, g4, g5, g7, gb2, gb5, gb7, gb10, dd, w2, nm, ends_some]

theorem pse_ne : (Sl.beforeT == []) = false ∧ (Sl.afterT == []) = false ∧ (Sl.beforeT == [97, 102, 116, 101, 114]) = false := ⟨rfl, rfl, rfl⟩

set_option maxHeartbeats 8000000 in
theorem cpx_pseudo (l : List Val) (i : Nat) (cb : Int) (e : Nat) (ps : List Prt) (hl : l.length ≤ 100000000) (h16 : ps.length < 16) (he : e = 46 ∨ ps = []) (S : St) (w : exL K 24 palp (partH l i false cb 0 [] e (encQ ps)) = some (.exit 2, S)) (hk : PKept S e (encQ ps)) (j e7 : Nat) (acc : List Sim) (hj : j < l.length) (hd : Sl.double (l.drop j) = true) (s : List UInt8) (r : List Val) (hn : Sl.name (l.drop (j + 2)) = some (s, r)) (gb10 : S.bx 10 = some (rb0 l j false)) (gb7 : S.bx 7 = some (pcell cb e7 acc)) :
    if r = [] ∧ (s = Sl.beforeT ∨ s = Sl.afterT) ∧ acc.length ≤ 8 then Ends (exL K 24 cxlp (cx4H l i cb e ps)) (fun o S => CYes (ps ++ [⟨cb, acc⟩]) s o S) else Ends (exL K 24 cxlp (cx4H l i cb e ps)) fun o S => CNo o S := by
  have dd := double_den l j false hl (by omega)
  rw [hd] at dd
  simp only [rb0] at dd
  have w2 : IntKind.i64.wrap ((j : Int) + 2) = ((j + 2 : Nat) : Int) := by rw [IntWalk.i64_in _ (by omega)]; omega
  obtain ⟨nm, nd, ni⟩ := name0_yes l (j + 2) false hl s r hn
  simp only [rb0] at nm
  have e16 : decide ((ps.length : Int) < 16) = true := decide_eq_true (by omega)
  have hown : e = 46 ∨ (encQ ps).isEmpty = true := by
    rcases he with rfl | rfl
    · exact .inl rfl
    · exact .inr rfl
  have hlim : ps.length + 1 < appLim := by unfold appLim; omega
  have hlv := lens_prts ps
  unfold PKept at hk
  obtain ⟨gn, g2, g4, g5, g7, gb2, gb5⟩ := hk
  simp only [rb0, pcell] at gb10 gb7
  unfold palp at w
  conv at w in loopAt _ _ => whnf
  simp only [partH, rb0, pcell] at w
  by_cases h1 : s = Sl.beforeT ∨ s = Sl.afterT
  · have hb : ∃ b, (s != [98, 101, 102, 111, 114, 101]) = b ∧ (b = true → (s != [97, 102, 116, 101, 114]) = false) ∧ (s == []) = false := by
      rcases h1 with rfl | rfl
      · exact ⟨false, rfl, (fun h => by cases h), rfl⟩
      · exact ⟨true, rfl, (fun _ => rfl), rfl⟩
    obtain ⟨b, b1, b2, b3⟩ := hb
    by_cases h2 : r = []
    · have hjl : j + 3 = l.length := by
        rw [h2] at nd
        have := List.drop_eq_nil_iff.1 nd
        omega
      have e2 : decide (((j + 2 + 1 : Nat) : Int) < (l.length : Int)) = false := decide_eq_false (by omega)
      have en : (((j + 2 + 1 : Nat) : Int) == (l.length : Int)) = true := by rw [beq_iff_eq]; omega
      by_cases h8 : acc.length ≤ 8
      · rw [if_pos (show r = [] ∧ (s = Sl.beforeT ∨ s = Sl.afterT) ∧ acc.length ≤ 8 from ⟨h2, h1, h8⟩)]
        unfold CYes
        have e8 : decide ((8 : Int) < (acc.length : Int)) = false := decide_eq_false (by omega)
        cases h0 : ((acc.length : Int) == 0)
        all_goals
          cases b
          · unfold cxlp
            conv in loopAt _ _ => whnf
            rw [exL_loop]
            simp only [go_sem, Nat.reduceLT, reduceIte, reduceCtorEq, Nat.reduceEqDiff, apply_ite (Option.map (outOf _)), Nat.reduceBEq, Nat.reduceAdd, Nat.reduceSub, Nat.reduceLeDiff, Nat.reduceMul, ev_build ty_zeroCells_92 ty_placesOf_92, ev_build ty_zeroCells_38 ty_placesOf_38, ev_len_sl ty_descOf_36, ev_build ty_zeroCells_46 ty_placesOf_46, ev_len_sl ty_descOf_30, ev_buildSlice (len := 1) ty_descOf_30 ty_szOf_32 ty_zeroCells_32 ⟨rfl, by decide, by decide⟩, ev_append ty_appInfo_30, ev_appNew_sl ty_descOf_30, ev_len_sl ty_descOf_39, ev_buildSlice (len := 1) ty_descOf_36 ty_szOf_46 ty_zeroCells_46 ⟨rfl, by decide, by decide⟩, ev_append ty_appInfo_36, ev_appNew_sl ty_descOf_36, encQ_len, e16]
            rw [exL_head]
            simp only [go_sem, Nat.reduceLT, reduceIte, reduceCtorEq, Nat.reduceEqDiff, apply_ite (Option.map (outOf _)), Nat.reduceBEq, Nat.reduceAdd, Nat.reduceSub, Nat.reduceLeDiff, Nat.reduceMul, ev_build ty_zeroCells_92 ty_placesOf_92, ev_build ty_zeroCells_38 ty_placesOf_38, ev_len_sl ty_descOf_36, ev_build ty_zeroCells_46 ty_placesOf_46, ev_len_sl ty_descOf_30, ev_buildSlice (len := 1) ty_descOf_30 ty_szOf_32 ty_zeroCells_32 ⟨rfl, by decide, by decide⟩, ev_append ty_appInfo_30, ev_appNew_sl ty_descOf_30, ev_len_sl ty_descOf_39, ev_buildSlice (len := 1) ty_descOf_36 ty_szOf_46 ty_zeroCells_46 ⟨rfl, by decide, by decide⟩, ev_append ty_appInfo_36, ev_appNew_sl ty_descOf_36, encQ_len, e16]
            erw [w]
            simp only [go_sem, Nat.reduceLT, reduceIte, reduceCtorEq, Nat.reduceEqDiff, apply_ite (Option.map (outOf _)), Nat.reduceBEq, Nat.reduceAdd, Nat.reduceSub, Nat.reduceLeDiff, Nat.reduceMul, ev_build ty_zeroCells_92 ty_placesOf_92, ev_build ty_zeroCells_38 ty_placesOf_38, ev_len_sl ty_descOf_36, ev_build ty_zeroCells_46 ty_placesOf_46, ev_len_sl ty_descOf_30, ev_buildSlice (len := 1) ty_descOf_30 ty_szOf_32 ty_zeroCells_32 ⟨rfl, by decide, by decide⟩, ev_append ty_appInfo_30, ev_appNew_sl ty_descOf_30, ev_len_sl ty_descOf_39, ev_buildSlice (len := 1) ty_descOf_36 ty_szOf_46 ty_zeroCells_46 ⟨rfl, by decide, by decide⟩, ev_append ty_appInfo_36, ev_appNew_sl ty_descOf_36, encQ_len, e16, hown, hlim, hlv, lens_prt, snoc_prt, encS_len, gn, g2, g4, g5, g7, gb2, gb5, gb7, gb10, dd, w2, nm, b1, b3, e2, e8, h0, en, encL_len, ends_some]
            first | rw [reach_if] | rw [reach_if2] | rw [reach_if3]
            rotate_left
            · kernel_rfl
            simp only [go_sem, Nat.reduceLT, reduceIte, reduceCtorEq, Nat.reduceEqDiff, apply_ite (Option.map (outOf _)), Nat.reduceBEq, Nat.reduceAdd, Nat.reduceSub, Nat.reduceLeDiff, Nat.reduceMul, ev_build ty_zeroCells_92 ty_placesOf_92, ev_build ty_zeroCells_38 ty_placesOf_38, ev_len_sl ty_descOf_36, ev_build ty_zeroCells_46 ty_placesOf_46, ev_len_sl ty_descOf_30, ev_buildSlice (len := 1) ty_descOf_30 ty_szOf_32 ty_zeroCells_32 ⟨rfl, by decide, by decide⟩, ev_append ty_appInfo_30, ev_appNew_sl ty_descOf_30, ev_len_sl ty_descOf_39, ev_buildSlice (len := 1) ty_descOf_36 ty_szOf_46 ty_zeroCells_46 ⟨rfl, by decide, by decide⟩, ev_append ty_appInfo_36, ev_appNew_sl ty_descOf_36, encQ_len, e16, hown, hlim, hlv, lens_prt, snoc_prt, encS_len, gn, g2, g4, g5, g7, gb2, gb5, gb7, gb10, dd, w2, nm, b1, b3, e2, e8, h0, en, encL_len, ends_some]
          · have b4 := b2 rfl
            unfold cxlp
            conv in loopAt _ _ => whnf
            rw [exL_loop]
            simp only [go_sem, Nat.reduceLT, reduceIte, reduceCtorEq, Nat.reduceEqDiff, apply_ite (Option.map (outOf _)), Nat.reduceBEq, Nat.reduceAdd, Nat.reduceSub, Nat.reduceLeDiff, Nat.reduceMul, ev_build ty_zeroCells_92 ty_placesOf_92, ev_build ty_zeroCells_38 ty_placesOf_38, ev_len_sl ty_descOf_36, ev_build ty_zeroCells_46 ty_placesOf_46, ev_len_sl ty_descOf_30, ev_buildSlice (len := 1) ty_descOf_30 ty_szOf_32 ty_zeroCells_32 ⟨rfl, by decide, by decide⟩, ev_append ty_appInfo_30, ev_appNew_sl ty_descOf_30, ev_len_sl ty_descOf_39, ev_buildSlice (len := 1) ty_descOf_36 ty_szOf_46 ty_zeroCells_46 ⟨rfl, by decide, by decide⟩, ev_append ty_appInfo_36, ev_appNew_sl ty_descOf_36, encQ_len, e16]
            rw [exL_head]
            simp only [go_sem, Nat.reduceLT, reduceIte, reduceCtorEq, Nat.reduceEqDiff, apply_ite (Option.map (outOf _)), Nat.reduceBEq, Nat.reduceAdd, Nat.reduceSub, Nat.reduceLeDiff, Nat.reduceMul, ev_build ty_zeroCells_92 ty_placesOf_92, ev_build ty_zeroCells_38 ty_placesOf_38, ev_len_sl ty_descOf_36, ev_build ty_zeroCells_46 ty_placesOf_46, ev_len_sl ty_descOf_30, ev_buildSlice (len := 1) ty_descOf_30 ty_szOf_32 ty_zeroCells_32 ⟨rfl, by decide, by decide⟩, ev_append ty_appInfo_30, ev_appNew_sl ty_descOf_30, ev_len_sl ty_descOf_39, ev_buildSlice (len := 1) ty_descOf_36 ty_szOf_46 ty_zeroCells_46 ⟨rfl, by decide, by decide⟩, ev_append ty_appInfo_36, ev_appNew_sl ty_descOf_36, encQ_len, e16]
            erw [w]
            simp only [go_sem, Nat.reduceLT, reduceIte, reduceCtorEq, Nat.reduceEqDiff, apply_ite (Option.map (outOf _)), Nat.reduceBEq, Nat.reduceAdd, Nat.reduceSub, Nat.reduceLeDiff, Nat.reduceMul, ev_build ty_zeroCells_92 ty_placesOf_92, ev_build ty_zeroCells_38 ty_placesOf_38, ev_len_sl ty_descOf_36, ev_build ty_zeroCells_46 ty_placesOf_46, ev_len_sl ty_descOf_30, ev_buildSlice (len := 1) ty_descOf_30 ty_szOf_32 ty_zeroCells_32 ⟨rfl, by decide, by decide⟩, ev_append ty_appInfo_30, ev_appNew_sl ty_descOf_30, ev_len_sl ty_descOf_39, ev_buildSlice (len := 1) ty_descOf_36 ty_szOf_46 ty_zeroCells_46 ⟨rfl, by decide, by decide⟩, ev_append ty_appInfo_36, ev_appNew_sl ty_descOf_36, encQ_len, e16, hown, hlim, hlv, lens_prt, snoc_prt, encS_len, gn, g2, g4, g5, g7, gb2, gb5, gb7, gb10, dd, w2, nm, b1, b4, b3, e2, e8, h0, en, encL_len, ends_some]
            first | rw [reach_if] | rw [reach_if2] | rw [reach_if3]
            rotate_left
            · kernel_rfl
            simp only [go_sem, Nat.reduceLT, reduceIte, reduceCtorEq, Nat.reduceEqDiff, apply_ite (Option.map (outOf _)), Nat.reduceBEq, Nat.reduceAdd, Nat.reduceSub, Nat.reduceLeDiff, Nat.reduceMul, ev_build ty_zeroCells_92 ty_placesOf_92, ev_build ty_zeroCells_38 ty_placesOf_38, ev_len_sl ty_descOf_36, ev_build ty_zeroCells_46 ty_placesOf_46, ev_len_sl ty_descOf_30, ev_buildSlice (len := 1) ty_descOf_30 ty_szOf_32 ty_zeroCells_32 ⟨rfl, by decide, by decide⟩, ev_append ty_appInfo_30, ev_appNew_sl ty_descOf_30, ev_len_sl ty_descOf_39, ev_buildSlice (len := 1) ty_descOf_36 ty_szOf_46 ty_zeroCells_46 ⟨rfl, by decide, by decide⟩, ev_append ty_appInfo_36, ev_appNew_sl ty_descOf_36, encQ_len, e16, hown, hlim, hlv, lens_prt, snoc_prt, encS_len, gn, g2, g4, g5, g7, gb2, gb5, gb7, gb10, dd, w2, nm, b1, b4, b3, e2, e8, h0, en, encL_len, ends_some]
      · rw [if_neg (show ¬(r = [] ∧ (s = Sl.beforeT ∨ s = Sl.afterT) ∧ acc.length ≤ 8) from fun h => h8 h.2.2)]
        unfold CNo
        have e8 : decide ((8 : Int) < (acc.length : Int)) = true := decide_eq_true (by omega)
        cases b
        · unfold cxlp
          conv in loopAt _ _ => whnf
          rw [exL_loop]
          simp only [go_sem, Nat.reduceLT, reduceIte, reduceCtorEq, Nat.reduceEqDiff, apply_ite (Option.map (outOf _)), Nat.reduceBEq, Nat.reduceAdd, Nat.reduceSub, Nat.reduceLeDiff, Nat.reduceMul, ev_build ty_zeroCells_92 ty_placesOf_92, ev_build ty_zeroCells_38 ty_placesOf_38, ev_len_sl ty_descOf_36, ev_build ty_zeroCells_46 ty_placesOf_46, ev_len_sl ty_descOf_30, ev_buildSlice (len := 1) ty_descOf_30 ty_szOf_32 ty_zeroCells_32 ⟨rfl, by decide, by decide⟩, ev_append ty_appInfo_30, ev_appNew_sl ty_descOf_30, ev_len_sl ty_descOf_39, ev_buildSlice (len := 1) ty_descOf_36 ty_szOf_46 ty_zeroCells_46 ⟨rfl, by decide, by decide⟩, ev_append ty_appInfo_36, ev_appNew_sl ty_descOf_36, encQ_len, e16]
          rw [exL_head]
          simp only [go_sem, Nat.reduceLT, reduceIte, reduceCtorEq, Nat.reduceEqDiff, apply_ite (Option.map (outOf _)), Nat.reduceBEq, Nat.reduceAdd, Nat.reduceSub, Nat.reduceLeDiff, Nat.reduceMul, ev_build ty_zeroCells_92 ty_placesOf_92, ev_build ty_zeroCells_38 ty_placesOf_38, ev_len_sl ty_descOf_36, ev_build ty_zeroCells_46 ty_placesOf_46, ev_len_sl ty_descOf_30, ev_buildSlice (len := 1) ty_descOf_30 ty_szOf_32 ty_zeroCells_32 ⟨rfl, by decide, by decide⟩, ev_append ty_appInfo_30, ev_appNew_sl ty_descOf_30, ev_len_sl ty_descOf_39, ev_buildSlice (len := 1) ty_descOf_36 ty_szOf_46 ty_zeroCells_46 ⟨rfl, by decide, by decide⟩, ev_append ty_appInfo_36, ev_appNew_sl ty_descOf_36, encQ_len, e16]
          erw [w]
          simp only [go_sem, Nat.reduceLT, reduceIte, reduceCtorEq, Nat.reduceEqDiff, apply_ite (Option.map (outOf _)), Nat.reduceBEq, Nat.reduceAdd, Nat.reduceSub, Nat.reduceLeDiff, Nat.reduceMul, ev_build ty_zeroCells_92 ty_placesOf_92, ev_build ty_zeroCells_38 ty_placesOf_38, ev_len_sl ty_descOf_36, ev_build ty_zeroCells_46 ty_placesOf_46, ev_len_sl ty_descOf_30, ev_buildSlice (len := 1) ty_descOf_30 ty_szOf_32 ty_zeroCells_32 ⟨rfl, by decide, by decide⟩, ev_append ty_appInfo_30, ev_appNew_sl ty_descOf_30, ev_len_sl ty_descOf_39, ev_buildSlice (len := 1) ty_descOf_36 ty_szOf_46 ty_zeroCells_46 ⟨rfl, by decide, by decide⟩, ev_append ty_appInfo_36, ev_appNew_sl ty_descOf_36, encQ_len, e16, hown, hlim, hlv, lens_prt, snoc_prt, encS_len, gn, g2, g4, g5, g7, gb2, gb5, gb7, gb10, dd, w2, nm, b1, b3, e2, e8, encL_len, ends_some]
          first | rw [reach_if] | rw [reach_if2] | rw [reach_if3]
          rotate_left
          · kernel_rfl
          simp only [go_sem, Nat.reduceLT, reduceIte, reduceCtorEq, Nat.reduceEqDiff, apply_ite (Option.map (outOf _)), Nat.reduceBEq, Nat.reduceAdd, Nat.reduceSub, Nat.reduceLeDiff, Nat.reduceMul, ev_build ty_zeroCells_92 ty_placesOf_92, ev_build ty_zeroCells_38 ty_placesOf_38, ev_len_sl ty_descOf_36, ev_build ty_zeroCells_46 ty_placesOf_46, ev_len_sl ty_descOf_30, ev_buildSlice (len := 1) ty_descOf_30 ty_szOf_32 ty_zeroCells_32 ⟨rfl, by decide, by decide⟩, ev_append ty_appInfo_30, ev_appNew_sl ty_descOf_30, ev_len_sl ty_descOf_39, ev_buildSlice (len := 1) ty_descOf_36 ty_szOf_46 ty_zeroCells_46 ⟨rfl, by decide, by decide⟩, ev_append ty_appInfo_36, ev_appNew_sl ty_descOf_36, encQ_len, e16, hown, hlim, hlv, lens_prt, snoc_prt, encS_len, gn, g2, g4, g5, g7, gb2, gb5, gb7, gb10, dd, w2, nm, b1, b3, e2, e8, encL_len, ends_some]
        · have b4 := b2 rfl
          unfold cxlp
          conv in loopAt _ _ => whnf
          rw [exL_loop]
          simp only [go_sem, Nat.reduceLT, reduceIte, reduceCtorEq, Nat.reduceEqDiff, apply_ite (Option.map (outOf _)), Nat.reduceBEq, Nat.reduceAdd, Nat.reduceSub, Nat.reduceLeDiff, Nat.reduceMul, ev_build ty_zeroCells_92 ty_placesOf_92, ev_build ty_zeroCells_38 ty_placesOf_38, ev_len_sl ty_descOf_36, ev_build ty_zeroCells_46 ty_placesOf_46, ev_len_sl ty_descOf_30, ev_buildSlice (len := 1) ty_descOf_30 ty_szOf_32 ty_zeroCells_32 ⟨rfl, by decide, by decide⟩, ev_append ty_appInfo_30, ev_appNew_sl ty_descOf_30, ev_len_sl ty_descOf_39, ev_buildSlice (len := 1) ty_descOf_36 ty_szOf_46 ty_zeroCells_46 ⟨rfl, by decide, by decide⟩, ev_append ty_appInfo_36, ev_appNew_sl ty_descOf_36, encQ_len, e16]
          rw [exL_head]
          simp only [go_sem, Nat.reduceLT, reduceIte, reduceCtorEq, Nat.reduceEqDiff, apply_ite (Option.map (outOf _)), Nat.reduceBEq, Nat.reduceAdd, Nat.reduceSub, Nat.reduceLeDiff, Nat.reduceMul, ev_build ty_zeroCells_92 ty_placesOf_92, ev_build ty_zeroCells_38 ty_placesOf_38, ev_len_sl ty_descOf_36, ev_build ty_zeroCells_46 ty_placesOf_46, ev_len_sl ty_descOf_30, ev_buildSlice (len := 1) ty_descOf_30 ty_szOf_32 ty_zeroCells_32 ⟨rfl, by decide, by decide⟩, ev_append ty_appInfo_30, ev_appNew_sl ty_descOf_30, ev_len_sl ty_descOf_39, ev_buildSlice (len := 1) ty_descOf_36 ty_szOf_46 ty_zeroCells_46 ⟨rfl, by decide, by decide⟩, ev_append ty_appInfo_36, ev_appNew_sl ty_descOf_36, encQ_len, e16]
          erw [w]
          simp only [go_sem, Nat.reduceLT, reduceIte, reduceCtorEq, Nat.reduceEqDiff, apply_ite (Option.map (outOf _)), Nat.reduceBEq, Nat.reduceAdd, Nat.reduceSub, Nat.reduceLeDiff, Nat.reduceMul, ev_build ty_zeroCells_92 ty_placesOf_92, ev_build ty_zeroCells_38 ty_placesOf_38, ev_len_sl ty_descOf_36, ev_build ty_zeroCells_46 ty_placesOf_46, ev_len_sl ty_descOf_30, ev_buildSlice (len := 1) ty_descOf_30 ty_szOf_32 ty_zeroCells_32 ⟨rfl, by decide, by decide⟩, ev_append ty_appInfo_30, ev_appNew_sl ty_descOf_30, ev_len_sl ty_descOf_39, ev_buildSlice (len := 1) ty_descOf_36 ty_szOf_46 ty_zeroCells_46 ⟨rfl, by decide, by decide⟩, ev_append ty_appInfo_36, ev_appNew_sl ty_descOf_36, encQ_len, e16, hown, hlim, hlv, lens_prt, snoc_prt, encS_len, gn, g2, g4, g5, g7, gb2, gb5, gb7, gb10, dd, w2, nm, b1, b4, b3, e2, e8, encL_len, ends_some]
          first | rw [reach_if] | rw [reach_if2] | rw [reach_if3]
          rotate_left
          · kernel_rfl
          simp only [go_sem, Nat.reduceLT, reduceIte, reduceCtorEq, Nat.reduceEqDiff, apply_ite (Option.map (outOf _)), Nat.reduceBEq, Nat.reduceAdd, Nat.reduceSub, Nat.reduceLeDiff, Nat.reduceMul, ev_build ty_zeroCells_92 ty_placesOf_92, ev_build ty_zeroCells_38 ty_placesOf_38, ev_len_sl ty_descOf_36, ev_build ty_zeroCells_46 ty_placesOf_46, ev_len_sl ty_descOf_30, ev_buildSlice (len := 1) ty_descOf_30 ty_szOf_32 ty_zeroCells_32 ⟨rfl, by decide, by decide⟩, ev_append ty_appInfo_30, ev_appNew_sl ty_descOf_30, ev_len_sl ty_descOf_39, ev_buildSlice (len := 1) ty_descOf_36 ty_szOf_46 ty_zeroCells_46 ⟨rfl, by decide, by decide⟩, ev_append ty_appInfo_36, ev_appNew_sl ty_descOf_36, encQ_len, e16, hown, hlim, hlv, lens_prt, snoc_prt, encS_len, gn, g2, g4, g5, g7, gb2, gb5, gb7, gb10, dd, w2, nm, b1, b4, b3, e2, e8, encL_len, ends_some]
    · rw [if_neg (show ¬(r = [] ∧ (s = Sl.beforeT ∨ s = Sl.afterT) ∧ acc.length ≤ 8) from fun h => h2 h.1)]
      unfold CNo
      have hjl : j + 3 < l.length := by
        rcases Nat.lt_or_ge (j + 3) l.length with h | h
        · exact h
        · exact absurd (by rw [← nd]; exact List.drop_eq_nil_iff.2 h) h2
      have e2 : decide (((j + 2 + 1 : Nat) : Int) < (l.length : Int)) = true := decide_eq_true (by omega)
      cases b
      · unfold cxlp
        conv in loopAt _ _ => whnf
        rw [exL_loop]
        simp only [go_sem, Nat.reduceLT, reduceIte, reduceCtorEq, Nat.reduceEqDiff, apply_ite (Option.map (outOf _)), Nat.reduceBEq, Nat.reduceAdd, Nat.reduceSub, Nat.reduceLeDiff, Nat.reduceMul, ev_build ty_zeroCells_92 ty_placesOf_92, ev_build ty_zeroCells_38 ty_placesOf_38, ev_len_sl ty_descOf_36, ev_build ty_zeroCells_46 ty_placesOf_46, ev_len_sl ty_descOf_30, ev_buildSlice (len := 1) ty_descOf_30 ty_szOf_32 ty_zeroCells_32 ⟨rfl, by decide, by decide⟩, ev_append ty_appInfo_30, ev_appNew_sl ty_descOf_30, ev_len_sl ty_descOf_39, ev_buildSlice (len := 1) ty_descOf_36 ty_szOf_46 ty_zeroCells_46 ⟨rfl, by decide, by decide⟩, ev_append ty_appInfo_36, ev_appNew_sl ty_descOf_36, encQ_len, e16]
        rw [exL_head]
        simp only [go_sem, Nat.reduceLT, reduceIte, reduceCtorEq, Nat.reduceEqDiff, apply_ite (Option.map (outOf _)), Nat.reduceBEq, Nat.reduceAdd, Nat.reduceSub, Nat.reduceLeDiff, Nat.reduceMul, ev_build ty_zeroCells_92 ty_placesOf_92, ev_build ty_zeroCells_38 ty_placesOf_38, ev_len_sl ty_descOf_36, ev_build ty_zeroCells_46 ty_placesOf_46, ev_len_sl ty_descOf_30, ev_buildSlice (len := 1) ty_descOf_30 ty_szOf_32 ty_zeroCells_32 ⟨rfl, by decide, by decide⟩, ev_append ty_appInfo_30, ev_appNew_sl ty_descOf_30, ev_len_sl ty_descOf_39, ev_buildSlice (len := 1) ty_descOf_36 ty_szOf_46 ty_zeroCells_46 ⟨rfl, by decide, by decide⟩, ev_append ty_appInfo_36, ev_appNew_sl ty_descOf_36, encQ_len, e16]
        erw [w]
        simp only [go_sem, Nat.reduceLT, reduceIte, reduceCtorEq, Nat.reduceEqDiff, apply_ite (Option.map (outOf _)), Nat.reduceBEq, Nat.reduceAdd, Nat.reduceSub, Nat.reduceLeDiff, Nat.reduceMul, ev_build ty_zeroCells_92 ty_placesOf_92, ev_build ty_zeroCells_38 ty_placesOf_38, ev_len_sl ty_descOf_36, ev_build ty_zeroCells_46 ty_placesOf_46, ev_len_sl ty_descOf_30, ev_buildSlice (len := 1) ty_descOf_30 ty_szOf_32 ty_zeroCells_32 ⟨rfl, by decide, by decide⟩, ev_append ty_appInfo_30, ev_appNew_sl ty_descOf_30, ev_len_sl ty_descOf_39, ev_buildSlice (len := 1) ty_descOf_36 ty_szOf_46 ty_zeroCells_46 ⟨rfl, by decide, by decide⟩, ev_append ty_appInfo_36, ev_appNew_sl ty_descOf_36, encQ_len, e16, hown, hlim, hlv, lens_prt, snoc_prt, encS_len, gn, g2, g4, g5, g7, gb2, gb5, gb7, gb10, dd, w2, nm, b1, b3, e2, encL_len, ends_some]
        first | rw [reach_if] | rw [reach_if2] | rw [reach_if3]
        rotate_left
        · kernel_rfl
        simp only [go_sem, Nat.reduceLT, reduceIte, reduceCtorEq, Nat.reduceEqDiff, apply_ite (Option.map (outOf _)), Nat.reduceBEq, Nat.reduceAdd, Nat.reduceSub, Nat.reduceLeDiff, Nat.reduceMul, ev_build ty_zeroCells_92 ty_placesOf_92, ev_build ty_zeroCells_38 ty_placesOf_38, ev_len_sl ty_descOf_36, ev_build ty_zeroCells_46 ty_placesOf_46, ev_len_sl ty_descOf_30, ev_buildSlice (len := 1) ty_descOf_30 ty_szOf_32 ty_zeroCells_32 ⟨rfl, by decide, by decide⟩, ev_append ty_appInfo_30, ev_appNew_sl ty_descOf_30, ev_len_sl ty_descOf_39, ev_buildSlice (len := 1) ty_descOf_36 ty_szOf_46 ty_zeroCells_46 ⟨rfl, by decide, by decide⟩, ev_append ty_appInfo_36, ev_appNew_sl ty_descOf_36, encQ_len, e16, hown, hlim, hlv, lens_prt, snoc_prt, encS_len, gn, g2, g4, g5, g7, gb2, gb5, gb7, gb10, dd, w2, nm, b1, b3, e2, encL_len, ends_some]
      · have b4 := b2 rfl
        unfold cxlp
        conv in loopAt _ _ => whnf
        rw [exL_loop]
        simp only [go_sem, Nat.reduceLT, reduceIte, reduceCtorEq, Nat.reduceEqDiff, apply_ite (Option.map (outOf _)), Nat.reduceBEq, Nat.reduceAdd, Nat.reduceSub, Nat.reduceLeDiff, Nat.reduceMul, ev_build ty_zeroCells_92 ty_placesOf_92, ev_build ty_zeroCells_38 ty_placesOf_38, ev_len_sl ty_descOf_36, ev_build ty_zeroCells_46 ty_placesOf_46, ev_len_sl ty_descOf_30, ev_buildSlice (len := 1) ty_descOf_30 ty_szOf_32 ty_zeroCells_32 ⟨rfl, by decide, by decide⟩, ev_append ty_appInfo_30, ev_appNew_sl ty_descOf_30, ev_len_sl ty_descOf_39, ev_buildSlice (len := 1) ty_descOf_36 ty_szOf_46 ty_zeroCells_46 ⟨rfl, by decide, by decide⟩, ev_append ty_appInfo_36, ev_appNew_sl ty_descOf_36, encQ_len, e16]
        rw [exL_head]
        simp only [go_sem, Nat.reduceLT, reduceIte, reduceCtorEq, Nat.reduceEqDiff, apply_ite (Option.map (outOf _)), Nat.reduceBEq, Nat.reduceAdd, Nat.reduceSub, Nat.reduceLeDiff, Nat.reduceMul, ev_build ty_zeroCells_92 ty_placesOf_92, ev_build ty_zeroCells_38 ty_placesOf_38, ev_len_sl ty_descOf_36, ev_build ty_zeroCells_46 ty_placesOf_46, ev_len_sl ty_descOf_30, ev_buildSlice (len := 1) ty_descOf_30 ty_szOf_32 ty_zeroCells_32 ⟨rfl, by decide, by decide⟩, ev_append ty_appInfo_30, ev_appNew_sl ty_descOf_30, ev_len_sl ty_descOf_39, ev_buildSlice (len := 1) ty_descOf_36 ty_szOf_46 ty_zeroCells_46 ⟨rfl, by decide, by decide⟩, ev_append ty_appInfo_36, ev_appNew_sl ty_descOf_36, encQ_len, e16]
        erw [w]
        simp only [go_sem, Nat.reduceLT, reduceIte, reduceCtorEq, Nat.reduceEqDiff, apply_ite (Option.map (outOf _)), Nat.reduceBEq, Nat.reduceAdd, Nat.reduceSub, Nat.reduceLeDiff, Nat.reduceMul, ev_build ty_zeroCells_92 ty_placesOf_92, ev_build ty_zeroCells_38 ty_placesOf_38, ev_len_sl ty_descOf_36, ev_build ty_zeroCells_46 ty_placesOf_46, ev_len_sl ty_descOf_30, ev_buildSlice (len := 1) ty_descOf_30 ty_szOf_32 ty_zeroCells_32 ⟨rfl, by decide, by decide⟩, ev_append ty_appInfo_30, ev_appNew_sl ty_descOf_30, ev_len_sl ty_descOf_39, ev_buildSlice (len := 1) ty_descOf_36 ty_szOf_46 ty_zeroCells_46 ⟨rfl, by decide, by decide⟩, ev_append ty_appInfo_36, ev_appNew_sl ty_descOf_36, encQ_len, e16, hown, hlim, hlv, lens_prt, snoc_prt, encS_len, gn, g2, g4, g5, g7, gb2, gb5, gb7, gb10, dd, w2, nm, b1, b4, b3, e2, encL_len, ends_some]
        first | rw [reach_if] | rw [reach_if2] | rw [reach_if3]
        rotate_left
        · kernel_rfl
        simp only [go_sem, Nat.reduceLT, reduceIte, reduceCtorEq, Nat.reduceEqDiff, apply_ite (Option.map (outOf _)), Nat.reduceBEq, Nat.reduceAdd, Nat.reduceSub, Nat.reduceLeDiff, Nat.reduceMul, ev_build ty_zeroCells_92 ty_placesOf_92, ev_build ty_zeroCells_38 ty_placesOf_38, ev_len_sl ty_descOf_36, ev_build ty_zeroCells_46 ty_placesOf_46, ev_len_sl ty_descOf_30, ev_buildSlice (len := 1) ty_descOf_30 ty_szOf_32 ty_zeroCells_32 ⟨rfl, by decide, by decide⟩, ev_append ty_appInfo_30, ev_appNew_sl ty_descOf_30, ev_len_sl ty_descOf_39, ev_buildSlice (len := 1) ty_descOf_36 ty_szOf_46 ty_zeroCells_46 ⟨rfl, by decide, by decide⟩, ev_append ty_appInfo_36, ev_appNew_sl ty_descOf_36, encQ_len, e16, hown, hlim, hlv, lens_prt, snoc_prt, encS_len, gn, g2, g4, g5, g7, gb2, gb5, gb7, gb10, dd, w2, nm, b1, b4, b3, e2, encL_len, ends_some]
  · rw [if_neg (show ¬(r = [] ∧ (s = Sl.beforeT ∨ s = Sl.afterT) ∧ acc.length ≤ 8) from fun h => h1 h.2.1)]
    unfold CNo
    have b1 : (s != [98, 101, 102, 111, 114, 101]) = true := by rw [bne_iff_ne]; exact fun h => h1 (.inl h)
    have b4 : (s != [97, 102, 116, 101, 114]) = true := by rw [bne_iff_ne]; exact fun h => h1 (.inr h)
    unfold cxlp
    conv in loopAt _ _ => whnf
    rw [exL_loop]
    simp only [go_sem, Nat.reduceLT, reduceIte, reduceCtorEq, Nat.reduceEqDiff, apply_ite (Option.map (outOf _)), Nat.reduceBEq, Nat.reduceAdd, Nat.reduceSub, Nat.reduceLeDiff, Nat.reduceMul, ev_build ty_zeroCells_92 ty_placesOf_92, ev_build ty_zeroCells_38 ty_placesOf_38, ev_len_sl ty_descOf_36, ev_build ty_zeroCells_46 ty_placesOf_46, ev_len_sl ty_descOf_30, ev_buildSlice (len := 1) ty_descOf_30 ty_szOf_32 ty_zeroCells_32 ⟨rfl, by decide, by decide⟩, ev_append ty_appInfo_30, ev_appNew_sl ty_descOf_30, ev_len_sl ty_descOf_39, ev_buildSlice (len := 1) ty_descOf_36 ty_szOf_46 ty_zeroCells_46 ⟨rfl, by decide, by decide⟩, ev_append ty_appInfo_36, ev_appNew_sl ty_descOf_36, encQ_len, e16]
    rw [exL_head]
    simp only [go_sem, Nat.reduceLT, reduceIte, reduceCtorEq, Nat.reduceEqDiff, apply_ite (Option.map (outOf _)), Nat.reduceBEq, Nat.reduceAdd, Nat.reduceSub, Nat.reduceLeDiff, Nat.reduceMul, ev_build ty_zeroCells_92 ty_placesOf_92, ev_build ty_zeroCells_38 ty_placesOf_38, ev_len_sl ty_descOf_36, ev_build ty_zeroCells_46 ty_placesOf_46, ev_len_sl ty_descOf_30, ev_buildSlice (len := 1) ty_descOf_30 ty_szOf_32 ty_zeroCells_32 ⟨rfl, by decide, by decide⟩, ev_append ty_appInfo_30, ev_appNew_sl ty_descOf_30, ev_len_sl ty_descOf_39, ev_buildSlice (len := 1) ty_descOf_36 ty_szOf_46 ty_zeroCells_46 ⟨rfl, by decide, by decide⟩, ev_append ty_appInfo_36, ev_appNew_sl ty_descOf_36, encQ_len, e16]
    erw [w]
    simp only [go_sem, Nat.reduceLT, reduceIte, reduceCtorEq, Nat.reduceEqDiff, apply_ite (Option.map (outOf _)), Nat.reduceBEq, Nat.reduceAdd, Nat.reduceSub, Nat.reduceLeDiff, Nat.reduceMul, ev_build ty_zeroCells_92 ty_placesOf_92, ev_build ty_zeroCells_38 ty_placesOf_38, ev_len_sl ty_descOf_36, ev_build ty_zeroCells_46 ty_placesOf_46, ev_len_sl ty_descOf_30, ev_buildSlice (len := 1) ty_descOf_30 ty_szOf_32 ty_zeroCells_32 ⟨rfl, by decide, by decide⟩, ev_append ty_appInfo_30, ev_appNew_sl ty_descOf_30, ev_len_sl ty_descOf_39, ev_buildSlice (len := 1) ty_descOf_36 ty_szOf_46 ty_zeroCells_46 ⟨rfl, by decide, by decide⟩, ev_append ty_appInfo_36, ev_appNew_sl ty_descOf_36, encQ_len, e16, hown, hlim, hlv, lens_prt, snoc_prt, encS_len, gn, g2, g4, g5, g7, gb2, gb5, gb7, gb10, dd, w2, nm, b1, b4, encL_len, ends_some]
    first | rw [reach_if] | rw [reach_if2] | rw [reach_if3]
    rotate_left
    · kernel_rfl
    simp only [go_sem, Nat.reduceLT, reduceIte, reduceCtorEq, Nat.reduceEqDiff, apply_ite (Option.map (outOf _)), Nat.reduceBEq, Nat.reduceAdd, Nat.reduceSub, Nat.reduceLeDiff, Nat.reduceMul, ev_build ty_zeroCells_92 ty_placesOf_92, ev_build ty_zeroCells_38 ty_placesOf_38, ev_len_sl ty_descOf_36, ev_build ty_zeroCells_46 ty_placesOf_46, ev_len_sl ty_descOf_30, ev_buildSlice (len := 1) ty_descOf_30 ty_szOf_32 ty_zeroCells_32 ⟨rfl, by decide, by decide⟩, ev_append ty_appInfo_30, ev_appNew_sl ty_descOf_30, ev_len_sl ty_descOf_39, ev_buildSlice (len := 1) ty_descOf_36 ty_szOf_46 ty_zeroCells_46 ⟨rfl, by decide, by decide⟩, ev_append ty_appInfo_36, ev_appNew_sl ty_descOf_36, encQ_len, e16, hown, hlim, hlv, lens_prt, snoc_prt, encS_len, gn, g2, g4, g5, g7, gb2, gb5, gb7, gb10, dd, w2, nm, b1, b4, encL_len, ends_some]
end Go.Abs
