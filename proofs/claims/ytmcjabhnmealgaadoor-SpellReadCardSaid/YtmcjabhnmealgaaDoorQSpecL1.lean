/-
  WHAT THE FUNCTIONS COMPUTE, layer 3, the document's answer: blanks, signs; values trimmed, cut by a sign.
-/
import Derived.Test.YtmcjabhnmealgaaDoorQR
import Derived.Test.YtmcjabhnmealgaaDoorQS
set_option linter.unusedSimpArgs false
set_option linter.unusedVariables false
namespace Go.Abs
open Go Go.Proofs
set_option maxRecDepth 10000
attribute [local go_sem] exL_seq exL_region exL_cond exL_block exL_scope exL_ret exL_skip exL_exit runRegion runOps stepOp guardA absOp takeOver opd avOf cvOf St.degAt St.put okPV okVal okAV absBin intBin strBin boolBin setBoxes if_true Bool.false_eq_true if_false Option.map_some Option.map_none Option.bind_some Option.bind_none thenO outOf upd List.toList_toArray isOwn steal appArgs inApps AV.deg CV.deg AV.gv AV.isIter absNext some_bne List.length_nil List.length_cons List.filterMap_cons List.filterMap_nil beq_iff_eq List.getElem?_cons_zero List.getElem?_cons_succ Option.getD_some K_hook hookB Bool.false_and Bool.and_false Bool.and_self K_P K_own absCall doCall getBoxes lend back idx dedup AV.ren CV.ren TV.ren AV.ptrs CV.ptrs zipBox AV.flat CV.flat absLoad absStore cellsOfAV setAt newBox markB bldTypes absFieldAddr absField absExtract absAssert noAssert absMkIface ifcOf CV.pv? content pushHead ownT fillCells reps pvs chunks enterSt leave resOf resVars resVar outBoxes lentOnly TV.deg TV.av LK CV.plain CV.noBld nilBin absUn bound List.map_cons List.map_nil List.all_cons List.all_nil List.any_cons List.any_nil List.contains_cons List.contains_nil List.elem_cons List.elem_nil List.cons_append List.nil_append List.append_nil List.flatMap_cons List.flatMap_nil List.zip_cons_cons List.zip_nil_left List.zip_nil_right List.take_succ_cons List.take_zero List.take_nil List.drop_succ_cons List.drop_zero List.drop_nil List.isEmpty_nil List.isEmpty_cons Bool.and_true Bool.true_and Bool.or_true Bool.true_or Bool.or_false Bool.false_or Bool.not_true Bool.not_false Nat.add_zero Nat.zero_add Option.isNone_none Option.isNone_some Option.getD_none true_and and_true not_true_eq_false not_false_eq_true decide_true decide_false Nat.le_refl and_self Bool.not_eq_true Nat.sub_self or_true true_or Option.some.injEq List.length_map List.nil_eq and_false false_and AV.live CV.live CV.liveIn K_keep firstReg Option.orElse_some Option.orElse_none head keepSlots keepBoxes Int.lt_irrefl List.length_append ite_self memOK logOps opKey lentBoxes Key.clash Key.sees Key.writes Nat.lt_irrefl gt_iff_lt nobox_at bot_at false_or or_false beq_self_eq_true Bool.true_beq Bool.false_beq

theorem blank_den (k : Int) (t : Tok) (l : List Val) : den K 32 [.agg (valCv k t l)] [] = some (.ret (B (Sl.isBlank (.mk k t l))) []) := by
  refine den_run rfl Tryd.func32 rfl Tryd.ntmps32 ⟨by simp, by simp [LK]⟩ ?_
  have hr : Tryd.f32.results = #[.tmp 2] := rfl
  have hs : Sl.isBlank (.mk k t l) = ((k == 1) && (t.kind == 8)) := rfl
  rw [hs]
  cases e1 : (k == 1)
  · simp only [go_sem, Nat.reduceLT, reduceIte, reduceCtorEq, Nat.reduceEqDiff, apply_ite (Option.map (outOf _)), Nat.reduceBEq, Nat.reduceAdd, Nat.reduceSub, Nat.reduceLeDiff, Nat.reduceMul, ty_fieldOff_88_0, ty_szOf_3, ty_shapeT_3, ty_fieldOff_88_1, ty_szOf_83, ty_fieldOff_83_0, hr, e1]
  · simp only [go_sem, Nat.reduceLT, reduceIte, reduceCtorEq, Nat.reduceEqDiff, apply_ite (Option.map (outOf _)), Nat.reduceBEq, Nat.reduceAdd, Nat.reduceSub, Nat.reduceLeDiff, Nat.reduceMul, ty_fieldOff_88_0, ty_szOf_3, ty_shapeT_3, ty_fieldOff_88_1, ty_szOf_83, ty_fieldOff_83_0, hr, e1]

theorem sign3_den (k : Int) (t : Tok) (l : List Val) (s : List UInt8) : den K 33 [.agg (valCv k t l), T s] [] = some (.ret (B (Sl.isSign s (.mk k t l))) []) := by
  refine den_run rfl Tryd.func33 rfl Tryd.ntmps33 ⟨by simp, by simp [LK]⟩ ?_
  have hr : Tryd.f33.results = #[.tmp 4] := rfl
  have hv : decide (t = ⟨7, s, 0⟩) = ((t.kind == 7) && ((t.text == s) && ((t.n == 0) && true))) := (tok_beq t ⟨7, s, 0⟩).symm
  have hs : Sl.isSign s (.mk k t l) = ((k == 1) && ((t.kind == 7) && ((t.text == s) && ((t.n == 0) && true)))) := by rw [← hv]; rfl
  rw [hs]
  cases e1 : (k == 1)
  · simp only [go_sem, Nat.reduceLT, reduceIte, reduceCtorEq, Nat.reduceEqDiff, apply_ite (Option.map (outOf _)), Nat.reduceBEq, Nat.reduceAdd, Nat.reduceSub, Nat.reduceLeDiff, Nat.reduceMul, ty_fieldOff_88_0, ty_szOf_3, ty_shapeT_3, ty_fieldOff_88_1, ty_szOf_83, ty_fieldOff_83_0, ty_fieldOff_83_1, ty_szOf_9, ty_shapeT_9, ty_fieldOff_83_2, hr, e1]
  · cases e2 : (t.kind == 7)
    · simp only [go_sem, Nat.reduceLT, reduceIte, reduceCtorEq, Nat.reduceEqDiff, apply_ite (Option.map (outOf _)), Nat.reduceBEq, Nat.reduceAdd, Nat.reduceSub, Nat.reduceLeDiff, Nat.reduceMul, ty_fieldOff_88_0, ty_szOf_3, ty_shapeT_3, ty_fieldOff_88_1, ty_szOf_83, ty_fieldOff_83_0, ty_fieldOff_83_1, ty_szOf_9, ty_shapeT_9, ty_fieldOff_83_2, hr, e1, e2]
    · cases e3 : (t.text == s)
      · simp only [go_sem, Nat.reduceLT, reduceIte, reduceCtorEq, Nat.reduceEqDiff, apply_ite (Option.map (outOf _)), Nat.reduceBEq, Nat.reduceAdd, Nat.reduceSub, Nat.reduceLeDiff, Nat.reduceMul, ty_fieldOff_88_0, ty_szOf_3, ty_shapeT_3, ty_fieldOff_88_1, ty_szOf_83, ty_fieldOff_83_0, ty_fieldOff_83_1, ty_szOf_9, ty_shapeT_9, ty_fieldOff_83_2, hr, e1, e2, e3]
      · simp only [go_sem, Nat.reduceLT, reduceIte, reduceCtorEq, Nat.reduceEqDiff, apply_ite (Option.map (outOf _)), Nat.reduceBEq, Nat.reduceAdd, Nat.reduceSub, Nat.reduceLeDiff, Nat.reduceMul, ty_fieldOff_88_0, ty_szOf_3, ty_shapeT_3, ty_fieldOff_88_1, ty_szOf_83, ty_fieldOff_83_0, ty_fieldOff_83_1, ty_szOf_9, ty_shapeT_9, ty_fieldOff_83_2, hr, e1, e2, e3]

/-! ### trimmed -/

abbrev trimH (l : List Val) (i j : Nat) : St :=
  { sl := upd (upd (upd bot 4 (I j)) 3 (I i)) 0 (L (encL l)), bx := nobox, nt := 38 }
noncomputable def tlp2 : Code := .loop (loopAt Tryd.f22 2)
noncomputable def tlp4 : Code := .loop (loopAt Tryd.f22 4)

theorem trim2_yes (l : List Val) (i : Nat) (hl : l.length ≤ 100000000) (v : Val) (hi : l[i]? = some v) (hb : Sl.isBlank v = true) :
    exL K 22 tlp2 (trimH l i l.length) = exL K 22 tlp2 (trimH l (i + 1) l.length) := by
  obtain ⟨k, t, c⟩ := v
  have hil : i < l.length := (List.getElem?_eq_some_iff.1 hi).1
  have hlt : decide ((i : Int) < (l.length : Int)) = true := decide_eq_true (by omega)
  have hget := val_at l i k t c hi
  have hw : IntKind.i64.wrap ((i : Int) + 1) = ((i + 1 : Nat) : Int) := wrap_nat i (by omega)
  have hd := blank_den k t c
  rw [hb] at hd
  unfold tlp2
  conv in loopAt _ _ => whnf
  conv in loopAt _ _ => whnf
  conv in exL _ _ _ (trimH l i l.length) => rw [exL_loop]
  simp only [go_sem, Nat.reduceLT, reduceIte, reduceCtorEq, Nat.reduceEqDiff, apply_ite (Option.map (outOf _)), Nat.reduceBEq, Nat.reduceAdd, Nat.reduceSub, Nat.reduceLeDiff, Nat.reduceMul, ev_len_sl ty_descOf_39, ev_indexAddr ty_descOf_39, ty_szOf_88, ty_shapeT_88, good_32, ev_buildSlice (len := 0) ty_descOf_39 ty_szOf_88 ty_zeroCells_88 ⟨rfl, by decide, by decide⟩, ev_slice_sl ty_descOf_39 ty_szOf_88, ev_append ty_appInfo_39, ev_appNew_sl ty_descOf_39, keep_22_2, keep_22_4, hlt, hget, Int.natCast_nonneg, hw, hd]
  rw [exL_head]
  simp only [go_sem, Nat.reduceLT, reduceIte, reduceCtorEq, Nat.reduceEqDiff, apply_ite (Option.map (outOf _)), Nat.reduceBEq, Nat.reduceAdd, Nat.reduceSub, Nat.reduceLeDiff, Nat.reduceMul, ev_len_sl ty_descOf_39, ev_indexAddr ty_descOf_39, ty_szOf_88, ty_shapeT_88, good_32, ev_buildSlice (len := 0) ty_descOf_39 ty_szOf_88 ty_zeroCells_88 ⟨rfl, by decide, by decide⟩, ev_slice_sl ty_descOf_39 ty_szOf_88, ev_append ty_appInfo_39, ev_appNew_sl ty_descOf_39, keep_22_2, keep_22_4]

theorem trim2_no (l : List Val) (i : Nat) (hl : l.length ≤ 100000000) (v : Val) (hi : l[i]? = some v) (hb : Sl.isBlank v = false) :
    Ends (exL K 22 tlp2 (trimH l i l.length)) fun o S => o = .exit 0 ∧ S.nt = 38 ∧ S.sl 0 = L (encL l) ∧ S.sl 3 = I i ∧ S.sl 4 = I l.length := by
  obtain ⟨k, t, c⟩ := v
  have hil : i < l.length := (List.getElem?_eq_some_iff.1 hi).1
  have hlt : decide ((i : Int) < (l.length : Int)) = true := decide_eq_true (by omega)
  have hget := val_at l i k t c hi
  have hd := blank_den k t c
  rw [hb] at hd
  unfold tlp2
  conv in loopAt _ _ => whnf
  rw [exL_loop]
  simp only [go_sem, Nat.reduceLT, reduceIte, reduceCtorEq, Nat.reduceEqDiff, apply_ite (Option.map (outOf _)), Nat.reduceBEq, Nat.reduceAdd, Nat.reduceSub, Nat.reduceLeDiff, Nat.reduceMul, ev_len_sl ty_descOf_39, ev_indexAddr ty_descOf_39, ty_szOf_88, ty_shapeT_88, good_32, ev_buildSlice (len := 0) ty_descOf_39 ty_szOf_88 ty_zeroCells_88 ⟨rfl, by decide, by decide⟩, ev_slice_sl ty_descOf_39 ty_szOf_88, ev_append ty_appInfo_39, ev_appNew_sl ty_descOf_39, keep_22_2, keep_22_4, hlt, hget, Int.natCast_nonneg, hd, ends_some]

theorem trim2_end (l : List Val) : Ends (exL K 22 tlp2 (trimH l l.length l.length)) fun o S => o = .exit 0 ∧ S.nt = 38 ∧ S.sl 0 = L (encL l) ∧ S.sl 3 = I l.length ∧ S.sl 4 = I l.length := by
  unfold tlp2
  conv in loopAt _ _ => whnf
  rw [exL_loop]
  simp only [go_sem, Nat.reduceLT, reduceIte, reduceCtorEq, Nat.reduceEqDiff, apply_ite (Option.map (outOf _)), Nat.reduceBEq, Nat.reduceAdd, Nat.reduceSub, Nat.reduceLeDiff, Nat.reduceMul, ev_len_sl ty_descOf_39, ev_indexAddr ty_descOf_39, ty_szOf_88, ty_shapeT_88, good_32, ev_buildSlice (len := 0) ty_descOf_39 ty_szOf_88 ty_zeroCells_88 ⟨rfl, by decide, by decide⟩, ev_slice_sl ty_descOf_39 ty_szOf_88, ev_append ty_appInfo_39, ev_appNew_sl ty_descOf_39, keep_22_2, keep_22_4, ends_some]

theorem trim2_loop (l : List Val) (hl : l.length ≤ 100000000) : ∀ (rest : List Val) (i : Nat), l.drop i = rest → i ≤ l.length →
    Ends (exL K 22 tlp2 (trimH l i l.length)) fun o S => o = .exit 0 ∧ S.nt = 38 ∧ ∃ j : Nat, j ≤ l.length ∧ l.drop j = rest.dropWhile Sl.isBlank ∧ S.sl 0 = L (encL l) ∧ S.sl 3 = I j ∧ S.sl 4 = I l.length
  | [], i, hd, hi => by
    have hin : i = l.length := by
      have := List.drop_eq_nil_iff.1 hd
      omega
    subst hin
    refine ends_imp (trim2_end l) fun o S q => ⟨q.1, q.2.1, l.length, Nat.le_refl _, ?_, q.2.2⟩
    simp
  | v :: rest, i, hd, hi => by
    obtain ⟨g1, g2, g3⟩ := drop_cons hd
    cases hb : Sl.isBlank v with
    | true =>
      rw [trim2_yes l i hl v g1 hb, List.dropWhile_cons, if_pos hb]
      exact trim2_loop l hl rest (i + 1) g2 (by omega)
    | false =>
      refine ends_imp (trim2_no l i hl v g1 hb) fun o S q => ⟨q.1, q.2.1, i, hi, ?_, q.2.2⟩
      rw [hd, List.dropWhile_cons, if_neg (by rw [hb]; simp)]

theorem trim4_yes (l : List Val) (i j : Nat) (hl : l.length ≤ 100000000) (hij : i ≤ j) (v : Val) (hi : l[j]? = some v) (hb : Sl.isBlank v = true) :
    exL K 22 tlp4 (trimH l i (j + 1)) = exL K 22 tlp4 (trimH l i j) := by
  obtain ⟨k, t, c⟩ := v
  have hil : j < l.length := (List.getElem?_eq_some_iff.1 hi).1
  have hlt : decide ((i : Int) < ((j + 1 : Nat) : Int)) = true := decide_eq_true (by omega)
  have hget := val_at l j k t c hi
  have hw : IntKind.i64.wrap (((j + 1 : Nat) : Int) - 1) = (j : Int) := by rw [IntWalk.i64_in _ (by omega)]; omega
  have hd := blank_den k t c
  rw [hb] at hd
  unfold tlp4
  conv in loopAt _ _ => whnf
  conv in loopAt _ _ => whnf
  conv in exL _ _ _ (trimH l i (j + 1)) => rw [exL_loop]
  simp only [go_sem, Nat.reduceLT, reduceIte, reduceCtorEq, Nat.reduceEqDiff, apply_ite (Option.map (outOf _)), Nat.reduceBEq, Nat.reduceAdd, Nat.reduceSub, Nat.reduceLeDiff, Nat.reduceMul, ev_len_sl ty_descOf_39, ev_indexAddr ty_descOf_39, ty_szOf_88, ty_shapeT_88, good_32, ev_buildSlice (len := 0) ty_descOf_39 ty_szOf_88 ty_zeroCells_88 ⟨rfl, by decide, by decide⟩, ev_slice_sl ty_descOf_39 ty_szOf_88, ev_append ty_appInfo_39, ev_appNew_sl ty_descOf_39, keep_22_2, keep_22_4, hlt, hget, Int.natCast_nonneg, hw, hd]
  rw [exL_head]
  simp only [go_sem, Nat.reduceLT, reduceIte, reduceCtorEq, Nat.reduceEqDiff, apply_ite (Option.map (outOf _)), Nat.reduceBEq, Nat.reduceAdd, Nat.reduceSub, Nat.reduceLeDiff, Nat.reduceMul, ev_len_sl ty_descOf_39, ev_indexAddr ty_descOf_39, ty_szOf_88, ty_shapeT_88, good_32, ev_buildSlice (len := 0) ty_descOf_39 ty_szOf_88 ty_zeroCells_88 ⟨rfl, by decide, by decide⟩, ev_slice_sl ty_descOf_39 ty_szOf_88, ev_append ty_appInfo_39, ev_appNew_sl ty_descOf_39, keep_22_2, keep_22_4]

theorem trim4_no (l : List Val) (i j : Nat) (hl : l.length ≤ 100000000) (hij : i ≤ j) (v : Val) (hi : l[j]? = some v) (hb : Sl.isBlank v = false) :
    Ends (exL K 22 tlp4 (trimH l i (j + 1))) fun o S => o = .exit 2 ∧ S.nt = 38 ∧ S.sl 0 = L (encL l) ∧ S.sl 3 = I i ∧ S.sl 4 = I ((j + 1 : Nat) : Int) := by
  obtain ⟨k, t, c⟩ := v
  have hil : j < l.length := (List.getElem?_eq_some_iff.1 hi).1
  have hlt : decide ((i : Int) < ((j + 1 : Nat) : Int)) = true := decide_eq_true (by omega)
  have hget := val_at l j k t c hi
  have hw : IntKind.i64.wrap (((j + 1 : Nat) : Int) - 1) = (j : Int) := by rw [IntWalk.i64_in _ (by omega)]; omega
  have hd := blank_den k t c
  rw [hb] at hd
  unfold tlp4
  conv in loopAt _ _ => whnf
  rw [exL_loop]
  simp only [go_sem, Nat.reduceLT, reduceIte, reduceCtorEq, Nat.reduceEqDiff, apply_ite (Option.map (outOf _)), Nat.reduceBEq, Nat.reduceAdd, Nat.reduceSub, Nat.reduceLeDiff, Nat.reduceMul, ev_len_sl ty_descOf_39, ev_indexAddr ty_descOf_39, ty_szOf_88, ty_shapeT_88, good_32, ev_buildSlice (len := 0) ty_descOf_39 ty_szOf_88 ty_zeroCells_88 ⟨rfl, by decide, by decide⟩, ev_slice_sl ty_descOf_39 ty_szOf_88, ev_append ty_appInfo_39, ev_appNew_sl ty_descOf_39, keep_22_2, keep_22_4, hlt, hget, Int.natCast_nonneg, hw, hd, ends_some]

theorem trim4_end (l : List Val) (i : Nat) : Ends (exL K 22 tlp4 (trimH l i i)) fun o S => o = .exit 2 ∧ S.nt = 38 ∧ S.sl 0 = L (encL l) ∧ S.sl 3 = I i ∧ S.sl 4 = I i := by
  unfold tlp4
  conv in loopAt _ _ => whnf
  rw [exL_loop]
  simp only [go_sem, Nat.reduceLT, reduceIte, reduceCtorEq, Nat.reduceEqDiff, apply_ite (Option.map (outOf _)), Nat.reduceBEq, Nat.reduceAdd, Nat.reduceSub, Nat.reduceLeDiff, Nat.reduceMul, ev_len_sl ty_descOf_39, ev_indexAddr ty_descOf_39, ty_szOf_88, ty_shapeT_88, good_32, ev_buildSlice (len := 0) ty_descOf_39 ty_szOf_88 ty_zeroCells_88 ⟨rfl, by decide, by decide⟩, ev_slice_sl ty_descOf_39 ty_szOf_88, ev_append ty_appInfo_39, ev_appNew_sl ty_descOf_39, keep_22_2, keep_22_4, ends_some]

theorem trim4_loop (l : List Val) (hl : l.length ≤ 100000000) (i : Nat) : ∀ (m j : Nat), j = i + m → j ≤ l.length →
    Ends (exL K 22 tlp4 (trimH l i j)) fun o S => o = .exit 2 ∧ S.nt = 38 ∧ ∃ e : Nat, i ≤ e ∧ e ≤ l.length ∧ (l.take e).drop i = (((l.take j).drop i).reverse.dropWhile Sl.isBlank).reverse ∧ S.sl 0 = L (encL l) ∧ S.sl 3 = I i ∧ S.sl 4 = I e
  | 0, j, hj, hjl => by
    obtain rfl : j = i := by omega
    refine ends_imp (trim4_end l j) fun o S q => ⟨q.1, q.2.1, j, Nat.le_refl _, hjl, ?_, q.2.2⟩
    have : (l.take j).drop j = [] := by rw [List.drop_eq_nil_iff, List.length_take]; omega
    rw [this]; rfl
  | m + 1, j, hj, hjl => by
    obtain rfl : j = (i + m) + 1 := by omega
    have hlt : i + m < l.length := by omega
    have hg : l[i + m]? = some l[i + m] := List.getElem?_eq_getElem hlt
    have htk : (l.take (i + m + 1)).drop i = (l.take (i + m)).drop i ++ [l[i + m]] := by
      rw [List.take_add_one, hg, Option.toList_some, List.drop_append_of_le_length (by rw [List.length_take]; omega)]
    generalize hv : l[i + m] = v at hg htk
    cases hb : Sl.isBlank v with
    | true =>
      rw [trim4_yes l i (i + m) hl (by omega) v hg hb]
      refine ends_imp (trim4_loop l hl i m (i + m) rfl (by omega)) fun o S q => ?_
      obtain ⟨q1, q2, e, q3, q4, q5, q6⟩ := q
      refine ⟨q1, q2, e, q3, q4, ?_, q6⟩
      rw [q5, htk, List.reverse_append, List.reverse_singleton, List.singleton_append, List.dropWhile_cons, if_pos hb]
    | false =>
      refine ends_imp (trim4_no l i (i + m) hl (by omega) v hg hb) fun o S q => ⟨q.1, q.2.1, i + m + 1, by omega, hjl, ?_, q.2.2⟩
      rw [htk, List.reverse_append, List.reverse_singleton, List.singleton_append, List.dropWhile_cons, if_neg (by rw [hb]; simp), List.reverse_cons, List.reverse_reverse]

theorem encL_cut (l : List Val) (a b : Nat) : ((encL l).take a).drop b = encL ((l.take a).drop b) := by
  rw [encL_map, encL_map, List.map_drop, List.map_take]

theorem Sl.trim_len (l : List Val) : (Sl.trim l).length ≤ l.length := by
  unfold Sl.trim
  rw [List.length_reverse]
  have h1 := (List.dropWhile_sublist Sl.isBlank (l := (l.dropWhile Sl.isBlank).reverse)).length_le
  have h2 := (List.dropWhile_sublist Sl.isBlank (l := l)).length_le
  rw [List.length_reverse] at h1
  omega

theorem Trim_den (l : List Val) (hl : l.length ≤ 100000000) : den K 22 [L (encL l)] [] = some (.ret (L (encL (Sl.trim l))) []) := by
  have h2 := trim2_loop l hl l 0 rfl (Nat.zero_le _)
  unfold tlp2 at h2
  conv at h2 in loopAt _ _ => whnf
  obtain ⟨o, S, w, rfl, hn, j, hj, hjd, s0, s3, s4⟩ := h2
  have h4 := trim4_loop l hl j (l.length - j) l.length (by omega) (Nat.le_refl _)
  unfold tlp4 at h4
  conv at h4 in loopAt _ _ => whnf
  obtain ⟨o', S', w', rfl, hn', e, he1, he2, hed, s0', s3', s4'⟩ := h4
  have hres : (l.take e).drop j = Sl.trim l := by
    rw [hed, List.take_length, hjd]; rfl
  have hlen : (Sl.trim l).length < appLim := by
    have : (Sl.trim l).length ≤ l.length := by rw [← hres, List.length_drop, List.length_take]; omega
    unfold appLim; omega
  have hlv := lens_valsK l
  have hlv2 := lens_valsK (Sl.trim l)
  have hb1 : ((0 : Int) ≤ (e : Int) ∧ (e : Int) ≤ (l.length : Int)) = True := by rw [eq_iff_iff]; simp; omega
  have hb2 : ((0 : Int) ≤ (j : Int) ∧ (j : Int) ≤ (e : Int)) = True := by rw [eq_iff_iff]; simp; omega
  refine den_run rfl Tryd.func22 rfl Tryd.ntmps22 ⟨by simp, by simp [LK]⟩ ?_
  have hr : Tryd.f22.results = #[.tmp 2] := rfl
  simp only [go_sem, Nat.reduceLT, reduceIte, reduceCtorEq, Nat.reduceEqDiff, apply_ite (Option.map (outOf _)), Nat.reduceBEq, Nat.reduceAdd, Nat.reduceSub, Nat.reduceLeDiff, Nat.reduceMul, ev_len_sl ty_descOf_39, ev_indexAddr ty_descOf_39, ty_szOf_88, ty_shapeT_88, good_32, ev_buildSlice (len := 0) ty_descOf_39 ty_szOf_88 ty_zeroCells_88 ⟨rfl, by decide, by decide⟩, ev_slice_sl ty_descOf_39 ty_szOf_88, ev_append ty_appInfo_39, ev_appNew_sl ty_descOf_39, keep_22_2, keep_22_4, encL_len]
  rw [exL_head]
  simp only [go_sem, Nat.reduceLT, reduceIte, reduceCtorEq, Nat.reduceEqDiff, apply_ite (Option.map (outOf _)), Nat.reduceBEq, Nat.reduceAdd, Nat.reduceSub, Nat.reduceLeDiff, Nat.reduceMul, ev_len_sl ty_descOf_39, ev_indexAddr ty_descOf_39, ty_szOf_88, ty_shapeT_88, good_32, ev_buildSlice (len := 0) ty_descOf_39 ty_szOf_88 ty_zeroCells_88 ⟨rfl, by decide, by decide⟩, ev_slice_sl ty_descOf_39 ty_szOf_88, ev_append ty_appInfo_39, ev_appNew_sl ty_descOf_39, keep_22_2, keep_22_4]
  erw [w]
  simp only [go_sem, Nat.reduceLT, reduceIte, reduceCtorEq, Nat.reduceEqDiff, apply_ite (Option.map (outOf _)), Nat.reduceBEq, Nat.reduceAdd, Nat.reduceSub, Nat.reduceLeDiff, Nat.reduceMul, ev_len_sl ty_descOf_39, ev_indexAddr ty_descOf_39, ty_szOf_88, ty_shapeT_88, good_32, ev_buildSlice (len := 0) ty_descOf_39 ty_szOf_88 ty_zeroCells_88 ⟨rfl, by decide, by decide⟩, ev_slice_sl ty_descOf_39 ty_szOf_88, ev_append ty_appInfo_39, ev_appNew_sl ty_descOf_39, keep_22_2, keep_22_4, hn, s0, s3, s4]
  rw [exL_head]
  simp only [go_sem, Nat.reduceLT, reduceIte, reduceCtorEq, Nat.reduceEqDiff, apply_ite (Option.map (outOf _)), Nat.reduceBEq, Nat.reduceAdd, Nat.reduceSub, Nat.reduceLeDiff, Nat.reduceMul, ev_len_sl ty_descOf_39, ev_indexAddr ty_descOf_39, ty_szOf_88, ty_shapeT_88, good_32, ev_buildSlice (len := 0) ty_descOf_39 ty_szOf_88 ty_zeroCells_88 ⟨rfl, by decide, by decide⟩, ev_slice_sl ty_descOf_39 ty_szOf_88, ev_append ty_appInfo_39, ev_appNew_sl ty_descOf_39, keep_22_2, keep_22_4, hn, s0, s3, s4]
  erw [w']
  simp only [go_sem, Nat.reduceLT, reduceIte, reduceCtorEq, Nat.reduceEqDiff, apply_ite (Option.map (outOf _)), Nat.reduceBEq, Nat.reduceAdd, Nat.reduceSub, Nat.reduceLeDiff, Nat.reduceMul, ev_len_sl ty_descOf_39, ev_indexAddr ty_descOf_39, ty_szOf_88, ty_shapeT_88, good_32, ev_buildSlice (len := 0) ty_descOf_39 ty_szOf_88 ty_zeroCells_88 ⟨rfl, by decide, by decide⟩, ev_slice_sl ty_descOf_39 ty_szOf_88, ev_append ty_appInfo_39, ev_appNew_sl ty_descOf_39, keep_22_2, keep_22_4, hr, hn', s0', s3', s4', encL_len, hb1, hb2, Int.toNat_natCast, encL_cut, hres, hlen, hlv, hlv2, lens_nil]

/-! ### cut by a sign -/

abbrev encP (l : List (List Val)) : List (List PV) := l.map fun p => [.sl (encL p)]
theorem lens_parts (l : List (List Val)) : lens 1 (encP l) = true := by simp [lens]
theorem lens_part (x : PV) : lens 1 [[x]] = true := rfl
theorem snoc_part (out : List (List Val)) (p : List Val) : encP out ++ [[.sl (encL p)]] = encP (out ++ [p]) := by simp [encP]
theorem snoc_v (acc : List Val) (k : Int) (t : Tok) (vs : List Val) : encL acc ++ [[.int .i64 k, .int .i64 t.kind, .str t.text, .int .i64 t.n, .sl (encL vs)]] = encL (acc ++ [.mk k t vs]) := by
  rw [encL_app]; rfl

abbrev atH (s : List UInt8) (l : List Val) (i e e' : Nat) (out : List (List Val)) (part : List Val) : St :=
  { sl := upd (upd (upd (upd (upd bot 7 (I i)) 6 (.c (.own e' (encL part)))) 5 (.c (.own e (encP out)))) 1 (T s)) 0 (L (encL l)), bx := nobox, nt := 38 }
noncomputable def atlp : Code := .loop (loopAt Tryd.f23 4)

theorem at_yes (s : List UInt8) (l : List Val) (i e e' : Nat) (out : List (List Val)) (part : List Val) (hl : l.length ≤ 100000000) (ho : out.length ≤ 100000000) (he : e = 39 ∨ out = []) (v : Val) (hi : l[i]? = some v) (hb : Sl.isSign s v = true) :
    exL K 23 atlp (atH s l i e e' out part) = exL K 23 atlp (atH s l (i + 1) 39 88 (out ++ [part]) []) := by
  obtain ⟨k, t, c⟩ := v
  have hil : i < l.length := (List.getElem?_eq_some_iff.1 hi).1
  have hlt : decide ((i : Int) < (l.length : Int)) = true := decide_eq_true (by omega)
  have hget := val_at l i k t c hi
  have hw : IntKind.i64.wrap ((i : Int) + 1) = ((i + 1 : Nat) : Int) := wrap_nat i (by omega)
  have hd := sign3_den k t c s
  rw [hb] at hd
  have hown : e = 39 ∨ (encP out).isEmpty = true := by
    rcases he with rfl | rfl
    · exact .inl rfl
    · exact .inr rfl
  have hlim : out.length + 1 < appLim := by unfold appLim; omega
  have hlv := lens_parts out
  have e0 : encL [] = [] := rfl
  unfold atlp
  conv in loopAt _ _ => whnf
  conv in loopAt _ _ => whnf
  conv in exL _ _ _ (atH s l i e e' out part) => rw [exL_loop]
  simp only [go_sem, Nat.reduceLT, reduceIte, reduceCtorEq, Nat.reduceEqDiff, apply_ite (Option.map (outOf _)), Nat.reduceBEq, Nat.reduceAdd, Nat.reduceSub, Nat.reduceLeDiff, Nat.reduceMul, ev_buildSlice (len := 0) ty_descOf_63 ty_szOf_39 ty_zeroCells_39 ⟨rfl, by decide, by decide⟩, ev_buildSlice (len := 0) ty_descOf_39 ty_szOf_88 ty_zeroCells_88 ⟨rfl, by decide, by decide⟩, ev_len_sl ty_descOf_39, ev_indexAddr ty_descOf_39, ty_szOf_88, ty_shapeT_88, good_33, ev_buildSlice (len := 1) ty_descOf_63 ty_szOf_39 ty_zeroCells_39 ⟨rfl, by decide, by decide⟩, ev_append ty_appInfo_63, ev_appNew_sl ty_descOf_63, ev_buildSlice (len := 1) ty_descOf_39 ty_szOf_88 ty_zeroCells_88 ⟨rfl, by decide, by decide⟩, ev_append ty_appInfo_39, ev_appNew_sl ty_descOf_39, keep_23_4, encL_len, hlt, hget, Int.natCast_nonneg, hw, hd, hown, hlim, hlv, lens_part, snoc_part]
  rw [exL_head]
  simp only [go_sem, Nat.reduceLT, reduceIte, reduceCtorEq, Nat.reduceEqDiff, apply_ite (Option.map (outOf _)), Nat.reduceBEq, Nat.reduceAdd, Nat.reduceSub, Nat.reduceLeDiff, Nat.reduceMul, ev_buildSlice (len := 0) ty_descOf_63 ty_szOf_39 ty_zeroCells_39 ⟨rfl, by decide, by decide⟩, ev_buildSlice (len := 0) ty_descOf_39 ty_szOf_88 ty_zeroCells_88 ⟨rfl, by decide, by decide⟩, ev_len_sl ty_descOf_39, ev_indexAddr ty_descOf_39, ty_szOf_88, ty_shapeT_88, good_33, ev_buildSlice (len := 1) ty_descOf_63 ty_szOf_39 ty_zeroCells_39 ⟨rfl, by decide, by decide⟩, ev_append ty_appInfo_63, ev_appNew_sl ty_descOf_63, ev_buildSlice (len := 1) ty_descOf_39 ty_szOf_88 ty_zeroCells_88 ⟨rfl, by decide, by decide⟩, ev_append ty_appInfo_39, ev_appNew_sl ty_descOf_39, keep_23_4]
  rfl

theorem at_no (s : List UInt8) (l : List Val) (i e e' : Nat) (out : List (List Val)) (part : List Val) (hl : l.length ≤ 100000000) (ho : part.length ≤ 100000000) (he : e' = 88 ∨ part = []) (v : Val) (hi : l[i]? = some v) (hb : Sl.isSign s v = false) :
    exL K 23 atlp (atH s l i e e' out part) = exL K 23 atlp (atH s l (i + 1) e 88 out (part ++ [v])) := by
  obtain ⟨k, t, c⟩ := v
  have hil : i < l.length := (List.getElem?_eq_some_iff.1 hi).1
  have hlt : decide ((i : Int) < (l.length : Int)) = true := decide_eq_true (by omega)
  have hget := val_at l i k t c hi
  have hw : IntKind.i64.wrap ((i : Int) + 1) = ((i + 1 : Nat) : Int) := wrap_nat i (by omega)
  have hd := sign3_den k t c s
  rw [hb] at hd
  have hown : e' = 88 ∨ (encL part).isEmpty = true := by
    rcases he with rfl | rfl
    · exact .inl rfl
    · exact .inr rfl
  have hlim : part.length + 1 < appLim := by unfold appLim; omega
  have hlv := lens_valsK part
  unfold atlp
  conv in loopAt _ _ => whnf
  conv in loopAt _ _ => whnf
  conv in exL _ _ _ (atH s l i e e' out part) => rw [exL_loop]
  simp only [go_sem, Nat.reduceLT, reduceIte, reduceCtorEq, Nat.reduceEqDiff, apply_ite (Option.map (outOf _)), Nat.reduceBEq, Nat.reduceAdd, Nat.reduceSub, Nat.reduceLeDiff, Nat.reduceMul, ev_buildSlice (len := 0) ty_descOf_63 ty_szOf_39 ty_zeroCells_39 ⟨rfl, by decide, by decide⟩, ev_buildSlice (len := 0) ty_descOf_39 ty_szOf_88 ty_zeroCells_88 ⟨rfl, by decide, by decide⟩, ev_len_sl ty_descOf_39, ev_indexAddr ty_descOf_39, ty_szOf_88, ty_shapeT_88, good_33, ev_buildSlice (len := 1) ty_descOf_63 ty_szOf_39 ty_zeroCells_39 ⟨rfl, by decide, by decide⟩, ev_append ty_appInfo_63, ev_appNew_sl ty_descOf_63, ev_buildSlice (len := 1) ty_descOf_39 ty_szOf_88 ty_zeroCells_88 ⟨rfl, by decide, by decide⟩, ev_append ty_appInfo_39, ev_appNew_sl ty_descOf_39, keep_23_4, encL_len, hlt, hget, Int.natCast_nonneg, hw, hd, hown, hlim, hlv, lens_valK, snoc_v]
  rw [exL_head]
  simp only [go_sem, Nat.reduceLT, reduceIte, reduceCtorEq, Nat.reduceEqDiff, apply_ite (Option.map (outOf _)), Nat.reduceBEq, Nat.reduceAdd, Nat.reduceSub, Nat.reduceLeDiff, Nat.reduceMul, ev_buildSlice (len := 0) ty_descOf_63 ty_szOf_39 ty_zeroCells_39 ⟨rfl, by decide, by decide⟩, ev_buildSlice (len := 0) ty_descOf_39 ty_szOf_88 ty_zeroCells_88 ⟨rfl, by decide, by decide⟩, ev_len_sl ty_descOf_39, ev_indexAddr ty_descOf_39, ty_szOf_88, ty_shapeT_88, good_33, ev_buildSlice (len := 1) ty_descOf_63 ty_szOf_39 ty_zeroCells_39 ⟨rfl, by decide, by decide⟩, ev_append ty_appInfo_63, ev_appNew_sl ty_descOf_63, ev_buildSlice (len := 1) ty_descOf_39 ty_szOf_88 ty_zeroCells_88 ⟨rfl, by decide, by decide⟩, ev_append ty_appInfo_39, ev_appNew_sl ty_descOf_39, keep_23_4]

theorem at_end (s : List UInt8) (l : List Val) (e e' : Nat) (out : List (List Val)) (part : List Val) :
    Ends (exL K 23 atlp (atH s l l.length e e' out part)) fun o S => o = .exit 0 ∧ S.nt = 38 ∧ S.sl 5 = .c (.own e (encP out)) ∧ S.sl 6 = .c (.own e' (encL part)) := by
  unfold atlp
  conv in loopAt _ _ => whnf
  rw [exL_loop]
  simp only [go_sem, Nat.reduceLT, reduceIte, reduceCtorEq, Nat.reduceEqDiff, apply_ite (Option.map (outOf _)), Nat.reduceBEq, Nat.reduceAdd, Nat.reduceSub, Nat.reduceLeDiff, Nat.reduceMul, ev_buildSlice (len := 0) ty_descOf_63 ty_szOf_39 ty_zeroCells_39 ⟨rfl, by decide, by decide⟩, ev_buildSlice (len := 0) ty_descOf_39 ty_szOf_88 ty_zeroCells_88 ⟨rfl, by decide, by decide⟩, ev_len_sl ty_descOf_39, ev_indexAddr ty_descOf_39, ty_szOf_88, ty_shapeT_88, good_33, ev_buildSlice (len := 1) ty_descOf_63 ty_szOf_39 ty_zeroCells_39 ⟨rfl, by decide, by decide⟩, ev_append ty_appInfo_63, ev_appNew_sl ty_descOf_63, ev_buildSlice (len := 1) ty_descOf_39 ty_szOf_88 ty_zeroCells_88 ⟨rfl, by decide, by decide⟩, ev_append ty_appInfo_39, ev_appNew_sl ty_descOf_39, keep_23_4, encL_len, ends_some]

/-- what stands between signs, from a part on -/
def atF (s : List UInt8) (part : List Val) : List Val → List (List Val)
  | [] => [part]
  | v :: l => if Sl.isSign s v then part :: atF s [] l else atF s (part ++ [v]) l
theorem atF_eq (s : List UInt8) : ∀ (l part : List Val), ∃ p ps, Sl.at_ s l = p :: ps ∧ atF s part l = (part ++ p) :: ps
  | [], part => ⟨[], [], rfl, by simp [atF]⟩
  | v :: l, part => by
    rw [Sl.at_, atF]
    split
    · obtain ⟨p, ps, h1, h2⟩ := atF_eq s l []
      exact ⟨[], Sl.at_ s l, rfl, by rw [h1, h2]; simp⟩
    · obtain ⟨p, ps, h1, h2⟩ := atF_eq s l (part ++ [v])
      rw [h1]
      exact ⟨v :: p, ps, rfl, by rw [h2]; simp⟩
theorem atF_at (s : List UInt8) (l : List Val) : atF s [] l = Sl.at_ s l := by
  obtain ⟨p, ps, h1, h2⟩ := atF_eq s l []
  rw [h1, h2, List.nil_append]

theorem at_loop (s : List UInt8) (l : List Val) (hl : l.length ≤ 100000000) : ∀ (rest : List Val) (i e e' : Nat) (out : List (List Val)) (part : List Val), l.drop i = rest → i ≤ l.length → out.length ≤ i → part.length ≤ i → (e = 39 ∨ out = []) → (e' = 88 ∨ part = []) →
    Ends (exL K 23 atlp (atH s l i e e' out part)) fun o S => o = .exit 0 ∧ S.nt = 38 ∧ ∃ (f f' : Nat) (out' : List (List Val)) (part' : List Val), S.sl 5 = .c (.own f (encP out')) ∧ S.sl 6 = .c (.own f' (encL part')) ∧ out' ++ [part'] = out ++ atF s part rest ∧ out'.length ≤ l.length ∧ (f = 39 ∨ out' = [])
  | [], i, e, e', out, part, hd, hi, h1, h2, h3, h4 => by
    have hin : i = l.length := by
      have := List.drop_eq_nil_iff.1 hd
      omega
    subst hin
    refine ends_imp (at_end s l e e' out part) fun o S q => ⟨q.1, q.2.1, e, e', out, part, q.2.2.1, q.2.2.2, rfl, h1, h3⟩
  | v :: rest, i, e, e', out, part, hd, hi, h1, h2, h3, h4 => by
    obtain ⟨g1, g2, g3⟩ := drop_cons hd
    cases hb : Sl.isSign s v with
    | true =>
      rw [at_yes s l i e e' out part hl (by omega) h3 v g1 hb]
      have := at_loop s l hl rest (i + 1) 39 88 (out ++ [part]) [] g2 (by omega) (by rw [List.length_append, List.length_singleton]; omega) (Nat.zero_le _) (.inl rfl) (.inl rfl)
      rw [List.append_assoc, List.singleton_append] at this
      rw [atF, hb, if_pos rfl]
      exact this
    | false =>
      rw [at_no s l i e e' out part hl (by omega) h4 v g1 hb]
      have := at_loop s l hl rest (i + 1) e 88 out (part ++ [v]) g2 (by omega) (by omega) (by rw [List.length_append, List.length_singleton]; omega) h3 (.inl rfl)
      rw [atF, hb, if_neg (by simp)]
      exact this

theorem At_den (l : List Val) (s : List UInt8) (hl : l.length ≤ 100000000) : den K 23 [L (encL l), T s] [] = some (.ret (L (encP (Sl.at_ s l))) []) := by
  have h := at_loop s l hl l 0 39 88 [] [] rfl (Nat.zero_le _) (Nat.le_refl _) (Nat.le_refl _) (.inl rfl) (.inl rfl)
  unfold atlp at h
  conv at h in loopAt _ _ => whnf
  obtain ⟨o, S, w, rfl, hn, f, f', out, part, s5, s6, hp, hlen, hf⟩ := h
  rw [List.nil_append, atF_at] at hp
  rw [← hp, ← snoc_part]
  have hown : f = 39 ∨ (encP out).isEmpty = true := by
    rcases hf with rfl | rfl
    · exact .inl rfl
    · exact .inr rfl
  have hlim : out.length + 1 < appLim := by unfold appLim; omega
  have hlv := lens_parts out
  have e0 : encL [] = [] := rfl
  refine den_run rfl Tryd.func23 rfl Tryd.ntmps23 ⟨by simp, by simp [LK]⟩ ?_
  have hr : Tryd.f23.results = #[.tmp 4] := rfl
  simp only [go_sem, Nat.reduceLT, reduceIte, reduceCtorEq, Nat.reduceEqDiff, apply_ite (Option.map (outOf _)), Nat.reduceBEq, Nat.reduceAdd, Nat.reduceSub, Nat.reduceLeDiff, Nat.reduceMul, ev_buildSlice (len := 0) ty_descOf_63 ty_szOf_39 ty_zeroCells_39 ⟨rfl, by decide, by decide⟩, ev_buildSlice (len := 0) ty_descOf_39 ty_szOf_88 ty_zeroCells_88 ⟨rfl, by decide, by decide⟩, ev_len_sl ty_descOf_39, ev_indexAddr ty_descOf_39, ty_szOf_88, ty_shapeT_88, good_33, ev_buildSlice (len := 1) ty_descOf_63 ty_szOf_39 ty_zeroCells_39 ⟨rfl, by decide, by decide⟩, ev_append ty_appInfo_63, ev_appNew_sl ty_descOf_63, ev_buildSlice (len := 1) ty_descOf_39 ty_szOf_88 ty_zeroCells_88 ⟨rfl, by decide, by decide⟩, ev_append ty_appInfo_39, ev_appNew_sl ty_descOf_39, keep_23_4, encL_len]
  rw [exL_head]
  simp only [go_sem, Nat.reduceLT, reduceIte, reduceCtorEq, Nat.reduceEqDiff, apply_ite (Option.map (outOf _)), Nat.reduceBEq, Nat.reduceAdd, Nat.reduceSub, Nat.reduceLeDiff, Nat.reduceMul, ev_buildSlice (len := 0) ty_descOf_63 ty_szOf_39 ty_zeroCells_39 ⟨rfl, by decide, by decide⟩, ev_buildSlice (len := 0) ty_descOf_39 ty_szOf_88 ty_zeroCells_88 ⟨rfl, by decide, by decide⟩, ev_len_sl ty_descOf_39, ev_indexAddr ty_descOf_39, ty_szOf_88, ty_shapeT_88, good_33, ev_buildSlice (len := 1) ty_descOf_63 ty_szOf_39 ty_zeroCells_39 ⟨rfl, by decide, by decide⟩, ev_append ty_appInfo_63, ev_appNew_sl ty_descOf_63, ev_buildSlice (len := 1) ty_descOf_39 ty_szOf_88 ty_zeroCells_88 ⟨rfl, by decide, by decide⟩, ev_append ty_appInfo_39, ev_appNew_sl ty_descOf_39, keep_23_4]
  erw [w]
  simp only [go_sem, Nat.reduceLT, reduceIte, reduceCtorEq, Nat.reduceEqDiff, apply_ite (Option.map (outOf _)), Nat.reduceBEq, Nat.reduceAdd, Nat.reduceSub, Nat.reduceLeDiff, Nat.reduceMul, ev_buildSlice (len := 0) ty_descOf_63 ty_szOf_39 ty_zeroCells_39 ⟨rfl, by decide, by decide⟩, ev_buildSlice (len := 0) ty_descOf_39 ty_szOf_88 ty_zeroCells_88 ⟨rfl, by decide, by decide⟩, ev_len_sl ty_descOf_39, ev_indexAddr ty_descOf_39, ty_szOf_88, ty_shapeT_88, good_33, ev_buildSlice (len := 1) ty_descOf_63 ty_szOf_39 ty_zeroCells_39 ⟨rfl, by decide, by decide⟩, ev_append ty_appInfo_63, ev_appNew_sl ty_descOf_63, ev_buildSlice (len := 1) ty_descOf_39 ty_szOf_88 ty_zeroCells_88 ⟨rfl, by decide, by decide⟩, ev_append ty_appInfo_39, ev_appNew_sl ty_descOf_39, keep_23_4, hr, hn, s5, s6, hown, hlim, hlv, lens_part]
end Go.Abs
