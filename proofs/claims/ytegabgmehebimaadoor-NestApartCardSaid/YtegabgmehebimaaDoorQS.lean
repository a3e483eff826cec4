/-
  WHAT THE FUNCTIONS COMPUTE, layer 2: values told flat, as the document says; how many there are.
  WHAT THE FUNCTIONS COMPUTE, layer 2: how many values there are; whether values may be.
-/
import Derived.Test.YtegabgmehebimaaDoorQR
import Derived.Test.YtegabgmehebimaaDoorQM
set_option linter.unusedSimpArgs false
set_option linter.unusedVariables false
namespace Go.Abs
open Go Go.Proofs
set_option maxRecDepth 10000
attribute [local go_sem] exL_seq exL_region exL_cond exL_block exL_scope exL_ret exL_skip exL_exit runRegion runOps stepOp guardA absOp takeOver opd avOf cvOf St.degAt St.put okPV okVal okAV absBin intBin strBin boolBin setBoxes if_true Bool.false_eq_true if_false Option.map_some Option.map_none Option.bind_some Option.bind_none thenO outOf upd List.toList_toArray isOwn steal appArgs inApps AV.deg CV.deg AV.gv AV.isIter absNext some_bne List.length_nil List.length_cons List.filterMap_cons List.filterMap_nil beq_iff_eq List.getElem?_cons_zero List.getElem?_cons_succ Option.getD_some K_hook hookB Bool.false_and Bool.and_false Bool.and_self K_P K_own absCall doCall getBoxes lend back idx dedup AV.ren CV.ren TV.ren AV.ptrs CV.ptrs zipBox AV.flat CV.flat absLoad absStore cellsOfAV setAt newBox markB bldTypes absFieldAddr absField absExtract absAssert noAssert absMkIface ifcOf CV.pv? content pushHead ownT fillCells reps pvs chunks enterSt leave resOf resVars resVar outBoxes lentOnly TV.deg TV.av LK CV.plain CV.noBld nilBin absUn bound List.map_cons List.map_nil List.all_cons List.all_nil List.any_cons List.any_nil List.contains_cons List.contains_nil List.elem_cons List.elem_nil List.cons_append List.nil_append List.append_nil List.flatMap_cons List.flatMap_nil List.zip_cons_cons List.zip_nil_left List.zip_nil_right List.take_succ_cons List.take_zero List.take_nil List.drop_succ_cons List.drop_zero List.drop_nil List.isEmpty_nil List.isEmpty_cons Bool.and_true Bool.true_and Bool.or_true Bool.true_or Bool.or_false Bool.false_or Bool.not_true Bool.not_false Nat.add_zero Nat.zero_add Option.isNone_none Option.isNone_some Option.getD_none true_and and_true not_true_eq_false not_false_eq_true decide_true decide_false Nat.le_refl and_self Bool.not_eq_true Nat.sub_self or_true true_or Option.some.injEq List.length_map List.nil_eq and_false false_and AV.live CV.live CV.liveIn K_keep firstReg Option.orElse_some Option.orElse_none head keepSlots keepBoxes Int.lt_irrefl List.length_append ite_self memOK logOps opKey lentBoxes Key.clash Key.sees Key.writes Nat.lt_irrefl gt_iff_lt nobox_at bot_at false_or or_false beq_self_eq_true Bool.true_beq Bool.false_beq

theorem delim2_den (s : List UInt8) : den K 33 [T s] [] = some (.ret (.agg [.pv (.int .i64 7), .pv (.str s), .pv (.int .i64 0)]) []) := by
  refine den_run rfl Tryd.func33 rfl Tryd.ntmps33 ⟨by simp, by simp [LK]⟩ ?_
  have hr : Tryd.f33.results = #[.cell 2 38] := rfl
  simp only [go_sem, Nat.reduceLT, reduceIte, reduceCtorEq, Nat.reduceEqDiff, apply_ite (Option.map (outOf _)), Nat.reduceBEq, Nat.reduceAdd, Nat.reduceSub, Nat.reduceLeDiff, Nat.reduceMul, ty_shapeT_38, ty_zeroCells_38, ev_build ty_zeroCells_38 ty_placesOf_38, ty_szOf_38, hr]

abbrev flat2H (l : List Val) (i : Nat) (e : Nat) (acc : List Tok) : St :=
  { sl := upd (upd (upd bot 4 (I i)) 3 (.c (.own e (acc.map Tok.enc)))) 0 (L (encL l)), bx := nobox, nt := 67 }
noncomputable def flp2 : Code := .loop (loopAt Tryd.f16 3)
def Flat2Den (l : List Val) : Prop := Ne.size l ≤ 1000000 → den K 16 [L (encL l)] [] = some (.ret (L ((Ne.flat l).map Tok.enc)) [])

set_option maxHeartbeats 4000000 in
theorem flat2_step (l : List Val) (i : Nat) (e : Nat) (acc : List Tok) (he : e = 38 ∨ acc = []) (k : Int) (t : Tok) (l' : List Val) (hi : l[i]? = some (.mk k t l')) (hlen : l.length ≤ 1000000) (hacc : acc.length ≤ 3000000) (hs : (Ne.flat l').length ≤ 3000000)
    (hf : den K 16 [L (encL l')] [] = some (.ret (L ((Ne.flat l').map Tok.enc)) [])) :
    ∃ e', (e' = 38 ∨ acc ++ Ne.flatV (.mk k t l') = []) ∧ exL K 16 flp2 (flat2H l i e acc) = exL K 16 flp2 (flat2H l (i + 1) e' (acc ++ Ne.flatV (.mk k t l'))) := by
  have hil : i < l.length := (List.getElem?_eq_some_iff.1 hi).1
  have hlt : decide ((i : Int) < (l.length : Int)) = true := decide_eq_true (by omega)
  have hget := val_at l i k t l' hi
  have hw : IntKind.i64.wrap ((i : Int) + 1) = ((i + 1 : Nat) : Int) := wrap_nat i (by omega)
  have hown : e = 38 ∨ (acc.map Tok.enc).isEmpty = true := by
    rcases he with rfl | rfl
    · exact .inl rfl
    · exact .inr rfl
  have hlim1 : acc.length + 1 < appLim := by unfold appLim; omega
  have hlim2 : acc.length + 1 + (Ne.flat l').length < appLim := by unfold appLim; omega
  have hlim3 : acc.length + 1 + (Ne.flat l').length + 1 < appLim := by unfold appLim; omega
  unfold flp2
  conv in loopAt _ _ => whnf
  conv in loopAt _ _ => whnf
  conv in exL _ _ _ (flat2H l i e acc) => rw [exL_loop]
  by_cases h1 : k = 1
  · subst h1
    have c1 : decide ((1 : Int) < 1) = false := by decide
    have c2 : decide ((5 : Int) < 1) = false := by decide
    have c3 : decide ((1 : Int) < 1) = false := by decide
    refine ⟨38, .inl rfl, ?_⟩
    have hv : Ne.flatV (.mk 1 t l') = [t] := by rw [Ne.flatV, if_pos rfl]
    rw [hv]
    simp only [go_sem, Nat.reduceLT, reduceIte, reduceCtorEq, Nat.reduceEqDiff, apply_ite (Option.map (outOf _)), Nat.reduceBEq, Nat.reduceAdd, Nat.reduceSub, Nat.reduceLeDiff, Nat.reduceMul, ev_buildSlice (len := 0) ty_descOf_22 ty_szOf_38 ty_zeroCells_38 ⟨rfl, by decide, by decide⟩, ev_len_sl ty_descOf_23, ev_indexAddr ty_descOf_23, ty_szOf_40, ty_fieldOff_40_0, ty_szOf_3, ty_shapeT_3, ty_fieldOff_40_1, ty_szOf_38, ty_shapeT_38, ev_buildSlice (len := 1) ty_descOf_22 ty_szOf_38 ty_zeroCells_38 ⟨rfl, by decide, by decide⟩, ev_append ty_appInfo_22, ev_appNew_sl ty_descOf_22, ev_slice_str ty_descOf_9, good_33, ty_fieldOff_40_2, ty_szOf_23, ty_shapeT_23, good_16, keep_16_3, encL_len, hlt, hget, Int.natCast_nonneg, hf, lens_toksK, lens_tokK, hlim1, hlim2, hlim3, hown, snoc_tok, snoc_del, app_toks, hw, c1, c2, c3]
    rw [exL_head]
    simp only [go_sem, Nat.reduceLT, reduceIte, reduceCtorEq, Nat.reduceEqDiff, apply_ite (Option.map (outOf _)), Nat.reduceBEq, Nat.reduceAdd, Nat.reduceSub, Nat.reduceLeDiff, Nat.reduceMul, ev_buildSlice (len := 0) ty_descOf_22 ty_szOf_38 ty_zeroCells_38 ⟨rfl, by decide, by decide⟩, ev_len_sl ty_descOf_23, ev_indexAddr ty_descOf_23, ty_szOf_40, ty_fieldOff_40_0, ty_szOf_3, ty_shapeT_3, ty_fieldOff_40_1, ty_szOf_38, ty_shapeT_38, ev_buildSlice (len := 1) ty_descOf_22 ty_szOf_38 ty_zeroCells_38 ⟨rfl, by decide, by decide⟩, ev_append ty_appInfo_22, ev_appNew_sl ty_descOf_22, ev_slice_str ty_descOf_9, good_33, ty_fieldOff_40_2, ty_szOf_23, ty_shapeT_23, good_16, keep_16_3]
  by_cases h5 : k = 5
  · subst h5
    have c1 : decide ((5 : Int) < 1) = false := by decide
    have c2 : decide ((5 : Int) < 5) = false := by decide
    have c3 : decide ((1 : Int) < 5) = true := by decide
    have n1 : ((5 : Int) = 1) = False := by decide
    have b1 : ((5 : Int) == 1) = false := by decide
    have q1 : ((0 : Int) ≤ 4 ∧ (4 : Int) ≤ ((4 : Nat) : Int)) = True := by simp
    have q2 : ((0 : Int) ≤ 3 ∧ (3 : Int) ≤ ((4 : Nat) : Int)) = True := by simp
    have q3 : Int.toNat 4 = 4 := rfl
    have q4 : Int.toNat 3 = 3 := rfl
    have w1 : IntKind.i64.wrap (5 - 2) = 3 := by decide
    have w2 : IntKind.i64.wrap (5 - 1) = 4 := by decide
    have hd2 := delim2_den [41]
    refine ⟨38, .inl rfl, ?_⟩
    have hv : Ne.flatV (.mk 5 t l') = t :: (Ne.flat l' ++ [Ne.closeT 5]) := by rw [Ne.flatV, if_neg (by decide), if_pos rfl]
    rw [hv]
    have ha : acc ++ t :: (Ne.flat l' ++ [Ne.closeT 5]) = acc ++ [t] ++ Ne.flat l' ++ [Tok.mk 7 [41] 0] := by simp [Ne.closeT, Ne.closeC]
    rw [ha]
    simp only [go_sem, Nat.reduceLT, reduceIte, reduceCtorEq, Nat.reduceEqDiff, apply_ite (Option.map (outOf _)), Nat.reduceBEq, Nat.reduceAdd, Nat.reduceSub, Nat.reduceLeDiff, Nat.reduceMul, ev_buildSlice (len := 0) ty_descOf_22 ty_szOf_38 ty_zeroCells_38 ⟨rfl, by decide, by decide⟩, ev_len_sl ty_descOf_23, ev_indexAddr ty_descOf_23, ty_szOf_40, ty_fieldOff_40_0, ty_szOf_3, ty_shapeT_3, ty_fieldOff_40_1, ty_szOf_38, ty_shapeT_38, ev_buildSlice (len := 1) ty_descOf_22 ty_szOf_38 ty_zeroCells_38 ⟨rfl, by decide, by decide⟩, ev_append ty_appInfo_22, ev_appNew_sl ty_descOf_22, ev_slice_str ty_descOf_9, good_33, ty_fieldOff_40_2, ty_szOf_23, ty_shapeT_23, good_16, keep_16_3, encL_len, hlt, hget, Int.natCast_nonneg, hf, lens_toksK, lens_tokK, hlim1, hlim2, hlim3, hown, snoc_tok, snoc_del, app_toks, hw, c1, c2, c3, n1, b1, q1, q2, q3, q4, w1, w2, hd2]
    rw [exL_head]
    simp only [go_sem, Nat.reduceLT, reduceIte, reduceCtorEq, Nat.reduceEqDiff, apply_ite (Option.map (outOf _)), Nat.reduceBEq, Nat.reduceAdd, Nat.reduceSub, Nat.reduceLeDiff, Nat.reduceMul, ev_buildSlice (len := 0) ty_descOf_22 ty_szOf_38 ty_zeroCells_38 ⟨rfl, by decide, by decide⟩, ev_len_sl ty_descOf_23, ev_indexAddr ty_descOf_23, ty_szOf_40, ty_fieldOff_40_0, ty_szOf_3, ty_shapeT_3, ty_fieldOff_40_1, ty_szOf_38, ty_shapeT_38, ev_buildSlice (len := 1) ty_descOf_22 ty_szOf_38 ty_zeroCells_38 ⟨rfl, by decide, by decide⟩, ev_append ty_appInfo_22, ev_appNew_sl ty_descOf_22, ev_slice_str ty_descOf_9, good_33, ty_fieldOff_40_2, ty_szOf_23, ty_shapeT_23, good_16, keep_16_3]
  by_cases h2 : k = 2
  · subst h2
    have c1 : decide ((2 : Int) < 1) = false := by decide
    have c2 : decide ((5 : Int) < 2) = false := by decide
    have c3 : decide ((1 : Int) < 2) = true := by decide
    have n1 : ((2 : Int) = 1) = False := by decide
    have n5 : ((2 : Int) = 5) = False := by decide
    have b1 : ((2 : Int) == 1) = false := by decide
    have b5 : ((2 : Int) == 5) = false := by decide
    have q1 : ((0 : Int) ≤ 1 ∧ (1 : Int) ≤ ((3 : Nat) : Int)) = True := by simp
    have q2 : ((0 : Int) ≤ 0 ∧ (0 : Int) ≤ ((1 : Nat) : Int)) = True := by simp
    have q3 : ((0 : Int) ≤ 1 ∧ (1 : Int) ≤ ((4 : Nat) : Int)) = True := by simp
    have q4 : Int.toNat 1 = 1 := rfl
    have q5 : Int.toNat 0 = 0 := rfl
    have w1 : IntKind.i64.wrap (2 - 2) = 0 := by decide
    have w2 : IntKind.i64.wrap (2 - 1) = 1 := by decide
    have hd1 := delim2_den [40]
    have hd2 := delim2_den [41]
    refine ⟨38, .inl rfl, ?_⟩
    have hv : Ne.flatV (.mk 2 t l') = Ne.openT 2 :: (Ne.flat l' ++ [Ne.closeT 2]) := by rw [Ne.flatV, if_neg (by decide), if_neg (by decide), if_pos (by decide)]
    rw [hv]
    have ha : acc ++ Ne.openT 2 :: (Ne.flat l' ++ [Ne.closeT 2]) = acc ++ [Tok.mk 7 [40] 0] ++ Ne.flat l' ++ [Tok.mk 7 [41] 0] := by simp [Ne.closeT, Ne.closeC, Ne.openT, Ne.openC]
    rw [ha]
    simp only [go_sem, Nat.reduceLT, reduceIte, reduceCtorEq, Nat.reduceEqDiff, apply_ite (Option.map (outOf _)), Nat.reduceBEq, Nat.reduceAdd, Nat.reduceSub, Nat.reduceLeDiff, Nat.reduceMul, ev_buildSlice (len := 0) ty_descOf_22 ty_szOf_38 ty_zeroCells_38 ⟨rfl, by decide, by decide⟩, ev_len_sl ty_descOf_23, ev_indexAddr ty_descOf_23, ty_szOf_40, ty_fieldOff_40_0, ty_szOf_3, ty_shapeT_3, ty_fieldOff_40_1, ty_szOf_38, ty_shapeT_38, ev_buildSlice (len := 1) ty_descOf_22 ty_szOf_38 ty_zeroCells_38 ⟨rfl, by decide, by decide⟩, ev_append ty_appInfo_22, ev_appNew_sl ty_descOf_22, ev_slice_str ty_descOf_9, good_33, ty_fieldOff_40_2, ty_szOf_23, ty_shapeT_23, good_16, keep_16_3, encL_len, hlt, hget, Int.natCast_nonneg, hf, lens_toksK, lens_tokK, hlim1, hlim2, hlim3, hown, snoc_tok, snoc_del, app_toks, hw, c1, c2, c3, n1, n5, b1, b5, Int.le_refl, q1, q2, q3, q4, q5, w1, w2, hd1, hd2]
    rw [exL_head]
    simp only [go_sem, Nat.reduceLT, reduceIte, reduceCtorEq, Nat.reduceEqDiff, apply_ite (Option.map (outOf _)), Nat.reduceBEq, Nat.reduceAdd, Nat.reduceSub, Nat.reduceLeDiff, Nat.reduceMul, ev_buildSlice (len := 0) ty_descOf_22 ty_szOf_38 ty_zeroCells_38 ⟨rfl, by decide, by decide⟩, ev_len_sl ty_descOf_23, ev_indexAddr ty_descOf_23, ty_szOf_40, ty_fieldOff_40_0, ty_szOf_3, ty_shapeT_3, ty_fieldOff_40_1, ty_szOf_38, ty_shapeT_38, ev_buildSlice (len := 1) ty_descOf_22 ty_szOf_38 ty_zeroCells_38 ⟨rfl, by decide, by decide⟩, ev_append ty_appInfo_22, ev_appNew_sl ty_descOf_22, ev_slice_str ty_descOf_9, good_33, ty_fieldOff_40_2, ty_szOf_23, ty_shapeT_23, good_16, keep_16_3]
  by_cases h3 : k = 3
  · subst h3
    have c1 : decide ((3 : Int) < 1) = false := by decide
    have c2 : decide ((5 : Int) < 3) = false := by decide
    have c3 : decide ((1 : Int) < 3) = true := by decide
    have n1 : ((3 : Int) = 1) = False := by decide
    have n5 : ((3 : Int) = 5) = False := by decide
    have b1 : ((3 : Int) == 1) = false := by decide
    have b5 : ((3 : Int) == 5) = false := by decide
    have q1 : ((0 : Int) ≤ 2 ∧ (2 : Int) ≤ ((3 : Nat) : Int)) = True := by simp
    have q2 : ((0 : Int) ≤ 1 ∧ (1 : Int) ≤ ((2 : Nat) : Int)) = True := by simp
    have q3 : ((0 : Int) ≤ 2 ∧ (2 : Int) ≤ ((4 : Nat) : Int)) = True := by simp
    have q4 : Int.toNat 2 = 2 := rfl
    have q5 : Int.toNat 1 = 1 := rfl
    have w1 : IntKind.i64.wrap (3 - 2) = 1 := by decide
    have w2 : IntKind.i64.wrap (3 - 1) = 2 := by decide
    have hd1 := delim2_den [91]
    have hd2 := delim2_den [93]
    refine ⟨38, .inl rfl, ?_⟩
    have hv : Ne.flatV (.mk 3 t l') = Ne.openT 3 :: (Ne.flat l' ++ [Ne.closeT 3]) := by rw [Ne.flatV, if_neg (by decide), if_neg (by decide), if_pos (by decide)]
    rw [hv]
    have ha : acc ++ Ne.openT 3 :: (Ne.flat l' ++ [Ne.closeT 3]) = acc ++ [Tok.mk 7 [91] 0] ++ Ne.flat l' ++ [Tok.mk 7 [93] 0] := by simp [Ne.closeT, Ne.closeC, Ne.openT, Ne.openC]
    rw [ha]
    simp only [go_sem, Nat.reduceLT, reduceIte, reduceCtorEq, Nat.reduceEqDiff, apply_ite (Option.map (outOf _)), Nat.reduceBEq, Nat.reduceAdd, Nat.reduceSub, Nat.reduceLeDiff, Nat.reduceMul, ev_buildSlice (len := 0) ty_descOf_22 ty_szOf_38 ty_zeroCells_38 ⟨rfl, by decide, by decide⟩, ev_len_sl ty_descOf_23, ev_indexAddr ty_descOf_23, ty_szOf_40, ty_fieldOff_40_0, ty_szOf_3, ty_shapeT_3, ty_fieldOff_40_1, ty_szOf_38, ty_shapeT_38, ev_buildSlice (len := 1) ty_descOf_22 ty_szOf_38 ty_zeroCells_38 ⟨rfl, by decide, by decide⟩, ev_append ty_appInfo_22, ev_appNew_sl ty_descOf_22, ev_slice_str ty_descOf_9, good_33, ty_fieldOff_40_2, ty_szOf_23, ty_shapeT_23, good_16, keep_16_3, encL_len, hlt, hget, Int.natCast_nonneg, hf, lens_toksK, lens_tokK, hlim1, hlim2, hlim3, hown, snoc_tok, snoc_del, app_toks, hw, c1, c2, c3, n1, n5, b1, b5, Int.le_refl, q1, q2, q3, q4, q5, w1, w2, hd1, hd2]
    rw [exL_head]
    simp only [go_sem, Nat.reduceLT, reduceIte, reduceCtorEq, Nat.reduceEqDiff, apply_ite (Option.map (outOf _)), Nat.reduceBEq, Nat.reduceAdd, Nat.reduceSub, Nat.reduceLeDiff, Nat.reduceMul, ev_buildSlice (len := 0) ty_descOf_22 ty_szOf_38 ty_zeroCells_38 ⟨rfl, by decide, by decide⟩, ev_len_sl ty_descOf_23, ev_indexAddr ty_descOf_23, ty_szOf_40, ty_fieldOff_40_0, ty_szOf_3, ty_shapeT_3, ty_fieldOff_40_1, ty_szOf_38, ty_shapeT_38, ev_buildSlice (len := 1) ty_descOf_22 ty_szOf_38 ty_zeroCells_38 ⟨rfl, by decide, by decide⟩, ev_append ty_appInfo_22, ev_appNew_sl ty_descOf_22, ev_slice_str ty_descOf_9, good_33, ty_fieldOff_40_2, ty_szOf_23, ty_shapeT_23, good_16, keep_16_3]
  by_cases h4 : k = 4
  · subst h4
    have c1 : decide ((4 : Int) < 1) = false := by decide
    have c2 : decide ((5 : Int) < 4) = false := by decide
    have c3 : decide ((1 : Int) < 4) = true := by decide
    have n1 : ((4 : Int) = 1) = False := by decide
    have n5 : ((4 : Int) = 5) = False := by decide
    have b1 : ((4 : Int) == 1) = false := by decide
    have b5 : ((4 : Int) == 5) = false := by decide
    have q1 : ((0 : Int) ≤ 3 ∧ (3 : Int) ≤ ((3 : Nat) : Int)) = True := by simp
    have q2 : ((0 : Int) ≤ 2 ∧ (2 : Int) ≤ ((3 : Nat) : Int)) = True := by simp
    have q3 : ((0 : Int) ≤ 3 ∧ (3 : Int) ≤ ((4 : Nat) : Int)) = True := by simp
    have q4 : Int.toNat 3 = 3 := rfl
    have q5 : Int.toNat 2 = 2 := rfl
    have w1 : IntKind.i64.wrap (4 - 2) = 2 := by decide
    have w2 : IntKind.i64.wrap (4 - 1) = 3 := by decide
    have hd1 := delim2_den [123]
    have hd2 := delim2_den [125]
    refine ⟨38, .inl rfl, ?_⟩
    have hv : Ne.flatV (.mk 4 t l') = Ne.openT 4 :: (Ne.flat l' ++ [Ne.closeT 4]) := by rw [Ne.flatV, if_neg (by decide), if_neg (by decide), if_pos (by decide)]
    rw [hv]
    have ha : acc ++ Ne.openT 4 :: (Ne.flat l' ++ [Ne.closeT 4]) = acc ++ [Tok.mk 7 [123] 0] ++ Ne.flat l' ++ [Tok.mk 7 [125] 0] := by simp [Ne.closeT, Ne.closeC, Ne.openT, Ne.openC]
    rw [ha]
    simp only [go_sem, Nat.reduceLT, reduceIte, reduceCtorEq, Nat.reduceEqDiff, apply_ite (Option.map (outOf _)), Nat.reduceBEq, Nat.reduceAdd, Nat.reduceSub, Nat.reduceLeDiff, Nat.reduceMul, ev_buildSlice (len := 0) ty_descOf_22 ty_szOf_38 ty_zeroCells_38 ⟨rfl, by decide, by decide⟩, ev_len_sl ty_descOf_23, ev_indexAddr ty_descOf_23, ty_szOf_40, ty_fieldOff_40_0, ty_szOf_3, ty_shapeT_3, ty_fieldOff_40_1, ty_szOf_38, ty_shapeT_38, ev_buildSlice (len := 1) ty_descOf_22 ty_szOf_38 ty_zeroCells_38 ⟨rfl, by decide, by decide⟩, ev_append ty_appInfo_22, ev_appNew_sl ty_descOf_22, ev_slice_str ty_descOf_9, good_33, ty_fieldOff_40_2, ty_szOf_23, ty_shapeT_23, good_16, keep_16_3, encL_len, hlt, hget, Int.natCast_nonneg, hf, lens_toksK, lens_tokK, hlim1, hlim2, hlim3, hown, snoc_tok, snoc_del, app_toks, hw, c1, c2, c3, n1, n5, b1, b5, Int.le_refl, q1, q2, q3, q4, q5, w1, w2, hd1, hd2]
    rw [exL_head]
    simp only [go_sem, Nat.reduceLT, reduceIte, reduceCtorEq, Nat.reduceEqDiff, apply_ite (Option.map (outOf _)), Nat.reduceBEq, Nat.reduceAdd, Nat.reduceSub, Nat.reduceLeDiff, Nat.reduceMul, ev_buildSlice (len := 0) ty_descOf_22 ty_szOf_38 ty_zeroCells_38 ⟨rfl, by decide, by decide⟩, ev_len_sl ty_descOf_23, ev_indexAddr ty_descOf_23, ty_szOf_40, ty_fieldOff_40_0, ty_szOf_3, ty_shapeT_3, ty_fieldOff_40_1, ty_szOf_38, ty_shapeT_38, ev_buildSlice (len := 1) ty_descOf_22 ty_szOf_38 ty_zeroCells_38 ⟨rfl, by decide, by decide⟩, ev_append ty_appInfo_22, ev_appNew_sl ty_descOf_22, ev_slice_str ty_descOf_9, good_33, ty_fieldOff_40_2, ty_szOf_23, ty_shapeT_23, good_16, keep_16_3]
  have hv : Ne.flatV (.mk k t l') = [] := by rw [Ne.flatV, if_neg h1, if_neg h5, if_neg (by omega)]
  rw [hv, List.append_nil]
  refine ⟨e, he, ?_⟩
  cases c1 : decide (k < 1)
  · have c2 : decide (5 < k) = true := decide_eq_true (by have := of_decide_eq_false c1; omega)
    simp only [go_sem, Nat.reduceLT, reduceIte, reduceCtorEq, Nat.reduceEqDiff, apply_ite (Option.map (outOf _)), Nat.reduceBEq, Nat.reduceAdd, Nat.reduceSub, Nat.reduceLeDiff, Nat.reduceMul, ev_buildSlice (len := 0) ty_descOf_22 ty_szOf_38 ty_zeroCells_38 ⟨rfl, by decide, by decide⟩, ev_len_sl ty_descOf_23, ev_indexAddr ty_descOf_23, ty_szOf_40, ty_fieldOff_40_0, ty_szOf_3, ty_shapeT_3, ty_fieldOff_40_1, ty_szOf_38, ty_shapeT_38, ev_buildSlice (len := 1) ty_descOf_22 ty_szOf_38 ty_zeroCells_38 ⟨rfl, by decide, by decide⟩, ev_append ty_appInfo_22, ev_appNew_sl ty_descOf_22, ev_slice_str ty_descOf_9, good_33, ty_fieldOff_40_2, ty_szOf_23, ty_shapeT_23, good_16, keep_16_3, encL_len, hlt, hget, Int.natCast_nonneg, hf, lens_toksK, lens_tokK, hlim1, hlim2, hlim3, hown, snoc_tok, snoc_del, app_toks, hw, c1, c2]
    rw [exL_head]
    simp only [go_sem, Nat.reduceLT, reduceIte, reduceCtorEq, Nat.reduceEqDiff, apply_ite (Option.map (outOf _)), Nat.reduceBEq, Nat.reduceAdd, Nat.reduceSub, Nat.reduceLeDiff, Nat.reduceMul, ev_buildSlice (len := 0) ty_descOf_22 ty_szOf_38 ty_zeroCells_38 ⟨rfl, by decide, by decide⟩, ev_len_sl ty_descOf_23, ev_indexAddr ty_descOf_23, ty_szOf_40, ty_fieldOff_40_0, ty_szOf_3, ty_shapeT_3, ty_fieldOff_40_1, ty_szOf_38, ty_shapeT_38, ev_buildSlice (len := 1) ty_descOf_22 ty_szOf_38 ty_zeroCells_38 ⟨rfl, by decide, by decide⟩, ev_append ty_appInfo_22, ev_appNew_sl ty_descOf_22, ev_slice_str ty_descOf_9, good_33, ty_fieldOff_40_2, ty_szOf_23, ty_shapeT_23, good_16, keep_16_3]
  · simp only [go_sem, Nat.reduceLT, reduceIte, reduceCtorEq, Nat.reduceEqDiff, apply_ite (Option.map (outOf _)), Nat.reduceBEq, Nat.reduceAdd, Nat.reduceSub, Nat.reduceLeDiff, Nat.reduceMul, ev_buildSlice (len := 0) ty_descOf_22 ty_szOf_38 ty_zeroCells_38 ⟨rfl, by decide, by decide⟩, ev_len_sl ty_descOf_23, ev_indexAddr ty_descOf_23, ty_szOf_40, ty_fieldOff_40_0, ty_szOf_3, ty_shapeT_3, ty_fieldOff_40_1, ty_szOf_38, ty_shapeT_38, ev_buildSlice (len := 1) ty_descOf_22 ty_szOf_38 ty_zeroCells_38 ⟨rfl, by decide, by decide⟩, ev_append ty_appInfo_22, ev_appNew_sl ty_descOf_22, ev_slice_str ty_descOf_9, good_33, ty_fieldOff_40_2, ty_szOf_23, ty_shapeT_23, good_16, keep_16_3, encL_len, hlt, hget, Int.natCast_nonneg, hf, lens_toksK, lens_tokK, hlim1, hlim2, hlim3, hown, snoc_tok, snoc_del, app_toks, hw, c1]
    rw [exL_head]
    simp only [go_sem, Nat.reduceLT, reduceIte, reduceCtorEq, Nat.reduceEqDiff, apply_ite (Option.map (outOf _)), Nat.reduceBEq, Nat.reduceAdd, Nat.reduceSub, Nat.reduceLeDiff, Nat.reduceMul, ev_buildSlice (len := 0) ty_descOf_22 ty_szOf_38 ty_zeroCells_38 ⟨rfl, by decide, by decide⟩, ev_len_sl ty_descOf_23, ev_indexAddr ty_descOf_23, ty_szOf_40, ty_fieldOff_40_0, ty_szOf_3, ty_shapeT_3, ty_fieldOff_40_1, ty_szOf_38, ty_shapeT_38, ev_buildSlice (len := 1) ty_descOf_22 ty_szOf_38 ty_zeroCells_38 ⟨rfl, by decide, by decide⟩, ev_append ty_appInfo_22, ev_appNew_sl ty_descOf_22, ev_slice_str ty_descOf_9, good_33, ty_fieldOff_40_2, ty_szOf_23, ty_shapeT_23, good_16, keep_16_3]

theorem flat2_loop (l : List Val) (hl : Ne.size l ≤ 1000000) (hin : ∀ k t l', Val.mk k t l' ∈ l → Flat2Den l') : ∀ (rest : List Val) (i e : Nat) (acc : List Tok), l.drop i = rest → i ≤ l.length → (e = 38 ∨ acc = []) → acc.length + (Ne.flat rest).length ≤ 3000000 →
    Ends (exL K 16 flp2 (flat2H l i e acc)) fun o S => o = .exit 0 ∧ S.nt = 67 ∧ ∃ e', S.sl 3 = .c (.own e' ((acc ++ Ne.flat rest).map Tok.enc))
  | [], i, e, acc, hd, hi, he, hacc => by
    have hin : i = l.length := by
      have := List.drop_eq_nil_iff.1 hd
      omega
    subst hin
    have hv : acc ++ Ne.flat [] = acc := by rw [Ne.flat, List.append_nil]
    rw [hv]
    unfold flp2
    conv in loopAt _ _ => whnf
    rw [exL_loop]
    simp only [go_sem, Nat.reduceLT, reduceIte, reduceCtorEq, Nat.reduceEqDiff, apply_ite (Option.map (outOf _)), Nat.reduceBEq, Nat.reduceAdd, Nat.reduceSub, Nat.reduceLeDiff, Nat.reduceMul, ev_buildSlice (len := 0) ty_descOf_22 ty_szOf_38 ty_zeroCells_38 ⟨rfl, by decide, by decide⟩, ev_len_sl ty_descOf_23, ev_indexAddr ty_descOf_23, ty_szOf_40, ty_fieldOff_40_0, ty_szOf_3, ty_shapeT_3, ty_fieldOff_40_1, ty_szOf_38, ty_shapeT_38, ev_buildSlice (len := 1) ty_descOf_22 ty_szOf_38 ty_zeroCells_38 ⟨rfl, by decide, by decide⟩, ev_append ty_appInfo_22, ev_appNew_sl ty_descOf_22, ev_slice_str ty_descOf_9, good_33, ty_fieldOff_40_2, ty_szOf_23, ty_shapeT_23, good_16, keep_16_3, ends_some, encL_len]
    exact ⟨e, rfl⟩
  | .mk k t l' :: rest, i, e, acc, hd, hi, he, hacc => by
    obtain ⟨g1, g2, g3⟩ := drop_cons hd
    have hmem : Val.mk k t l' ∈ l := List.mem_of_getElem? g1
    have hsz := size_mem hmem
    have hfl := Ne.flat_size l'
    have hll : l.length ≤ 1000000 := Nat.le_trans (Ne.length_size l) hl
    have hsum : (Ne.flat (.mk k t l' :: rest)).length = (Ne.flatV (.mk k t l')).length + (Ne.flat rest).length := by rw [Ne.flat, List.length_append]
    rw [hsum] at hacc
    have ha3 : acc.length ≤ 3000000 := by omega
    have hs3 : (Ne.flat l').length ≤ 3000000 := by omega
    have hs1 : Ne.size l' ≤ 1000000 := by omega
    obtain ⟨e', he', hstep⟩ := flat2_step l i e acc he k t l' g1 hll ha3 hs3 (hin k t l' hmem hs1)
    rw [hstep]
    have hlen2 : (acc ++ Ne.flatV (.mk k t l')).length + (Ne.flat rest).length ≤ 3000000 := by rw [List.length_append]; omega
    have hi2 : i + 1 ≤ l.length := by omega
    have ih := flat2_loop l hl hin rest (i + 1) e' (acc ++ Ne.flatV (.mk k t l')) g2 hi2 he' hlen2
    rw [List.append_assoc] at ih
    have hv : Ne.flat (.mk k t l' :: rest) = Ne.flatV (.mk k t l') ++ Ne.flat rest := by rw [Ne.flat]
    rw [hv]
    exact ih

theorem Flat2_den (l : List Val) : Flat2Den l := by
  refine ind_list (fun l hin hs => ?_) l
  have hfl := Ne.flat_size l
  have hacc0 : ([] : List Tok).length + (Ne.flat l).length ≤ 3000000 := by rw [List.length_nil]; omega
  have h := flat2_loop l hs hin l 0 38 [] rfl (Nat.zero_le _) (Or.inl rfl) hacc0
  unfold flp2 at h
  conv at h in loopAt _ _ => whnf
  obtain ⟨o, S', w, rfl, hn, e', h3⟩ := h
  rw [List.nil_append] at h3
  refine den_run rfl Tryd.func16 rfl Tryd.ntmps16 ⟨by simp, by simp [LK]⟩ ?_
  have hr : Tryd.f16.results = #[.tmp 2] := rfl
  simp only [go_sem, Nat.reduceLT, reduceIte, reduceCtorEq, Nat.reduceEqDiff, apply_ite (Option.map (outOf _)), Nat.reduceBEq, Nat.reduceAdd, Nat.reduceSub, Nat.reduceLeDiff, Nat.reduceMul, ev_buildSlice (len := 0) ty_descOf_22 ty_szOf_38 ty_zeroCells_38 ⟨rfl, by decide, by decide⟩, ev_len_sl ty_descOf_23, ev_indexAddr ty_descOf_23, ty_szOf_40, ty_fieldOff_40_0, ty_szOf_3, ty_shapeT_3, ty_fieldOff_40_1, ty_szOf_38, ty_shapeT_38, ev_buildSlice (len := 1) ty_descOf_22 ty_szOf_38 ty_zeroCells_38 ⟨rfl, by decide, by decide⟩, ev_append ty_appInfo_22, ev_appNew_sl ty_descOf_22, ev_slice_str ty_descOf_9, good_33, ty_fieldOff_40_2, ty_szOf_23, ty_shapeT_23, good_16, keep_16_3]
  rw [exL_head]
  simp only [go_sem, Nat.reduceLT, reduceIte, reduceCtorEq, Nat.reduceEqDiff, apply_ite (Option.map (outOf _)), Nat.reduceBEq, Nat.reduceAdd, Nat.reduceSub, Nat.reduceLeDiff, Nat.reduceMul, ev_buildSlice (len := 0) ty_descOf_22 ty_szOf_38 ty_zeroCells_38 ⟨rfl, by decide, by decide⟩, ev_len_sl ty_descOf_23, ev_indexAddr ty_descOf_23, ty_szOf_40, ty_fieldOff_40_0, ty_szOf_3, ty_shapeT_3, ty_fieldOff_40_1, ty_szOf_38, ty_shapeT_38, ev_buildSlice (len := 1) ty_descOf_22 ty_szOf_38 ty_zeroCells_38 ⟨rfl, by decide, by decide⟩, ev_append ty_appInfo_22, ev_appNew_sl ty_descOf_22, ev_slice_str ty_descOf_9, good_33, ty_fieldOff_40_2, ty_szOf_23, ty_shapeT_23, good_16, keep_16_3]
  erw [w]
  simp only [go_sem, Nat.reduceLT, reduceIte, reduceCtorEq, Nat.reduceEqDiff, apply_ite (Option.map (outOf _)), Nat.reduceBEq, Nat.reduceAdd, Nat.reduceSub, Nat.reduceLeDiff, Nat.reduceMul, ev_buildSlice (len := 0) ty_descOf_22 ty_szOf_38 ty_zeroCells_38 ⟨rfl, by decide, by decide⟩, ev_len_sl ty_descOf_23, ev_indexAddr ty_descOf_23, ty_szOf_40, ty_fieldOff_40_0, ty_szOf_3, ty_shapeT_3, ty_fieldOff_40_1, ty_szOf_38, ty_shapeT_38, ev_buildSlice (len := 1) ty_descOf_22 ty_szOf_38 ty_zeroCells_38 ⟨rfl, by decide, by decide⟩, ev_append ty_appInfo_22, ev_appNew_sl ty_descOf_22, ev_slice_str ty_descOf_9, good_33, ty_fieldOff_40_2, ty_szOf_23, ty_shapeT_23, good_16, keep_16_3, hr, hn, h3]
end Go.Abs

namespace Go.Abs
open Go Go.Proofs
set_option maxRecDepth 10000
attribute [local go_sem] exL_seq exL_region exL_cond exL_block exL_scope exL_ret exL_skip exL_exit runRegion runOps stepOp guardA absOp takeOver opd avOf cvOf St.degAt St.put okPV okVal okAV absBin intBin strBin boolBin setBoxes if_true Bool.false_eq_true if_false Option.map_some Option.map_none Option.bind_some Option.bind_none thenO outOf upd List.toList_toArray isOwn steal appArgs inApps AV.deg CV.deg AV.gv AV.isIter absNext some_bne List.length_nil List.length_cons List.filterMap_cons List.filterMap_nil beq_iff_eq List.getElem?_cons_zero List.getElem?_cons_succ Option.getD_some K_hook hookB Bool.false_and Bool.and_false Bool.and_self K_P K_own absCall doCall getBoxes lend back idx dedup AV.ren CV.ren TV.ren AV.ptrs CV.ptrs zipBox AV.flat CV.flat absLoad absStore cellsOfAV setAt newBox markB bldTypes absFieldAddr absField absExtract absAssert noAssert absMkIface ifcOf CV.pv? content pushHead ownT fillCells reps pvs chunks enterSt leave resOf resVars resVar outBoxes lentOnly TV.deg TV.av LK CV.plain CV.noBld nilBin absUn bound List.map_cons List.map_nil List.all_cons List.all_nil List.any_cons List.any_nil List.contains_cons List.contains_nil List.elem_cons List.elem_nil List.cons_append List.nil_append List.append_nil List.flatMap_cons List.flatMap_nil List.zip_cons_cons List.zip_nil_left List.zip_nil_right List.take_succ_cons List.take_zero List.take_nil List.drop_succ_cons List.drop_zero List.drop_nil List.isEmpty_nil List.isEmpty_cons Bool.and_true Bool.true_and Bool.or_true Bool.true_or Bool.or_false Bool.false_or Bool.not_true Bool.not_false Nat.add_zero Nat.zero_add Option.isNone_none Option.isNone_some Option.getD_none true_and and_true not_true_eq_false not_false_eq_true decide_true decide_false Nat.le_refl and_self Bool.not_eq_true Nat.sub_self or_true true_or Option.some.injEq List.length_map List.nil_eq and_false false_and AV.live CV.live CV.liveIn K_keep firstReg Option.orElse_some Option.orElse_none head keepSlots keepBoxes Int.lt_irrefl List.length_append ite_self memOK logOps opKey lentBoxes Key.clash Key.sees Key.writes Nat.lt_irrefl gt_iff_lt nobox_at bot_at false_or or_false beq_self_eq_true Bool.true_beq Bool.false_beq

/-! ### few -/

theorem fewL_cons (deep left : Int) (k : Int) (t : Tok) (l r : List Val) : Ne.fewL deep left (.mk k t l :: r) =
    if left < 0 then left else if 100 < t.text.length then -1 else Ne.fewL deep (if 0 ≤ left - 1 ∧ l.isEmpty = false then Ne.few (deep - 1) (left - 1) l else left - 1) r := by
  rw [Ne.fewL, Ne.fewV]
  rfl

theorem few_bound : ∀ (l : List Val) (deep left : Int), -1 ≤ left → -1 ≤ Ne.fewL deep left l ∧ Ne.fewL deep left l ≤ left ∧ (0 ≤ left → -1 ≤ Ne.few deep left l ∧ Ne.few deep left l ≤ left) := by
  have key : ∀ (l : List Val), (∀ k t l', Val.mk k t l' ∈ l → ∀ deep left : Int, -1 ≤ left → -1 ≤ Ne.fewL deep left l' ∧ Ne.fewL deep left l' ≤ left) → ∀ deep left : Int, -1 ≤ left → -1 ≤ Ne.fewL deep left l ∧ Ne.fewL deep left l ≤ left := by
    intro l
    induction l with
    | nil => intro _ deep left h; rw [Ne.fewL]; omega
    | cons v r ih =>
      obtain ⟨k, t, l⟩ := v
      intro hin deep left h
      rw [fewL_cons]
      split
      · omega
      · split
        · omega
        · have hr := ih (fun k t l' hm => hin k t l' (by simp [hm])) deep
          split
          · have h1 := hin k t l (by simp) (deep - 1) (left - 1) (by omega)
            have h2 : -1 ≤ Ne.few (deep - 1) (left - 1) l ∧ Ne.few (deep - 1) (left - 1) l ≤ left - 1 := by
              unfold Ne.few
              split <;> omega
            have := hr _ h2.1
            omega
          · have := hr (left - 1) (by omega)
            omega
  intro l deep left h
  have hl : ∀ deep left : Int, -1 ≤ left → -1 ≤ Ne.fewL deep left l ∧ Ne.fewL deep left l ≤ left := ind_list (fun l hin => key l hin) l
  have h1 := hl deep left h
  refine ⟨h1.1, h1.2, fun h0 => ?_⟩
  unfold Ne.few
  split
  · omega
  · exact h1

def FewDen (l : List Val) : Prop := ∀ deep left : Int, 0 ≤ left → left ≤ 1000000 → 0 ≤ deep → deep ≤ 1000 → den K 24 [L (encL l), I left, I deep] [] = some (.ret (I (Ne.few deep left l)) [])

abbrev fewH (l : List Val) (left deep : Int) (i : Nat) : St := { sl := upd (upd (upd (upd bot 7 (I i)) 2 (I deep)) 1 (I left)) 0 (L (encL l)), bx := nobox, nt := 51 }

theorem few_loop (l : List Val) (hin : ∀ k t l', Val.mk k t l' ∈ l → FewDen l') (deep : Int) (hd1 : 1 ≤ deep) (hd2 : deep ≤ 1000) : ∀ (rest : List Val) (i : Nat) (left : Int), l.drop i = rest → i ≤ l.length → -1 ≤ left → i + left ≤ 1000000 →
    Ends (exL K 24 (.loop (loopAt Tryd.f24 4)) (fewH l left deep i)) fun o S => (o = .exit 0 ∧ S.nt = 51 ∧ S.sl 1 = I (Ne.fewL deep left rest)) ∨ (o = .ret ∧ S.sl 6 = I (Ne.fewL deep left rest))
  | [], i, left, hd, hi, h1, h2 => by
    have hin : i = l.length := by
      have := List.drop_eq_nil_iff.1 hd
      omega
    subst hin
    conv in loopAt _ _ => whnf
    rw [exL_loop]
    simp only [go_sem, Nat.reduceLT, reduceIte, reduceCtorEq, Nat.reduceEqDiff, apply_ite (Option.map (outOf _)), Nat.reduceBEq, Nat.reduceAdd, Nat.reduceSub, Nat.reduceLeDiff, Nat.reduceMul, ev_len_sl ty_descOf_23, ev_indexAddr ty_descOf_23, ty_szOf_40, ty_fieldOff_40_1, ty_szOf_38, ty_fieldOff_38_1, ty_szOf_9, ty_shapeT_9, ev_len_str ty_descOf_9, ty_fieldOff_40_2, ty_szOf_23, ty_shapeT_23, good_24, keep_24_4, ends_some, encL_len, Ne.fewL]
  | .mk k t l' :: rest, i, left, hd, hi, h1, h2 => by
    obtain ⟨g1, g2, g3⟩ := drop_cons hd
    have hmem : Val.mk k t l' ∈ l := List.mem_of_getElem? g1
    have hf := hin k t l' hmem
    have hlt : decide ((i : Int) < (l.length : Int)) = true := decide_eq_true (by omega)
    have hget := val_at l i k t l' g1
    rw [fewL_cons]
    conv in loopAt _ _ => whnf
    rw [exL_loop]
    by_cases hneg : left < 0
    · have e1 : decide (0 ≤ left) = false := decide_eq_false (by omega)
      rw [if_pos hneg]
      simp only [go_sem, Nat.reduceLT, reduceIte, reduceCtorEq, Nat.reduceEqDiff, apply_ite (Option.map (outOf _)), Nat.reduceBEq, Nat.reduceAdd, Nat.reduceSub, Nat.reduceLeDiff, Nat.reduceMul, ev_len_sl ty_descOf_23, ev_indexAddr ty_descOf_23, ty_szOf_40, ty_fieldOff_40_1, ty_szOf_38, ty_fieldOff_38_1, ty_szOf_9, ty_shapeT_9, ev_len_str ty_descOf_9, ty_fieldOff_40_2, ty_szOf_23, ty_shapeT_23, good_24, keep_24_4, ends_some, encL_len, hlt, e1]
    · have e1 : decide (0 ≤ left) = true := decide_eq_true (by omega)
      rw [if_neg hneg]
      have hw : IntKind.i64.wrap (left - 1) = left - 1 := IntWalk.i64_in _ (by omega)
      have hwi : IntKind.i64.wrap ((i : Int) + 1) = ((i + 1 : Nat) : Int) := wrap_nat i (by omega)
      by_cases ht : 100 < t.text.length
      · have e2 : decide ((100 : Int) < (t.text.length : Int)) = true := decide_eq_true (by omega)
        rw [if_pos ht]
        simp only [go_sem, Nat.reduceLT, reduceIte, reduceCtorEq, Nat.reduceEqDiff, apply_ite (Option.map (outOf _)), Nat.reduceBEq, Nat.reduceAdd, Nat.reduceSub, Nat.reduceLeDiff, Nat.reduceMul, ev_len_sl ty_descOf_23, ev_indexAddr ty_descOf_23, ty_szOf_40, ty_fieldOff_40_1, ty_szOf_38, ty_fieldOff_38_1, ty_szOf_9, ty_shapeT_9, ev_len_str ty_descOf_9, ty_fieldOff_40_2, ty_szOf_23, ty_shapeT_23, good_24, keep_24_4, ends_some, encL_len, hlt, hget, Int.natCast_nonneg, e1, e2, hw]
      · have e2 : decide ((100 : Int) < (t.text.length : Int)) = false := decide_eq_false (by omega)
        rw [if_neg ht]
        by_cases h0 : 0 ≤ left - 1
        · have e3 : decide (0 ≤ left - 1) = true := decide_eq_true h0
          cases he : l'.isEmpty
          · rw [if_pos ⟨h0, rfl⟩]
            have e4 : decide ((0 : Int) < (l'.length : Int)) = true := decide_eq_true (by cases l' with | nil => cases he | cons x y => simp only [List.length_cons]; omega)
            have hwd : IntKind.i64.wrap (deep - 1) = deep - 1 := IntWalk.i64_in _ (by omega)
            have hfd := hf (deep - 1) (left - 1) h0 (by omega) (by omega) (by omega)
            have hb := (few_bound l' (deep - 1) (left - 1) (by omega)).2.2 h0
            have ih := few_loop l hin deep hd1 hd2 rest (i + 1) (Ne.few (deep - 1) (left - 1) l') g2 (by omega) hb.1 (by omega)
            conv at ih in loopAt _ _ => whnf
            simp only [go_sem, Nat.reduceLT, reduceIte, reduceCtorEq, Nat.reduceEqDiff, apply_ite (Option.map (outOf _)), Nat.reduceBEq, Nat.reduceAdd, Nat.reduceSub, Nat.reduceLeDiff, Nat.reduceMul, ev_len_sl ty_descOf_23, ev_indexAddr ty_descOf_23, ty_szOf_40, ty_fieldOff_40_1, ty_szOf_38, ty_fieldOff_38_1, ty_szOf_9, ty_shapeT_9, ev_len_str ty_descOf_9, ty_fieldOff_40_2, ty_szOf_23, ty_shapeT_23, good_24, keep_24_4, encL_len, hlt, hget, Int.natCast_nonneg, e1, e2, e3, e4, hw, hwd, hwi, hfd]
            rw [exL_head]
            simp only [go_sem, Nat.reduceLT, reduceIte, reduceCtorEq, Nat.reduceEqDiff, apply_ite (Option.map (outOf _)), Nat.reduceBEq, Nat.reduceAdd, Nat.reduceSub, Nat.reduceLeDiff, Nat.reduceMul, ev_len_sl ty_descOf_23, ev_indexAddr ty_descOf_23, ty_szOf_40, ty_fieldOff_40_1, ty_szOf_38, ty_fieldOff_38_1, ty_szOf_9, ty_shapeT_9, ev_len_str ty_descOf_9, ty_fieldOff_40_2, ty_szOf_23, ty_shapeT_23, good_24, keep_24_4]
            exact ih
          · rw [if_neg (fun h => by cases h.2)]
            have e4 : decide ((0 : Int) < (l'.length : Int)) = false := decide_eq_false (by cases l' with | nil => simp | cons x y => cases he)
            have ih := few_loop l hin deep hd1 hd2 rest (i + 1) (left - 1) g2 (by omega) (by omega) (by omega)
            conv at ih in loopAt _ _ => whnf
            simp only [go_sem, Nat.reduceLT, reduceIte, reduceCtorEq, Nat.reduceEqDiff, apply_ite (Option.map (outOf _)), Nat.reduceBEq, Nat.reduceAdd, Nat.reduceSub, Nat.reduceLeDiff, Nat.reduceMul, ev_len_sl ty_descOf_23, ev_indexAddr ty_descOf_23, ty_szOf_40, ty_fieldOff_40_1, ty_szOf_38, ty_fieldOff_38_1, ty_szOf_9, ty_shapeT_9, ev_len_str ty_descOf_9, ty_fieldOff_40_2, ty_szOf_23, ty_shapeT_23, good_24, keep_24_4, encL_len, hlt, hget, Int.natCast_nonneg, e1, e2, e3, e4, hw, hwi]
            rw [exL_head]
            simp only [go_sem, Nat.reduceLT, reduceIte, reduceCtorEq, Nat.reduceEqDiff, apply_ite (Option.map (outOf _)), Nat.reduceBEq, Nat.reduceAdd, Nat.reduceSub, Nat.reduceLeDiff, Nat.reduceMul, ev_len_sl ty_descOf_23, ev_indexAddr ty_descOf_23, ty_szOf_40, ty_fieldOff_40_1, ty_szOf_38, ty_fieldOff_38_1, ty_szOf_9, ty_shapeT_9, ev_len_str ty_descOf_9, ty_fieldOff_40_2, ty_szOf_23, ty_shapeT_23, good_24, keep_24_4]
            exact ih
        · have e3 : decide (0 ≤ left - 1) = false := decide_eq_false h0
          rw [if_neg (fun h => h0 h.1)]
          have ih := few_loop l hin deep hd1 hd2 rest (i + 1) (left - 1) g2 (by omega) (by omega) (by omega)
          conv at ih in loopAt _ _ => whnf
          simp only [go_sem, Nat.reduceLT, reduceIte, reduceCtorEq, Nat.reduceEqDiff, apply_ite (Option.map (outOf _)), Nat.reduceBEq, Nat.reduceAdd, Nat.reduceSub, Nat.reduceLeDiff, Nat.reduceMul, ev_len_sl ty_descOf_23, ev_indexAddr ty_descOf_23, ty_szOf_40, ty_fieldOff_40_1, ty_szOf_38, ty_fieldOff_38_1, ty_szOf_9, ty_shapeT_9, ev_len_str ty_descOf_9, ty_fieldOff_40_2, ty_szOf_23, ty_shapeT_23, good_24, keep_24_4, encL_len, hlt, hget, Int.natCast_nonneg, e1, e2, e3, hw, hwi]
          rw [exL_head]
          simp only [go_sem, Nat.reduceLT, reduceIte, reduceCtorEq, Nat.reduceEqDiff, apply_ite (Option.map (outOf _)), Nat.reduceBEq, Nat.reduceAdd, Nat.reduceSub, Nat.reduceLeDiff, Nat.reduceMul, ev_len_sl ty_descOf_23, ev_indexAddr ty_descOf_23, ty_szOf_40, ty_fieldOff_40_1, ty_szOf_38, ty_fieldOff_38_1, ty_szOf_9, ty_shapeT_9, ev_len_str ty_descOf_9, ty_fieldOff_40_2, ty_szOf_23, ty_shapeT_23, good_24, keep_24_4]
          exact ih

theorem few_den (l : List Val) : FewDen l := by
  refine ind_list (fun l hin => ?_) l
  intro deep left h1 h2 h3 h4
  refine den_run rfl Tryd.func24 rfl Tryd.ntmps24 ⟨by simp, by simp [LK]⟩ ?_
  have hr : Tryd.f24.results = #[.tmp 6] := rfl
  unfold Ne.few
  by_cases hd : deep < 1
  · have e0 : decide (deep < 1) = true := decide_eq_true hd
    rw [if_pos hd]
    simp only [go_sem, Nat.reduceLT, reduceIte, reduceCtorEq, Nat.reduceEqDiff, apply_ite (Option.map (outOf _)), Nat.reduceBEq, Nat.reduceAdd, Nat.reduceSub, Nat.reduceLeDiff, Nat.reduceMul, ev_len_sl ty_descOf_23, ev_indexAddr ty_descOf_23, ty_szOf_40, ty_fieldOff_40_1, ty_szOf_38, ty_fieldOff_38_1, ty_szOf_9, ty_shapeT_9, ev_len_str ty_descOf_9, ty_fieldOff_40_2, ty_szOf_23, ty_shapeT_23, good_24, keep_24_4, hr, e0]
  · have e0 : decide (deep < 1) = false := decide_eq_false hd
    rw [if_neg hd]
    have h := few_loop l hin deep (by omega) h4 l 0 left rfl (Nat.zero_le _) (by omega) (by omega)
    conv at h in loopAt _ _ => whnf
    obtain ⟨o, S', w, hq⟩ := h
    simp only [go_sem, Nat.reduceLT, reduceIte, reduceCtorEq, Nat.reduceEqDiff, apply_ite (Option.map (outOf _)), Nat.reduceBEq, Nat.reduceAdd, Nat.reduceSub, Nat.reduceLeDiff, Nat.reduceMul, ev_len_sl ty_descOf_23, ev_indexAddr ty_descOf_23, ty_szOf_40, ty_fieldOff_40_1, ty_szOf_38, ty_fieldOff_38_1, ty_szOf_9, ty_shapeT_9, ev_len_str ty_descOf_9, ty_fieldOff_40_2, ty_szOf_23, ty_shapeT_23, good_24, keep_24_4, e0]
    rw [exL_head]
    simp only [go_sem, Nat.reduceLT, reduceIte, reduceCtorEq, Nat.reduceEqDiff, apply_ite (Option.map (outOf _)), Nat.reduceBEq, Nat.reduceAdd, Nat.reduceSub, Nat.reduceLeDiff, Nat.reduceMul, ev_len_sl ty_descOf_23, ev_indexAddr ty_descOf_23, ty_szOf_40, ty_fieldOff_40_1, ty_szOf_38, ty_fieldOff_38_1, ty_szOf_9, ty_shapeT_9, ev_len_str ty_descOf_9, ty_fieldOff_40_2, ty_szOf_23, ty_shapeT_23, good_24, keep_24_4]
    erw [w]
    rcases hq with ⟨rfl, hn, hv⟩ | ⟨rfl, hv⟩
    · simp only [go_sem, Nat.reduceLT, reduceIte, reduceCtorEq, Nat.reduceEqDiff, apply_ite (Option.map (outOf _)), Nat.reduceBEq, Nat.reduceAdd, Nat.reduceSub, Nat.reduceLeDiff, Nat.reduceMul, ev_len_sl ty_descOf_23, ev_indexAddr ty_descOf_23, ty_szOf_40, ty_fieldOff_40_1, ty_szOf_38, ty_fieldOff_38_1, ty_szOf_9, ty_shapeT_9, ev_len_str ty_descOf_9, ty_fieldOff_40_2, ty_szOf_23, ty_shapeT_23, good_24, keep_24_4, hr, hn, hv]
    · simp only [go_sem, Nat.reduceLT, reduceIte, reduceCtorEq, Nat.reduceEqDiff, apply_ite (Option.map (outOf _)), Nat.reduceBEq, Nat.reduceAdd, Nat.reduceSub, Nat.reduceLeDiff, Nat.reduceMul, ev_len_sl ty_descOf_23, ev_indexAddr ty_descOf_23, ty_szOf_40, ty_fieldOff_40_1, ty_szOf_38, ty_fieldOff_38_1, ty_szOf_9, ty_shapeT_9, ev_len_str ty_descOf_9, ty_fieldOff_40_2, ty_szOf_23, ty_shapeT_23, good_24, keep_24_4, hr, hv]

theorem SmallV_den (l : List Val) (m : Int) (h1 : 0 ≤ m) (h2 : m ≤ 1000000) : den K 9 [L (encL l), I m] [] = some (.ret (B (decide (0 ≤ Ne.few 100 m l))) []) := by
  have h := few_den l 100 m h1 h2 (by omega) (by omega)
  refine den_run rfl Tryd.func9 rfl Tryd.ntmps9 ⟨by simp, by simp [LK]⟩ ?_
  have hr : Tryd.f9.results = #[.tmp 4] := rfl
  simp only [go_sem, Nat.reduceLT, reduceIte, reduceCtorEq, Nat.reduceEqDiff, apply_ite (Option.map (outOf _)), Nat.reduceBEq, Nat.reduceAdd, Nat.reduceSub, Nat.reduceLeDiff, Nat.reduceMul, good_24, hr, h]
end Go.Abs
