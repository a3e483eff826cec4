/-
  WHAT THE FUNCTIONS COMPUTE, layer 2: values told flat, as the document says; how many there are.
  WHAT THE FUNCTIONS COMPUTE, layer 3, the document's answer: blanks, signs; values trimmed, cut by a sign.
  Layer 3, plain: values trimmed, cut into words, joined: what holds of them, without the program.
  WHAT THE FUNCTIONS COMPUTE, layer 3: values trimmed, cut, joined.
  WHAT THE FUNCTIONS COMPUTE, layer 3, the document's answer: joined, cut into words; lists that are the same.
  WHAT THE FUNCTIONS COMPUTE, layer 3: values joined.
  WHAT THE FUNCTIONS COMPUTE, layer 3, the document's answer: values joined, cut into words.
  WHAT THE FUNCTIONS COMPUTE, layer 2: the document's reader of values.
  WHAT THE FUNCTIONS COMPUTE, layer 1: classes of bytes, runs, names.
  WHAT THE FUNCTIONS COMPUTE, layer 1: the scanner's small steps: a name, a token that is laid, a comment, a string.
-/
import Derived.Test.YtjfkppbgcgleaaaGreatDoorQ4
set_option linter.unusedSimpArgs false
set_option linter.unusedVariables false
namespace Go.Abs
open Go Go.Proofs
set_option maxRecDepth 10000
attribute [local go_sem] exL_seq exL_region exL_cond exL_block exL_scope exL_ret exL_skip exL_exit runRegion runOps stepOp guardA absOp takeOver opd avOf cvOf St.degAt St.put okPV okVal okAV absBin intBin strBin boolBin setBoxes if_true Bool.false_eq_true if_false Option.map_some Option.map_none Option.bind_some Option.bind_none thenO outOf upd List.toList_toArray isOwn steal appArgs inApps AV.deg CV.deg AV.gv AV.isIter absNext some_bne List.length_nil List.length_cons List.filterMap_cons List.filterMap_nil beq_iff_eq List.getElem?_cons_zero List.getElem?_cons_succ Option.getD_some K_hook hookB Bool.false_and Bool.and_false Bool.and_self K_P K_own absCall doCall getBoxes lend back idx dedup AV.ren CV.ren TV.ren AV.ptrs CV.ptrs zipBox AV.flat CV.flat absLoad absStore cellsOfAV setAt newBox markB bldTypes absFieldAddr absField absExtract absAssert noAssert absMkIface ifcOf CV.pv? content pushHead ownT fillCells reps pvs chunks enterSt leave resOf resVars resVar outBoxes lentOnly TV.deg TV.av LK CV.plain CV.noBld nilBin absUn bound List.map_cons List.map_nil List.all_cons List.all_nil List.any_cons List.any_nil List.contains_cons List.contains_nil List.elem_cons List.elem_nil List.cons_append List.nil_append List.append_nil List.flatMap_cons List.flatMap_nil List.zip_cons_cons List.zip_nil_left List.zip_nil_right List.take_succ_cons List.take_zero List.take_nil List.drop_succ_cons List.drop_zero List.drop_nil List.isEmpty_nil List.isEmpty_cons Bool.and_true Bool.true_and Bool.or_true Bool.true_or Bool.or_false Bool.false_or Bool.not_true Bool.not_false Nat.add_zero Nat.zero_add Option.isNone_none Option.isNone_some Option.getD_none true_and and_true not_true_eq_false not_false_eq_true decide_true decide_false Nat.le_refl and_self Bool.not_eq_true Nat.sub_self or_true true_or Option.some.injEq List.length_map List.nil_eq and_false false_and AV.live CV.live CV.liveIn K_keep firstReg Option.orElse_some Option.orElse_none head keepSlots keepBoxes Int.lt_irrefl List.length_append ite_self memOK logOps opKey lentBoxes Key.clash Key.sees Key.writes Nat.lt_irrefl gt_iff_lt nobox_at bot_at false_or or_false beq_self_eq_true Bool.true_beq Bool.false_beq
theorem delim2_den (s : List UInt8) : den K 58 [T s] [] = some (.ret (.agg [.pv (.int .i64 7), .pv (.str s), .pv (.int .i64 0)]) []) := by
  refine den_run rfl rfl Tryz.func58 rfl Tryz.ntmps58 ⟨by simp, by simp [LK]⟩ ?_
  have hr : Tryz.f58.results = #[.cell 2 45] := rfl
  simp only [go_sem, Nat.reduceLT, reduceIte, reduceCtorEq, Nat.reduceEqDiff, apply_ite (Option.map (outOf _)), Nat.reduceBEq, Nat.reduceAdd, Nat.reduceSub, Nat.reduceLeDiff, Nat.reduceMul, ty_shapeT_45, ty_zeroCells_45, ev_build ty_zeroCells_45 ty_placesOf_45, ty_szOf_45, hr]
abbrev flat2H (l : List Val) (i : Nat) (e : Nat) (acc : List Tok) : St :=
  { sl := upd (upd (upd bot 4 (I i)) 3 (.c (.own e (acc.map Tok.enc)))) 0 (L (encL l)), bx := nobox, nt := 67 }
noncomputable def flp2 : Code := .loop (loopAt Tryz.f39 3)
def Flat2Den (l : List Val) : Prop := Ne.size l ≤ 1000000 → den K 39 [L (encL l)] [] = some (.ret (L ((Ne.flat l).map Tok.enc)) [])
set_option maxHeartbeats 4000000 in
theorem flat2_step (l : List Val) (i : Nat) (e : Nat) (acc : List Tok) (he : e = 45 ∨ acc = []) (k : Int) (t : Tok) (l' : List Val) (hi : l[i]? = some (.mk k t l')) (hlen : l.length ≤ 1000000) (hacc : acc.length ≤ 3000000) (hs : (Ne.flat l').length ≤ 3000000)
    (hf : den K 39 [L (encL l')] [] = some (.ret (L ((Ne.flat l').map Tok.enc)) [])) :
    ∃ e', (e' = 45 ∨ acc ++ Ne.flatV (.mk k t l') = []) ∧ exL K 39 flp2 (flat2H l i e acc) = exL K 39 flp2 (flat2H l (i + 1) e' (acc ++ Ne.flatV (.mk k t l'))) := by
  have hil : i < l.length := (List.getElem?_eq_some_iff.1 hi).1
  have hlt : decide ((i : Int) < (l.length : Int)) = true := decide_eq_true (by omega)
  have hget := val_at l i k t l' hi
  have hw : IntKind.i64.wrap ((i : Int) + 1) = ((i + 1 : Nat) : Int) := wrap_nat i (by omega)
  have hown : e = 45 ∨ (acc.map Tok.enc).isEmpty = true := by
    rcases he with rfl | rfl
    · exact .inl rfl
    · exact .inr rfl
  have hlim1 : acc.length + 1 < appLim := by unfold appLim; omega
  have hlim2 : acc.length + 1 + (Ne.flat l').length < appLim := by unfold appLim; omega
  have hlim3 : acc.length + 1 + (Ne.flat l').length + 1 < appLim := by unfold appLim; omega
  unfold flp2
  conv in loopAt _ _ => whnf
  conv in loopAt _ _ => whnf
  conv in exL _ _ _ (flat2H l i e acc) => rw [exL_loop]
  by_cases h1 : k = 1
  · subst h1
    have c1 : decide ((1 : Int) < 1) = false := by decide
    have c2 : decide ((5 : Int) < 1) = false := by decide
    have c3 : decide ((1 : Int) < 1) = false := by decide
    refine ⟨45, .inl rfl, ?_⟩
    have hv : Ne.flatV (.mk 1 t l') = [t] := by rw [Ne.flatV, if_pos rfl]
    rw [hv]
    simp only [go_sem, Nat.reduceLT, reduceIte, reduceCtorEq, Nat.reduceEqDiff, apply_ite (Option.map (outOf _)), Nat.reduceBEq, Nat.reduceAdd, Nat.reduceSub, Nat.reduceLeDiff, Nat.reduceMul, ev_buildSlice (len := 0) ty_descOf_41 ty_szOf_45 ty_zeroCells_45 ⟨rfl, by decide, by decide⟩, ev_len_sl ty_descOf_22, ev_indexAddr ty_descOf_22, ty_szOf_47, ty_fieldOff_47_0, ty_szOf_3, ty_shapeT_3, ty_fieldOff_47_1, ty_szOf_45, ty_shapeT_45, ev_buildSlice (len := 1) ty_descOf_41 ty_szOf_45 ty_zeroCells_45 ⟨rfl, by decide, by decide⟩, ev_append ty_appInfo_41, ev_appNew_sl ty_descOf_41, ev_slice_str ty_descOf_9, good_58, ty_fieldOff_47_2, ty_szOf_22, ty_shapeT_22, good_39, keep_39_3, encL_len, hlt, hget, Int.natCast_nonneg, hf, lens_toksK, lens_tokK, hlim1, hlim2, hlim3, hown, snoc_tok, snoc_del, app_toks, hw, c1, c2, c3]
    rw [exL_head]
    simp only [go_sem, Nat.reduceLT, reduceIte, reduceCtorEq, Nat.reduceEqDiff, apply_ite (Option.map (outOf _)), Nat.reduceBEq, Nat.reduceAdd, Nat.reduceSub, Nat.reduceLeDiff, Nat.reduceMul, ev_buildSlice (len := 0) ty_descOf_41 ty_szOf_45 ty_zeroCells_45 ⟨rfl, by decide, by decide⟩, ev_len_sl ty_descOf_22, ev_indexAddr ty_descOf_22, ty_szOf_47, ty_fieldOff_47_0, ty_szOf_3, ty_shapeT_3, ty_fieldOff_47_1, ty_szOf_45, ty_shapeT_45, ev_buildSlice (len := 1) ty_descOf_41 ty_szOf_45 ty_zeroCells_45 ⟨rfl, by decide, by decide⟩, ev_append ty_appInfo_41, ev_appNew_sl ty_descOf_41, ev_slice_str ty_descOf_9, good_58, ty_fieldOff_47_2, ty_szOf_22, ty_shapeT_22, good_39, keep_39_3]
  by_cases h5 : k = 5
  · subst h5
    have c1 : decide ((5 : Int) < 1) = false := by decide
    have c2 : decide ((5 : Int) < 5) = false := by decide
    have c3 : decide ((1 : Int) < 5) = true := by decide
    have n1 : ((5 : Int) = 1) = False := by decide
    have b1 : ((5 : Int) == 1) = false := by decide
    have q1 : ((0 : Int) ≤ 4 ∧ (4 : Int) ≤ ((4 : Nat) : Int)) = True := by simp
    have q2 : ((0 : Int) ≤ 3 ∧ (3 : Int) ≤ ((4 : Nat) : Int)) = True := by simp
    have q3 : Int.toNat 4 = 4 := rfl
    have q4 : Int.toNat 3 = 3 := rfl
    have w1 : IntKind.i64.wrap (5 - 2) = 3 := by decide
    have w2 : IntKind.i64.wrap (5 - 1) = 4 := by decide
    have hd2 := delim2_den [41]
    refine ⟨45, .inl rfl, ?_⟩
    have hv : Ne.flatV (.mk 5 t l') = t :: (Ne.flat l' ++ [Ne.closeT 5]) := by rw [Ne.flatV, if_neg (by decide), if_pos rfl]
    rw [hv]
    have ha : acc ++ t :: (Ne.flat l' ++ [Ne.closeT 5]) = acc ++ [t] ++ Ne.flat l' ++ [Tok.mk 7 [41] 0] := by simp [Ne.closeT, Ne.closeC]
    rw [ha]
    simp only [go_sem, Nat.reduceLT, reduceIte, reduceCtorEq, Nat.reduceEqDiff, apply_ite (Option.map (outOf _)), Nat.reduceBEq, Nat.reduceAdd, Nat.reduceSub, Nat.reduceLeDiff, Nat.reduceMul, ev_buildSlice (len := 0) ty_descOf_41 ty_szOf_45 ty_zeroCells_45 ⟨rfl, by decide, by decide⟩, ev_len_sl ty_descOf_22, ev_indexAddr ty_descOf_22, ty_szOf_47, ty_fieldOff_47_0, ty_szOf_3, ty_shapeT_3, ty_fieldOff_47_1, ty_szOf_45, ty_shapeT_45, ev_buildSlice (len := 1) ty_descOf_41 ty_szOf_45 ty_zeroCells_45 ⟨rfl, by decide, by decide⟩, ev_append ty_appInfo_41, ev_appNew_sl ty_descOf_41, ev_slice_str ty_descOf_9, good_58, ty_fieldOff_47_2, ty_szOf_22, ty_shapeT_22, good_39, keep_39_3, encL_len, hlt, hget, Int.natCast_nonneg, hf, lens_toksK, lens_tokK, hlim1, hlim2, hlim3, hown, snoc_tok, snoc_del, app_toks, hw, c1, c2, c3, n1, b1, q1, q2, q3, q4, w1, w2, hd2]
    rw [exL_head]
    simp only [go_sem, Nat.reduceLT, reduceIte, reduceCtorEq, Nat.reduceEqDiff, apply_ite (Option.map (outOf _)), Nat.reduceBEq, Nat.reduceAdd, Nat.reduceSub, Nat.reduceLeDiff, Nat.reduceMul, ev_buildSlice (len := 0) ty_descOf_41 ty_szOf_45 ty_zeroCells_45 ⟨rfl, by decide, by decide⟩, ev_len_sl ty_descOf_22, ev_indexAddr ty_descOf_22, ty_szOf_47, ty_fieldOff_47_0, ty_szOf_3, ty_shapeT_3, ty_fieldOff_47_1, ty_szOf_45, ty_shapeT_45, ev_buildSlice (len := 1) ty_descOf_41 ty_szOf_45 ty_zeroCells_45 ⟨rfl, by decide, by decide⟩, ev_append ty_appInfo_41, ev_appNew_sl ty_descOf_41, ev_slice_str ty_descOf_9, good_58, ty_fieldOff_47_2, ty_szOf_22, ty_shapeT_22, good_39, keep_39_3]
  by_cases h2 : k = 2
  · subst h2
    have c1 : decide ((2 : Int) < 1) = false := by decide
    have c2 : decide ((5 : Int) < 2) = false := by decide
    have c3 : decide ((1 : Int) < 2) = true := by decide
    have n1 : ((2 : Int) = 1) = False := by decide
    have n5 : ((2 : Int) = 5) = False := by decide
    have b1 : ((2 : Int) == 1) = false := by decide
    have b5 : ((2 : Int) == 5) = false := by decide
    have q1 : ((0 : Int) ≤ 1 ∧ (1 : Int) ≤ ((3 : Nat) : Int)) = True := by simp
    have q2 : ((0 : Int) ≤ 0 ∧ (0 : Int) ≤ ((1 : Nat) : Int)) = True := by simp
    have q3 : ((0 : Int) ≤ 1 ∧ (1 : Int) ≤ ((4 : Nat) : Int)) = True := by simp
    have q4 : Int.toNat 1 = 1 := rfl
    have q5 : Int.toNat 0 = 0 := rfl
    have w1 : IntKind.i64.wrap (2 - 2) = 0 := by decide
    have w2 : IntKind.i64.wrap (2 - 1) = 1 := by decide
    have hd1 := delim2_den [40]
    have hd2 := delim2_den [41]
    refine ⟨45, .inl rfl, ?_⟩
    have hv : Ne.flatV (.mk 2 t l') = Ne.openT 2 :: (Ne.flat l' ++ [Ne.closeT 2]) := by rw [Ne.flatV, if_neg (by decide), if_neg (by decide), if_pos (by decide)]
    rw [hv]
    have ha : acc ++ Ne.openT 2 :: (Ne.flat l' ++ [Ne.closeT 2]) = acc ++ [Tok.mk 7 [40] 0] ++ Ne.flat l' ++ [Tok.mk 7 [41] 0] := by simp [Ne.closeT, Ne.closeC, Ne.openT, Ne.openC]
    rw [ha]
    simp only [go_sem, Nat.reduceLT, reduceIte, reduceCtorEq, Nat.reduceEqDiff, apply_ite (Option.map (outOf _)), Nat.reduceBEq, Nat.reduceAdd, Nat.reduceSub, Nat.reduceLeDiff, Nat.reduceMul, ev_buildSlice (len := 0) ty_descOf_41 ty_szOf_45 ty_zeroCells_45 ⟨rfl, by decide, by decide⟩, ev_len_sl ty_descOf_22, ev_indexAddr ty_descOf_22, ty_szOf_47, ty_fieldOff_47_0, ty_szOf_3, ty_shapeT_3, ty_fieldOff_47_1, ty_szOf_45, ty_shapeT_45, ev_buildSlice (len := 1) ty_descOf_41 ty_szOf_45 ty_zeroCells_45 ⟨rfl, by decide, by decide⟩, ev_append ty_appInfo_41, ev_appNew_sl ty_descOf_41, ev_slice_str ty_descOf_9, good_58, ty_fieldOff_47_2, ty_szOf_22, ty_shapeT_22, good_39, keep_39_3, encL_len, hlt, hget, Int.natCast_nonneg, hf, lens_toksK, lens_tokK, hlim1, hlim2, hlim3, hown, snoc_tok, snoc_del, app_toks, hw, c1, c2, c3, n1, n5, b1, b5, Int.le_refl, q1, q2, q3, q4, q5, w1, w2, hd1, hd2]
    rw [exL_head]
    simp only [go_sem, Nat.reduceLT, reduceIte, reduceCtorEq, Nat.reduceEqDiff, apply_ite (Option.map (outOf _)), Nat.reduceBEq, Nat.reduceAdd, Nat.reduceSub, Nat.reduceLeDiff, Nat.reduceMul, ev_buildSlice (len := 0) ty_descOf_41 ty_szOf_45 ty_zeroCells_45 ⟨rfl, by decide, by decide⟩, ev_len_sl ty_descOf_22, ev_indexAddr ty_descOf_22, ty_szOf_47, ty_fieldOff_47_0, ty_szOf_3, ty_shapeT_3, ty_fieldOff_47_1, ty_szOf_45, ty_shapeT_45, ev_buildSlice (len := 1) ty_descOf_41 ty_szOf_45 ty_zeroCells_45 ⟨rfl, by decide, by decide⟩, ev_append ty_appInfo_41, ev_appNew_sl ty_descOf_41, ev_slice_str ty_descOf_9, good_58, ty_fieldOff_47_2, ty_szOf_22, ty_shapeT_22, good_39, keep_39_3]
  by_cases h3 : k = 3
  · subst h3
    have c1 : decide ((3 : Int) < 1) = false := by decide
    have c2 : decide ((5 : Int) < 3) = false := by decide
    have c3 : decide ((1 : Int) < 3) = true := by decide
    have n1 : ((3 : Int) = 1) = False := by decide
    have n5 : ((3 : Int) = 5) = False := by decide
    have b1 : ((3 : Int) == 1) = false := by decide
    have b5 : ((3 : Int) == 5) = false := by decide
    have q1 : ((0 : Int) ≤ 2 ∧ (2 : Int) ≤ ((3 : Nat) : Int)) = True := by simp
    have q2 : ((0 : Int) ≤ 1 ∧ (1 : Int) ≤ ((2 : Nat) : Int)) = True := by simp
    have q3 : ((0 : Int) ≤ 2 ∧ (2 : Int) ≤ ((4 : Nat) : Int)) = True := by simp
    have q4 : Int.toNat 2 = 2 := rfl
    have q5 : Int.toNat 1 = 1 := rfl
    have w1 : IntKind.i64.wrap (3 - 2) = 1 := by decide
    have w2 : IntKind.i64.wrap (3 - 1) = 2 := by decide
    have hd1 := delim2_den [91]
    have hd2 := delim2_den [93]
    refine ⟨45, .inl rfl, ?_⟩
    have hv : Ne.flatV (.mk 3 t l') = Ne.openT 3 :: (Ne.flat l' ++ [Ne.closeT 3]) := by rw [Ne.flatV, if_neg (by decide), if_neg (by decide), if_pos (by decide)]
    rw [hv]
    have ha : acc ++ Ne.openT 3 :: (Ne.flat l' ++ [Ne.closeT 3]) = acc ++ [Tok.mk 7 [91] 0] ++ Ne.flat l' ++ [Tok.mk 7 [93] 0] := by simp [Ne.closeT, Ne.closeC, Ne.openT, Ne.openC]
    rw [ha]
    simp only [go_sem, Nat.reduceLT, reduceIte, reduceCtorEq, Nat.reduceEqDiff, apply_ite (Option.map (outOf _)), Nat.reduceBEq, Nat.reduceAdd, Nat.reduceSub, Nat.reduceLeDiff, Nat.reduceMul, ev_buildSlice (len := 0) ty_descOf_41 ty_szOf_45 ty_zeroCells_45 ⟨rfl, by decide, by decide⟩, ev_len_sl ty_descOf_22, ev_indexAddr ty_descOf_22, ty_szOf_47, ty_fieldOff_47_0, ty_szOf_3, ty_shapeT_3, ty_fieldOff_47_1, ty_szOf_45, ty_shapeT_45, ev_buildSlice (len := 1) ty_descOf_41 ty_szOf_45 ty_zeroCells_45 ⟨rfl, by decide, by decide⟩, ev_append ty_appInfo_41, ev_appNew_sl ty_descOf_41, ev_slice_str ty_descOf_9, good_58, ty_fieldOff_47_2, ty_szOf_22, ty_shapeT_22, good_39, keep_39_3, encL_len, hlt, hget, Int.natCast_nonneg, hf, lens_toksK, lens_tokK, hlim1, hlim2, hlim3, hown, snoc_tok, snoc_del, app_toks, hw, c1, c2, c3, n1, n5, b1, b5, Int.le_refl, q1, q2, q3, q4, q5, w1, w2, hd1, hd2]
    rw [exL_head]
    simp only [go_sem, Nat.reduceLT, reduceIte, reduceCtorEq, Nat.reduceEqDiff, apply_ite (Option.map (outOf _)), Nat.reduceBEq, Nat.reduceAdd, Nat.reduceSub, Nat.reduceLeDiff, Nat.reduceMul, ev_buildSlice (len := 0) ty_descOf_41 ty_szOf_45 ty_zeroCells_45 ⟨rfl, by decide, by decide⟩, ev_len_sl ty_descOf_22, ev_indexAddr ty_descOf_22, ty_szOf_47, ty_fieldOff_47_0, ty_szOf_3, ty_shapeT_3, ty_fieldOff_47_1, ty_szOf_45, ty_shapeT_45, ev_buildSlice (len := 1) ty_descOf_41 ty_szOf_45 ty_zeroCells_45 ⟨rfl, by decide, by decide⟩, ev_append ty_appInfo_41, ev_appNew_sl ty_descOf_41, ev_slice_str ty_descOf_9, good_58, ty_fieldOff_47_2, ty_szOf_22, ty_shapeT_22, good_39, keep_39_3]
  by_cases h4 : k = 4
  · subst h4
    have c1 : decide ((4 : Int) < 1) = false := by decide
    have c2 : decide ((5 : Int) < 4) = false := by decide
    have c3 : decide ((1 : Int) < 4) = true := by decide
    have n1 : ((4 : Int) = 1) = False := by decide
    have n5 : ((4 : Int) = 5) = False := by decide
    have b1 : ((4 : Int) == 1) = false := by decide
    have b5 : ((4 : Int) == 5) = false := by decide
    have q1 : ((0 : Int) ≤ 3 ∧ (3 : Int) ≤ ((3 : Nat) : Int)) = True := by simp
    have q2 : ((0 : Int) ≤ 2 ∧ (2 : Int) ≤ ((3 : Nat) : Int)) = True := by simp
    have q3 : ((0 : Int) ≤ 3 ∧ (3 : Int) ≤ ((4 : Nat) : Int)) = True := by simp
    have q4 : Int.toNat 3 = 3 := rfl
    have q5 : Int.toNat 2 = 2 := rfl
    have w1 : IntKind.i64.wrap (4 - 2) = 2 := by decide
    have w2 : IntKind.i64.wrap (4 - 1) = 3 := by decide
    have hd1 := delim2_den [123]
    have hd2 := delim2_den [125]
    refine ⟨45, .inl rfl, ?_⟩
    have hv : Ne.flatV (.mk 4 t l') = Ne.openT 4 :: (Ne.flat l' ++ [Ne.closeT 4]) := by rw [Ne.flatV, if_neg (by decide), if_neg (by decide), if_pos (by decide)]
    rw [hv]
    have ha : acc ++ Ne.openT 4 :: (Ne.flat l' ++ [Ne.closeT 4]) = acc ++ [Tok.mk 7 [123] 0] ++ Ne.flat l' ++ [Tok.mk 7 [125] 0] := by simp [Ne.closeT, Ne.closeC, Ne.openT, Ne.openC]
    rw [ha]
    simp only [go_sem, Nat.reduceLT, reduceIte, reduceCtorEq, Nat.reduceEqDiff, apply_ite (Option.map (outOf _)), Nat.reduceBEq, Nat.reduceAdd, Nat.reduceSub, Nat.reduceLeDiff, Nat.reduceMul, ev_buildSlice (len := 0) ty_descOf_41 ty_szOf_45 ty_zeroCells_45 ⟨rfl, by decide, by decide⟩, ev_len_sl ty_descOf_22, ev_indexAddr ty_descOf_22, ty_szOf_47, ty_fieldOff_47_0, ty_szOf_3, ty_shapeT_3, ty_fieldOff_47_1, ty_szOf_45, ty_shapeT_45, ev_buildSlice (len := 1) ty_descOf_41 ty_szOf_45 ty_zeroCells_45 ⟨rfl, by decide, by decide⟩, ev_append ty_appInfo_41, ev_appNew_sl ty_descOf_41, ev_slice_str ty_descOf_9, good_58, ty_fieldOff_47_2, ty_szOf_22, ty_shapeT_22, good_39, keep_39_3, encL_len, hlt, hget, Int.natCast_nonneg, hf, lens_toksK, lens_tokK, hlim1, hlim2, hlim3, hown, snoc_tok, snoc_del, app_toks, hw, c1, c2, c3, n1, n5, b1, b5, Int.le_refl, q1, q2, q3, q4, q5, w1, w2, hd1, hd2]
    rw [exL_head]
    simp only [go_sem, Nat.reduceLT, reduceIte, reduceCtorEq, Nat.reduceEqDiff, apply_ite (Option.map (outOf _)), Nat.reduceBEq, Nat.reduceAdd, Nat.reduceSub, Nat.reduceLeDiff, Nat.reduceMul, ev_buildSlice (len := 0) ty_descOf_41 ty_szOf_45 ty_zeroCells_45 ⟨rfl, by decide, by decide⟩, ev_len_sl ty_descOf_22, ev_indexAddr ty_descOf_22, ty_szOf_47, ty_fieldOff_47_0, ty_szOf_3, ty_shapeT_3, ty_fieldOff_47_1, ty_szOf_45, ty_shapeT_45, ev_buildSlice (len := 1) ty_descOf_41 ty_szOf_45 ty_zeroCells_45 ⟨rfl, by decide, by decide⟩, ev_append ty_appInfo_41, ev_appNew_sl ty_descOf_41, ev_slice_str ty_descOf_9, good_58, ty_fieldOff_47_2, ty_szOf_22, ty_shapeT_22, good_39, keep_39_3]
  have hv : Ne.flatV (.mk k t l') = [] := by rw [Ne.flatV, if_neg h1, if_neg h5, if_neg (by omega)]
  rw [hv, List.append_nil]
  refine ⟨e, he, ?_⟩
  cases c1 : decide (k < 1)
  · have c2 : decide (5 < k) = true := decide_eq_true (by have := of_decide_eq_false c1; omega)
    simp only [go_sem, Nat.reduceLT, reduceIte, reduceCtorEq, Nat.reduceEqDiff, apply_ite (Option.map (outOf _)), Nat.reduceBEq, Nat.reduceAdd, Nat.reduceSub, Nat.reduceLeDiff, Nat.reduceMul, ev_buildSlice (len := 0) ty_descOf_41 ty_szOf_45 ty_zeroCells_45 ⟨rfl, by decide, by decide⟩, ev_len_sl ty_descOf_22, ev_indexAddr ty_descOf_22, ty_szOf_47, ty_fieldOff_47_0, ty_szOf_3, ty_shapeT_3, ty_fieldOff_47_1, ty_szOf_45, ty_shapeT_45, ev_buildSlice (len := 1) ty_descOf_41 ty_szOf_45 ty_zeroCells_45 ⟨rfl, by decide, by decide⟩, ev_append ty_appInfo_41, ev_appNew_sl ty_descOf_41, ev_slice_str ty_descOf_9, good_58, ty_fieldOff_47_2, ty_szOf_22, ty_shapeT_22, good_39, keep_39_3, encL_len, hlt, hget, Int.natCast_nonneg, hf, lens_toksK, lens_tokK, hlim1, hlim2, hlim3, hown, snoc_tok, snoc_del, app_toks, hw, c1, c2]
    rw [exL_head]
    simp only [go_sem, Nat.reduceLT, reduceIte, reduceCtorEq, Nat.reduceEqDiff, apply_ite (Option.map (outOf _)), Nat.reduceBEq, Nat.reduceAdd, Nat.reduceSub, Nat.reduceLeDiff, Nat.reduceMul, ev_buildSlice (len := 0) ty_descOf_41 ty_szOf_45 ty_zeroCells_45 ⟨rfl, by decide, by decide⟩, ev_len_sl ty_descOf_22, ev_indexAddr ty_descOf_22, ty_szOf_47, ty_fieldOff_47_0, ty_szOf_3, ty_shapeT_3, ty_fieldOff_47_1, ty_szOf_45, ty_shapeT_45, ev_buildSlice (len := 1) ty_descOf_41 ty_szOf_45 ty_zeroCells_45 ⟨rfl, by decide, by decide⟩, ev_append ty_appInfo_41, ev_appNew_sl ty_descOf_41, ev_slice_str ty_descOf_9, good_58, ty_fieldOff_47_2, ty_szOf_22, ty_shapeT_22, good_39, keep_39_3]
  · simp only [go_sem, Nat.reduceLT, reduceIte, reduceCtorEq, Nat.reduceEqDiff, apply_ite (Option.map (outOf _)), Nat.reduceBEq, Nat.reduceAdd, Nat.reduceSub, Nat.reduceLeDiff, Nat.reduceMul, ev_buildSlice (len := 0) ty_descOf_41 ty_szOf_45 ty_zeroCells_45 ⟨rfl, by decide, by decide⟩, ev_len_sl ty_descOf_22, ev_indexAddr ty_descOf_22, ty_szOf_47, ty_fieldOff_47_0, ty_szOf_3, ty_shapeT_3, ty_fieldOff_47_1, ty_szOf_45, ty_shapeT_45, ev_buildSlice (len := 1) ty_descOf_41 ty_szOf_45 ty_zeroCells_45 ⟨rfl, by decide, by decide⟩, ev_append ty_appInfo_41, ev_appNew_sl ty_descOf_41, ev_slice_str ty_descOf_9, good_58, ty_fieldOff_47_2, ty_szOf_22, ty_shapeT_22, good_39, keep_39_3, encL_len, hlt, hget, Int.natCast_nonneg, hf, lens_toksK, lens_tokK, hlim1, hlim2, hlim3, hown, snoc_tok, snoc_del, app_toks, hw, c1]
    rw [exL_head]
    simp only [go_sem, Nat.reduceLT, reduceIte, reduceCtorEq, Nat.reduceEqDiff, apply_ite (Option.map (outOf _)), Nat.reduceBEq, Nat.reduceAdd, Nat.reduceSub, Nat.reduceLeDiff, Nat.reduceMul, ev_buildSlice (len := 0) ty_descOf_41 ty_szOf_45 ty_zeroCells_45 ⟨rfl, by decide, by decide⟩, ev_len_sl ty_descOf_22, ev_indexAddr ty_descOf_22, ty_szOf_47, ty_fieldOff_47_0, ty_szOf_3, ty_shapeT_3, ty_fieldOff_47_1, ty_szOf_45, ty_shapeT_45, ev_buildSlice (len := 1) ty_descOf_41 ty_szOf_45 ty_zeroCells_45 ⟨rfl, by decide, by decide⟩, ev_append ty_appInfo_41, ev_appNew_sl ty_descOf_41, ev_slice_str ty_descOf_9, good_58, ty_fieldOff_47_2, ty_szOf_22, ty_shapeT_22, good_39, keep_39_3]
theorem flat2_loop (l : List Val) (hl : Ne.size l ≤ 1000000) (hin : ∀ k t l', Val.mk k t l' ∈ l → Flat2Den l') : ∀ (rest : List Val) (i e : Nat) (acc : List Tok), l.drop i = rest → i ≤ l.length → (e = 45 ∨ acc = []) → acc.length + (Ne.flat rest).length ≤ 3000000 →
    Ends (exL K 39 flp2 (flat2H l i e acc)) fun o S => o = .exit 0 ∧ S.nt = 67 ∧ ∃ e', S.sl 3 = .c (.own e' ((acc ++ Ne.flat rest).map Tok.enc))
  | [], i, e, acc, hd, hi, he, hacc => by
    have hin : i = l.length := by
      have := List.drop_eq_nil_iff.1 hd
      omega
    subst hin
    have hv : acc ++ Ne.flat [] = acc := by rw [Ne.flat, List.append_nil]
    rw [hv]
    unfold flp2
    conv in loopAt _ _ => whnf
    rw [exL_loop]
    simp only [go_sem, Nat.reduceLT, reduceIte, reduceCtorEq, Nat.reduceEqDiff, apply_ite (Option.map (outOf _)), Nat.reduceBEq, Nat.reduceAdd, Nat.reduceSub, Nat.reduceLeDiff, Nat.reduceMul, ev_buildSlice (len := 0) ty_descOf_41 ty_szOf_45 ty_zeroCells_45 ⟨rfl, by decide, by decide⟩, ev_len_sl ty_descOf_22, ev_indexAddr ty_descOf_22, ty_szOf_47, ty_fieldOff_47_0, ty_szOf_3, ty_shapeT_3, ty_fieldOff_47_1, ty_szOf_45, ty_shapeT_45, ev_buildSlice (len := 1) ty_descOf_41 ty_szOf_45 ty_zeroCells_45 ⟨rfl, by decide, by decide⟩, ev_append ty_appInfo_41, ev_appNew_sl ty_descOf_41, ev_slice_str ty_descOf_9, good_58, ty_fieldOff_47_2, ty_szOf_22, ty_shapeT_22, good_39, keep_39_3, ends_some, encL_len]
    exact ⟨e, rfl⟩
  | .mk k t l' :: rest, i, e, acc, hd, hi, he, hacc => by
    obtain ⟨g1, g2, g3⟩ := drop_cons hd
    have hmem : Val.mk k t l' ∈ l := List.mem_of_getElem? g1
    have hsz := size_mem hmem
    have hfl := Ne.flat_size l'
    have hll : l.length ≤ 1000000 := Nat.le_trans (Ne.length_size l) hl
    have hsum : (Ne.flat (.mk k t l' :: rest)).length = (Ne.flatV (.mk k t l')).length + (Ne.flat rest).length := by rw [Ne.flat, List.length_append]
    rw [hsum] at hacc
    have ha3 : acc.length ≤ 3000000 := by omega
    have hs3 : (Ne.flat l').length ≤ 3000000 := by omega
    have hs1 : Ne.size l' ≤ 1000000 := by omega
    obtain ⟨e', he', hstep⟩ := flat2_step l i e acc he k t l' g1 hll ha3 hs3 (hin k t l' hmem hs1)
    rw [hstep]
    have hlen2 : (acc ++ Ne.flatV (.mk k t l')).length + (Ne.flat rest).length ≤ 3000000 := by rw [List.length_append]; omega
    have hi2 : i + 1 ≤ l.length := by omega
    have ih := flat2_loop l hl hin rest (i + 1) e' (acc ++ Ne.flatV (.mk k t l')) g2 hi2 he' hlen2
    rw [List.append_assoc] at ih
    have hv : Ne.flat (.mk k t l' :: rest) = Ne.flatV (.mk k t l') ++ Ne.flat rest := by rw [Ne.flat]
    rw [hv]
    exact ih
theorem Flat2_den (l : List Val) : Flat2Den l := by
  refine ind_list (fun l hin hs => ?_) l
  have hfl := Ne.flat_size l
  have hacc0 : ([] : List Tok).length + (Ne.flat l).length ≤ 3000000 := by rw [List.length_nil]; omega
  have h := flat2_loop l hs hin l 0 45 [] rfl (Nat.zero_le _) (Or.inl rfl) hacc0
  unfold flp2 at h
  conv at h in loopAt _ _ => whnf
  obtain ⟨o, S', w, rfl, hn, e', h3⟩ := h
  rw [List.nil_append] at h3
  refine den_run rfl rfl Tryz.func39 rfl Tryz.ntmps39 ⟨by simp, by simp [LK]⟩ ?_
  have hr : Tryz.f39.results = #[.tmp 2] := rfl
  simp only [go_sem, Nat.reduceLT, reduceIte, reduceCtorEq, Nat.reduceEqDiff, apply_ite (Option.map (outOf _)), Nat.reduceBEq, Nat.reduceAdd, Nat.reduceSub, Nat.reduceLeDiff, Nat.reduceMul, ev_buildSlice (len := 0) ty_descOf_41 ty_szOf_45 ty_zeroCells_45 ⟨rfl, by decide, by decide⟩, ev_len_sl ty_descOf_22, ev_indexAddr ty_descOf_22, ty_szOf_47, ty_fieldOff_47_0, ty_szOf_3, ty_shapeT_3, ty_fieldOff_47_1, ty_szOf_45, ty_shapeT_45, ev_buildSlice (len := 1) ty_descOf_41 ty_szOf_45 ty_zeroCells_45 ⟨rfl, by decide, by decide⟩, ev_append ty_appInfo_41, ev_appNew_sl ty_descOf_41, ev_slice_str ty_descOf_9, good_58, ty_fieldOff_47_2, ty_szOf_22, ty_shapeT_22, good_39, keep_39_3]
  rw [exL_head]
  simp only [go_sem, Nat.reduceLT, reduceIte, reduceCtorEq, Nat.reduceEqDiff, apply_ite (Option.map (outOf _)), Nat.reduceBEq, Nat.reduceAdd, Nat.reduceSub, Nat.reduceLeDiff, Nat.reduceMul, ev_buildSlice (len := 0) ty_descOf_41 ty_szOf_45 ty_zeroCells_45 ⟨rfl, by decide, by decide⟩, ev_len_sl ty_descOf_22, ev_indexAddr ty_descOf_22, ty_szOf_47, ty_fieldOff_47_0, ty_szOf_3, ty_shapeT_3, ty_fieldOff_47_1, ty_szOf_45, ty_shapeT_45, ev_buildSlice (len := 1) ty_descOf_41 ty_szOf_45 ty_zeroCells_45 ⟨rfl, by decide, by decide⟩, ev_append ty_appInfo_41, ev_appNew_sl ty_descOf_41, ev_slice_str ty_descOf_9, good_58, ty_fieldOff_47_2, ty_szOf_22, ty_shapeT_22, good_39, keep_39_3]
  erw [w]
  simp only [go_sem, Nat.reduceLT, reduceIte, reduceCtorEq, Nat.reduceEqDiff, apply_ite (Option.map (outOf _)), Nat.reduceBEq, Nat.reduceAdd, Nat.reduceSub, Nat.reduceLeDiff, Nat.reduceMul, ev_buildSlice (len := 0) ty_descOf_41 ty_szOf_45 ty_zeroCells_45 ⟨rfl, by decide, by decide⟩, ev_len_sl ty_descOf_22, ev_indexAddr ty_descOf_22, ty_szOf_47, ty_fieldOff_47_0, ty_szOf_3, ty_shapeT_3, ty_fieldOff_47_1, ty_szOf_45, ty_shapeT_45, ev_buildSlice (len := 1) ty_descOf_41 ty_szOf_45 ty_zeroCells_45 ⟨rfl, by decide, by decide⟩, ev_append ty_appInfo_41, ev_appNew_sl ty_descOf_41, ev_slice_str ty_descOf_9, good_58, ty_fieldOff_47_2, ty_szOf_22, ty_shapeT_22, good_39, keep_39_3, hr, hn, h3]
end Go.Abs
namespace Go.Abs
open Go Go.Proofs
set_option maxRecDepth 10000
attribute [local go_sem] exL_seq exL_region exL_cond exL_block exL_scope exL_ret exL_skip exL_exit runRegion runOps stepOp guardA absOp takeOver opd avOf cvOf St.degAt St.put okPV okVal okAV absBin intBin strBin boolBin setBoxes if_true Bool.false_eq_true if_false Option.map_some Option.map_none Option.bind_some Option.bind_none thenO outOf upd List.toList_toArray isOwn steal appArgs inApps AV.deg CV.deg AV.gv AV.isIter absNext some_bne List.length_nil List.length_cons List.filterMap_cons List.filterMap_nil beq_iff_eq List.getElem?_cons_zero List.getElem?_cons_succ Option.getD_some K_hook hookB Bool.false_and Bool.and_false Bool.and_self K_P K_own absCall doCall getBoxes lend back idx dedup AV.ren CV.ren TV.ren AV.ptrs CV.ptrs zipBox AV.flat CV.flat absLoad absStore cellsOfAV setAt newBox markB bldTypes absFieldAddr absField absExtract absAssert noAssert absMkIface ifcOf CV.pv? content pushHead ownT fillCells reps pvs chunks enterSt leave resOf resVars resVar outBoxes lentOnly TV.deg TV.av LK CV.plain CV.noBld nilBin absUn bound List.map_cons List.map_nil List.all_cons List.all_nil List.any_cons List.any_nil List.contains_cons List.contains_nil List.elem_cons List.elem_nil List.cons_append List.nil_append List.append_nil List.flatMap_cons List.flatMap_nil List.zip_cons_cons List.zip_nil_left List.zip_nil_right List.take_succ_cons List.take_zero List.take_nil List.drop_succ_cons List.drop_zero List.drop_nil List.isEmpty_nil List.isEmpty_cons Bool.and_true Bool.true_and Bool.or_true Bool.true_or Bool.or_false Bool.false_or Bool.not_true Bool.not_false Nat.add_zero Nat.zero_add Option.isNone_none Option.isNone_some Option.getD_none true_and and_true not_true_eq_false not_false_eq_true decide_true decide_false Nat.le_refl and_self Bool.not_eq_true Nat.sub_self or_true true_or Option.some.injEq List.length_map List.nil_eq and_false false_and AV.live CV.live CV.liveIn K_keep firstReg Option.orElse_some Option.orElse_none head keepSlots keepBoxes Int.lt_irrefl List.length_append ite_self memOK logOps opKey lentBoxes Key.clash Key.sees Key.writes Nat.lt_irrefl gt_iff_lt nobox_at bot_at false_or or_false beq_self_eq_true Bool.true_beq Bool.false_beq
theorem blank_den (k : Int) (t : Tok) (l : List Val) : den K 31 [.agg (valCv k t l)] [] = some (.ret (B (Sl.isBlank (.mk k t l))) []) := by
  refine den_run rfl rfl Tryz.func31 rfl Tryz.ntmps31 ⟨by simp, by simp [LK]⟩ ?_
  have hr : Tryz.f31.results = #[.tmp 2] := rfl
  have hs : Sl.isBlank (.mk k t l) = ((k == 1) && (t.kind == 8)) := rfl
  rw [hs]
  cases e1 : (k == 1)
  · simp only [go_sem, Nat.reduceLT, reduceIte, reduceCtorEq, Nat.reduceEqDiff, apply_ite (Option.map (outOf _)), Nat.reduceBEq, Nat.reduceAdd, Nat.reduceSub, Nat.reduceLeDiff, Nat.reduceMul, ty_fieldOff_47_0, ty_szOf_3, ty_shapeT_3, ty_fieldOff_47_1, ty_szOf_45, ty_fieldOff_45_0, hr, e1]
  · simp only [go_sem, Nat.reduceLT, reduceIte, reduceCtorEq, Nat.reduceEqDiff, apply_ite (Option.map (outOf _)), Nat.reduceBEq, Nat.reduceAdd, Nat.reduceSub, Nat.reduceLeDiff, Nat.reduceMul, ty_fieldOff_47_0, ty_szOf_3, ty_shapeT_3, ty_fieldOff_47_1, ty_szOf_45, ty_fieldOff_45_0, hr, e1]
theorem sign3_den (k : Int) (t : Tok) (l : List Val) (s : List UInt8) : den K 28 [.agg (valCv k t l), T s] [] = some (.ret (B (Sl.isSign s (.mk k t l))) []) := by
  refine den_run rfl rfl Tryz.func28 rfl Tryz.ntmps28 ⟨by simp, by simp [LK]⟩ ?_
  have hr : Tryz.f28.results = #[.tmp 4] := rfl
  have hv : decide (t = ⟨7, s, 0⟩) = ((t.kind == 7) && ((t.text == s) && ((t.n == 0) && true))) := (tok_beq t ⟨7, s, 0⟩).symm
  have hs : Sl.isSign s (.mk k t l) = ((k == 1) && ((t.kind == 7) && ((t.text == s) && ((t.n == 0) && true)))) := by rw [← hv]; rfl
  rw [hs]
  cases e1 : (k == 1)
  · simp only [go_sem, Nat.reduceLT, reduceIte, reduceCtorEq, Nat.reduceEqDiff, apply_ite (Option.map (outOf _)), Nat.reduceBEq, Nat.reduceAdd, Nat.reduceSub, Nat.reduceLeDiff, Nat.reduceMul, ty_fieldOff_47_0, ty_szOf_3, ty_shapeT_3, ty_fieldOff_47_1, ty_szOf_45, ty_fieldOff_45_0, ty_fieldOff_45_1, ty_szOf_9, ty_shapeT_9, ty_fieldOff_45_2, hr, e1]
  · cases e2 : (t.kind == 7)
    · simp only [go_sem, Nat.reduceLT, reduceIte, reduceCtorEq, Nat.reduceEqDiff, apply_ite (Option.map (outOf _)), Nat.reduceBEq, Nat.reduceAdd, Nat.reduceSub, Nat.reduceLeDiff, Nat.reduceMul, ty_fieldOff_47_0, ty_szOf_3, ty_shapeT_3, ty_fieldOff_47_1, ty_szOf_45, ty_fieldOff_45_0, ty_fieldOff_45_1, ty_szOf_9, ty_shapeT_9, ty_fieldOff_45_2, hr, e1, e2]
    · cases e3 : (t.text == s)
      · simp only [go_sem, Nat.reduceLT, reduceIte, reduceCtorEq, Nat.reduceEqDiff, apply_ite (Option.map (outOf _)), Nat.reduceBEq, Nat.reduceAdd, Nat.reduceSub, Nat.reduceLeDiff, Nat.reduceMul, ty_fieldOff_47_0, ty_szOf_3, ty_shapeT_3, ty_fieldOff_47_1, ty_szOf_45, ty_fieldOff_45_0, ty_fieldOff_45_1, ty_szOf_9, ty_shapeT_9, ty_fieldOff_45_2, hr, e1, e2, e3]
      · simp only [go_sem, Nat.reduceLT, reduceIte, reduceCtorEq, Nat.reduceEqDiff, apply_ite (Option.map (outOf _)), Nat.reduceBEq, Nat.reduceAdd, Nat.reduceSub, Nat.reduceLeDiff, Nat.reduceMul, ty_fieldOff_47_0, ty_szOf_3, ty_shapeT_3, ty_fieldOff_47_1, ty_szOf_45, ty_fieldOff_45_0, ty_fieldOff_45_1, ty_szOf_9, ty_shapeT_9, ty_fieldOff_45_2, hr, e1, e2, e3]
abbrev trimH (l : List Val) (i j : Nat) : St :=
  { sl := upd (upd (upd bot 4 (I j)) 3 (I i)) 0 (L (encL l)), bx := nobox, nt := 38 }
noncomputable def tlp2 : Code := .loop (loopAt Tryz.f13 2)
noncomputable def tlp4 : Code := .loop (loopAt Tryz.f13 4)
theorem trim2_yes (l : List Val) (i : Nat) (hl : l.length ≤ 100000000) (v : Val) (hi : l[i]? = some v) (hb : Sl.isBlank v = true) :
    exL K 13 tlp2 (trimH l i l.length) = exL K 13 tlp2 (trimH l (i + 1) l.length) := by
  obtain ⟨k, t, c⟩ := v
  have hil : i < l.length := (List.getElem?_eq_some_iff.1 hi).1
  have hlt : decide ((i : Int) < (l.length : Int)) = true := decide_eq_true (by omega)
  have hget := val_at l i k t c hi
  have hw : IntKind.i64.wrap ((i : Int) + 1) = ((i + 1 : Nat) : Int) := wrap_nat i (by omega)
  have hd := blank_den k t c
  rw [hb] at hd
  unfold tlp2
  conv in loopAt _ _ => whnf
  conv in loopAt _ _ => whnf
  conv in exL _ _ _ (trimH l i l.length) => rw [exL_loop]
  simp only [go_sem, Nat.reduceLT, reduceIte, reduceCtorEq, Nat.reduceEqDiff, apply_ite (Option.map (outOf _)), Nat.reduceBEq, Nat.reduceAdd, Nat.reduceSub, Nat.reduceLeDiff, Nat.reduceMul, ev_len_sl ty_descOf_22, ev_indexAddr ty_descOf_22, ty_szOf_47, ty_shapeT_47, good_31, ev_buildSlice (len := 0) ty_descOf_22 ty_szOf_47 ty_zeroCells_47 ⟨rfl, by decide, by decide⟩, ev_slice_sl ty_descOf_22 ty_szOf_47, ev_append ty_appInfo_22, ev_appNew_sl ty_descOf_22, keep_13_2, keep_13_4, hlt, hget, Int.natCast_nonneg, hw, hd]
  rw [exL_head]
  simp only [go_sem, Nat.reduceLT, reduceIte, reduceCtorEq, Nat.reduceEqDiff, apply_ite (Option.map (outOf _)), Nat.reduceBEq, Nat.reduceAdd, Nat.reduceSub, Nat.reduceLeDiff, Nat.reduceMul, ev_len_sl ty_descOf_22, ev_indexAddr ty_descOf_22, ty_szOf_47, ty_shapeT_47, good_31, ev_buildSlice (len := 0) ty_descOf_22 ty_szOf_47 ty_zeroCells_47 ⟨rfl, by decide, by decide⟩, ev_slice_sl ty_descOf_22 ty_szOf_47, ev_append ty_appInfo_22, ev_appNew_sl ty_descOf_22, keep_13_2, keep_13_4]
theorem trim2_no (l : List Val) (i : Nat) (hl : l.length ≤ 100000000) (v : Val) (hi : l[i]? = some v) (hb : Sl.isBlank v = false) :
    Ends (exL K 13 tlp2 (trimH l i l.length)) fun o S => o = .exit 0 ∧ S.nt = 38 ∧ S.sl 0 = L (encL l) ∧ S.sl 3 = I i ∧ S.sl 4 = I l.length := by
  obtain ⟨k, t, c⟩ := v
  have hil : i < l.length := (List.getElem?_eq_some_iff.1 hi).1
  have hlt : decide ((i : Int) < (l.length : Int)) = true := decide_eq_true (by omega)
  have hget := val_at l i k t c hi
  have hd := blank_den k t c
  rw [hb] at hd
  unfold tlp2
  conv in loopAt _ _ => whnf
  rw [exL_loop]
  simp only [go_sem, Nat.reduceLT, reduceIte, reduceCtorEq, Nat.reduceEqDiff, apply_ite (Option.map (outOf _)), Nat.reduceBEq, Nat.reduceAdd, Nat.reduceSub, Nat.reduceLeDiff, Nat.reduceMul, ev_len_sl ty_descOf_22, ev_indexAddr ty_descOf_22, ty_szOf_47, ty_shapeT_47, good_31, ev_buildSlice (len := 0) ty_descOf_22 ty_szOf_47 ty_zeroCells_47 ⟨rfl, by decide, by decide⟩, ev_slice_sl ty_descOf_22 ty_szOf_47, ev_append ty_appInfo_22, ev_appNew_sl ty_descOf_22, keep_13_2, keep_13_4, hlt, hget, Int.natCast_nonneg, hd, ends_some]
theorem trim2_end (l : List Val) : Ends (exL K 13 tlp2 (trimH l l.length l.length)) fun o S => o = .exit 0 ∧ S.nt = 38 ∧ S.sl 0 = L (encL l) ∧ S.sl 3 = I l.length ∧ S.sl 4 = I l.length := by
  unfold tlp2
  conv in loopAt _ _ => whnf
  rw [exL_loop]
  simp only [go_sem, Nat.reduceLT, reduceIte, reduceCtorEq, Nat.reduceEqDiff, apply_ite (Option.map (outOf _)), Nat.reduceBEq, Nat.reduceAdd, Nat.reduceSub, Nat.reduceLeDiff, Nat.reduceMul, ev_len_sl ty_descOf_22, ev_indexAddr ty_descOf_22, ty_szOf_47, ty_shapeT_47, good_31, ev_buildSlice (len := 0) ty_descOf_22 ty_szOf_47 ty_zeroCells_47 ⟨rfl, by decide, by decide⟩, ev_slice_sl ty_descOf_22 ty_szOf_47, ev_append ty_appInfo_22, ev_appNew_sl ty_descOf_22, keep_13_2, keep_13_4, ends_some]
theorem trim2_loop (l : List Val) (hl : l.length ≤ 100000000) : ∀ (rest : List Val) (i : Nat), l.drop i = rest → i ≤ l.length →
    Ends (exL K 13 tlp2 (trimH l i l.length)) fun o S => o = .exit 0 ∧ S.nt = 38 ∧ ∃ j : Nat, j ≤ l.length ∧ l.drop j = rest.dropWhile Sl.isBlank ∧ S.sl 0 = L (encL l) ∧ S.sl 3 = I j ∧ S.sl 4 = I l.length
  | [], i, hd, hi => by
    have hin : i = l.length := by
      have := List.drop_eq_nil_iff.1 hd
      omega
    subst hin
    refine ends_imp (trim2_end l) fun o S q => ⟨q.1, q.2.1, l.length, Nat.le_refl _, ?_, q.2.2⟩
    simp
  | v :: rest, i, hd, hi => by
    obtain ⟨g1, g2, g3⟩ := drop_cons hd
    cases hb : Sl.isBlank v with
    | true =>
      rw [trim2_yes l i hl v g1 hb, List.dropWhile_cons, if_pos hb]
      exact trim2_loop l hl rest (i + 1) g2 (by omega)
    | false =>
      refine ends_imp (trim2_no l i hl v g1 hb) fun o S q => ⟨q.1, q.2.1, i, hi, ?_, q.2.2⟩
      rw [hd, List.dropWhile_cons, if_neg (by rw [hb]; simp)]
theorem trim4_yes (l : List Val) (i j : Nat) (hl : l.length ≤ 100000000) (hij : i ≤ j) (v : Val) (hi : l[j]? = some v) (hb : Sl.isBlank v = true) :
    exL K 13 tlp4 (trimH l i (j + 1)) = exL K 13 tlp4 (trimH l i j) := by
  obtain ⟨k, t, c⟩ := v
  have hil : j < l.length := (List.getElem?_eq_some_iff.1 hi).1
  have hlt : decide ((i : Int) < ((j + 1 : Nat) : Int)) = true := decide_eq_true (by omega)
  have hget := val_at l j k t c hi
  have hw : IntKind.i64.wrap (((j + 1 : Nat) : Int) - 1) = (j : Int) := by rw [IntWalk.i64_in _ (by omega)]; omega
  have hd := blank_den k t c
  rw [hb] at hd
  unfold tlp4
  conv in loopAt _ _ => whnf
  conv in loopAt _ _ => whnf
  conv in exL _ _ _ (trimH l i (j + 1)) => rw [exL_loop]
  simp only [go_sem, Nat.reduceLT, reduceIte, reduceCtorEq, Nat.reduceEqDiff, apply_ite (Option.map (outOf _)), Nat.reduceBEq, Nat.reduceAdd, Nat.reduceSub, Nat.reduceLeDiff, Nat.reduceMul, ev_len_sl ty_descOf_22, ev_indexAddr ty_descOf_22, ty_szOf_47, ty_shapeT_47, good_31, ev_buildSlice (len := 0) ty_descOf_22 ty_szOf_47 ty_zeroCells_47 ⟨rfl, by decide, by decide⟩, ev_slice_sl ty_descOf_22 ty_szOf_47, ev_append ty_appInfo_22, ev_appNew_sl ty_descOf_22, keep_13_2, keep_13_4, hlt, hget, Int.natCast_nonneg, hw, hd]
  rw [exL_head]
  simp only [go_sem, Nat.reduceLT, reduceIte, reduceCtorEq, Nat.reduceEqDiff, apply_ite (Option.map (outOf _)), Nat.reduceBEq, Nat.reduceAdd, Nat.reduceSub, Nat.reduceLeDiff, Nat.reduceMul, ev_len_sl ty_descOf_22, ev_indexAddr ty_descOf_22, ty_szOf_47, ty_shapeT_47, good_31, ev_buildSlice (len := 0) ty_descOf_22 ty_szOf_47 ty_zeroCells_47 ⟨rfl, by decide, by decide⟩, ev_slice_sl ty_descOf_22 ty_szOf_47, ev_append ty_appInfo_22, ev_appNew_sl ty_descOf_22, keep_13_2, keep_13_4]
theorem trim4_no (l : List Val) (i j : Nat) (hl : l.length ≤ 100000000) (hij : i ≤ j) (v : Val) (hi : l[j]? = some v) (hb : Sl.isBlank v = false) :
    Ends (exL K 13 tlp4 (trimH l i (j + 1))) fun o S => o = .exit 2 ∧ S.nt = 38 ∧ S.sl 0 = L (encL l) ∧ S.sl 3 = I i ∧ S.sl 4 = I ((j + 1 : Nat) : Int) := by
  obtain ⟨k, t, c⟩ := v
  have hil : j < l.length := (List.getElem?_eq_some_iff.1 hi).1
  have hlt : decide ((i : Int) < ((j + 1 : Nat) : Int)) = true := decide_eq_true (by omega)
  have hget := val_at l j k t c hi
  have hw : IntKind.i64.wrap (((j + 1 : Nat) : Int) - 1) = (j : Int) := by rw [IntWalk.i64_in _ (by omega)]; omega
  have hd := blank_den k t c
  rw [hb] at hd
  unfold tlp4
  conv in loopAt _ _ => whnf
  rw [exL_loop]
  simp only [go_sem, Nat.reduceLT, reduceIte, reduceCtorEq, Nat.reduceEqDiff, apply_ite (Option.map (outOf _)), Nat.reduceBEq, Nat.reduceAdd, Nat.reduceSub, Nat.reduceLeDiff, Nat.reduceMul, ev_len_sl ty_descOf_22, ev_indexAddr ty_descOf_22, ty_szOf_47, ty_shapeT_47, good_31, ev_buildSlice (len := 0) ty_descOf_22 ty_szOf_47 ty_zeroCells_47 ⟨rfl, by decide, by decide⟩, ev_slice_sl ty_descOf_22 ty_szOf_47, ev_append ty_appInfo_22, ev_appNew_sl ty_descOf_22, keep_13_2, keep_13_4, hlt, hget, Int.natCast_nonneg, hw, hd, ends_some]
theorem trim4_end (l : List Val) (i : Nat) : Ends (exL K 13 tlp4 (trimH l i i)) fun o S => o = .exit 2 ∧ S.nt = 38 ∧ S.sl 0 = L (encL l) ∧ S.sl 3 = I i ∧ S.sl 4 = I i := by
  unfold tlp4
  conv in loopAt _ _ => whnf
  rw [exL_loop]
  simp only [go_sem, Nat.reduceLT, reduceIte, reduceCtorEq, Nat.reduceEqDiff, apply_ite (Option.map (outOf _)), Nat.reduceBEq, Nat.reduceAdd, Nat.reduceSub, Nat.reduceLeDiff, Nat.reduceMul, ev_len_sl ty_descOf_22, ev_indexAddr ty_descOf_22, ty_szOf_47, ty_shapeT_47, good_31, ev_buildSlice (len := 0) ty_descOf_22 ty_szOf_47 ty_zeroCells_47 ⟨rfl, by decide, by decide⟩, ev_slice_sl ty_descOf_22 ty_szOf_47, ev_append ty_appInfo_22, ev_appNew_sl ty_descOf_22, keep_13_2, keep_13_4, ends_some]
theorem trim4_loop (l : List Val) (hl : l.length ≤ 100000000) (i : Nat) : ∀ (m j : Nat), j = i + m → j ≤ l.length →
    Ends (exL K 13 tlp4 (trimH l i j)) fun o S => o = .exit 2 ∧ S.nt = 38 ∧ ∃ e : Nat, i ≤ e ∧ e ≤ l.length ∧ (l.take e).drop i = (((l.take j).drop i).reverse.dropWhile Sl.isBlank).reverse ∧ S.sl 0 = L (encL l) ∧ S.sl 3 = I i ∧ S.sl 4 = I e
  | 0, j, hj, hjl => by
    obtain rfl : j = i := by omega
    refine ends_imp (trim4_end l j) fun o S q => ⟨q.1, q.2.1, j, Nat.le_refl _, hjl, ?_, q.2.2⟩
    have : (l.take j).drop j = [] := by rw [List.drop_eq_nil_iff, List.length_take]; omega
    rw [this]; rfl
  | m + 1, j, hj, hjl => by
    obtain rfl : j = (i + m) + 1 := by omega
    have hlt : i + m < l.length := by omega
    have hg : l[i + m]? = some l[i + m] := List.getElem?_eq_getElem hlt
    have htk : (l.take (i + m + 1)).drop i = (l.take (i + m)).drop i ++ [l[i + m]] := by
      rw [List.take_add_one, hg, Option.toList_some, List.drop_append_of_le_length (by rw [List.length_take]; omega)]
    generalize hv : l[i + m] = v at hg htk
    cases hb : Sl.isBlank v with
    | true =>
      rw [trim4_yes l i (i + m) hl (by omega) v hg hb]
      refine ends_imp (trim4_loop l hl i m (i + m) rfl (by omega)) fun o S q => ?_
      obtain ⟨q1, q2, e, q3, q4, q5, q6⟩ := q
      refine ⟨q1, q2, e, q3, q4, ?_, q6⟩
      rw [q5, htk, List.reverse_append, List.reverse_singleton, List.singleton_append, List.dropWhile_cons, if_pos hb]
    | false =>
      refine ends_imp (trim4_no l i (i + m) hl (by omega) v hg hb) fun o S q => ⟨q.1, q.2.1, i + m + 1, by omega, hjl, ?_, q.2.2⟩
      rw [htk, List.reverse_append, List.reverse_singleton, List.singleton_append, List.dropWhile_cons, if_neg (by rw [hb]; simp), List.reverse_cons, List.reverse_reverse]
theorem encL_cut (l : List Val) (a b : Nat) : ((encL l).take a).drop b = encL ((l.take a).drop b) := by
  rw [encL_map, encL_map, List.map_drop, List.map_take]
theorem Sl.trim_len (l : List Val) : (Sl.trim l).length ≤ l.length := by
  unfold Sl.trim
  rw [List.length_reverse]
  have h1 := (List.dropWhile_sublist Sl.isBlank (l := (l.dropWhile Sl.isBlank).reverse)).length_le
  have h2 := (List.dropWhile_sublist Sl.isBlank (l := l)).length_le
  rw [List.length_reverse] at h1
  omega
theorem Trim_den (l : List Val) (hl : l.length ≤ 100000000) : den K 13 [L (encL l)] [] = some (.ret (L (encL (Sl.trim l))) []) := by
  have h2 := trim2_loop l hl l 0 rfl (Nat.zero_le _)
  unfold tlp2 at h2
  conv at h2 in loopAt _ _ => whnf
  obtain ⟨o, S, w, rfl, hn, j, hj, hjd, s0, s3, s4⟩ := h2
  have h4 := trim4_loop l hl j (l.length - j) l.length (by omega) (Nat.le_refl _)
  unfold tlp4 at h4
  conv at h4 in loopAt _ _ => whnf
  obtain ⟨o', S', w', rfl, hn', e, he1, he2, hed, s0', s3', s4'⟩ := h4
  have hres : (l.take e).drop j = Sl.trim l := by
    rw [hed, List.take_length, hjd]; rfl
  have hlen : (Sl.trim l).length < appLim := by
    have : (Sl.trim l).length ≤ l.length := by rw [← hres, List.length_drop, List.length_take]; omega
    unfold appLim; omega
  have hlv := lens_valsK l
  have hlv2 := lens_valsK (Sl.trim l)
  have hb1 : ((0 : Int) ≤ (e : Int) ∧ (e : Int) ≤ (l.length : Int)) = True := by rw [eq_iff_iff]; simp; omega
  have hb2 : ((0 : Int) ≤ (j : Int) ∧ (j : Int) ≤ (e : Int)) = True := by rw [eq_iff_iff]; simp; omega
  refine den_run rfl rfl Tryz.func13 rfl Tryz.ntmps13 ⟨by simp, by simp [LK]⟩ ?_
  have hr : Tryz.f13.results = #[.tmp 2] := rfl
  simp only [go_sem, Nat.reduceLT, reduceIte, reduceCtorEq, Nat.reduceEqDiff, apply_ite (Option.map (outOf _)), Nat.reduceBEq, Nat.reduceAdd, Nat.reduceSub, Nat.reduceLeDiff, Nat.reduceMul, ev_len_sl ty_descOf_22, ev_indexAddr ty_descOf_22, ty_szOf_47, ty_shapeT_47, good_31, ev_buildSlice (len := 0) ty_descOf_22 ty_szOf_47 ty_zeroCells_47 ⟨rfl, by decide, by decide⟩, ev_slice_sl ty_descOf_22 ty_szOf_47, ev_append ty_appInfo_22, ev_appNew_sl ty_descOf_22, keep_13_2, keep_13_4, encL_len]
  rw [exL_head]
  simp only [go_sem, Nat.reduceLT, reduceIte, reduceCtorEq, Nat.reduceEqDiff, apply_ite (Option.map (outOf _)), Nat.reduceBEq, Nat.reduceAdd, Nat.reduceSub, Nat.reduceLeDiff, Nat.reduceMul, ev_len_sl ty_descOf_22, ev_indexAddr ty_descOf_22, ty_szOf_47, ty_shapeT_47, good_31, ev_buildSlice (len := 0) ty_descOf_22 ty_szOf_47 ty_zeroCells_47 ⟨rfl, by decide, by decide⟩, ev_slice_sl ty_descOf_22 ty_szOf_47, ev_append ty_appInfo_22, ev_appNew_sl ty_descOf_22, keep_13_2, keep_13_4]
  erw [w]
  simp only [go_sem, Nat.reduceLT, reduceIte, reduceCtorEq, Nat.reduceEqDiff, apply_ite (Option.map (outOf _)), Nat.reduceBEq, Nat.reduceAdd, Nat.reduceSub, Nat.reduceLeDiff, Nat.reduceMul, ev_len_sl ty_descOf_22, ev_indexAddr ty_descOf_22, ty_szOf_47, ty_shapeT_47, good_31, ev_buildSlice (len := 0) ty_descOf_22 ty_szOf_47 ty_zeroCells_47 ⟨rfl, by decide, by decide⟩, ev_slice_sl ty_descOf_22 ty_szOf_47, ev_append ty_appInfo_22, ev_appNew_sl ty_descOf_22, keep_13_2, keep_13_4, hn, s0, s3, s4]
  rw [exL_head]
  simp only [go_sem, Nat.reduceLT, reduceIte, reduceCtorEq, Nat.reduceEqDiff, apply_ite (Option.map (outOf _)), Nat.reduceBEq, Nat.reduceAdd, Nat.reduceSub, Nat.reduceLeDiff, Nat.reduceMul, ev_len_sl ty_descOf_22, ev_indexAddr ty_descOf_22, ty_szOf_47, ty_shapeT_47, good_31, ev_buildSlice (len := 0) ty_descOf_22 ty_szOf_47 ty_zeroCells_47 ⟨rfl, by decide, by decide⟩, ev_slice_sl ty_descOf_22 ty_szOf_47, ev_append ty_appInfo_22, ev_appNew_sl ty_descOf_22, keep_13_2, keep_13_4, hn, s0, s3, s4]
  erw [w']
  simp only [go_sem, Nat.reduceLT, reduceIte, reduceCtorEq, Nat.reduceEqDiff, apply_ite (Option.map (outOf _)), Nat.reduceBEq, Nat.reduceAdd, Nat.reduceSub, Nat.reduceLeDiff, Nat.reduceMul, ev_len_sl ty_descOf_22, ev_indexAddr ty_descOf_22, ty_szOf_47, ty_shapeT_47, good_31, ev_buildSlice (len := 0) ty_descOf_22 ty_szOf_47 ty_zeroCells_47 ⟨rfl, by decide, by decide⟩, ev_slice_sl ty_descOf_22 ty_szOf_47, ev_append ty_appInfo_22, ev_appNew_sl ty_descOf_22, keep_13_2, keep_13_4, hr, hn', s0', s3', s4', encL_len, hb1, hb2, Int.toNat_natCast, encL_cut, hres, hlen, hlv, hlv2, lens_nil]
abbrev encP (l : List (List Val)) : List (List PV) := l.map fun p => [.sl (encL p)]
theorem lens_parts (l : List (List Val)) : lens 1 (encP l) = true := by simp [lens]
theorem lens_part (x : PV) : lens 1 [[x]] = true := rfl
theorem snoc_part (out : List (List Val)) (p : List Val) : encP out ++ [[.sl (encL p)]] = encP (out ++ [p]) := by simp [encP]
theorem snoc_v (acc : List Val) (k : Int) (t : Tok) (vs : List Val) : encL acc ++ [[.int .i64 k, .int .i64 t.kind, .str t.text, .int .i64 t.n, .sl (encL vs)]] = encL (acc ++ [.mk k t vs]) := by
  rw [encL_app]; rfl
abbrev atH (s : List UInt8) (l : List Val) (i e e' : Nat) (out : List (List Val)) (part : List Val) : St :=
  { sl := upd (upd (upd (upd (upd bot 7 (I i)) 6 (.c (.own e' (encL part)))) 5 (.c (.own e (encP out)))) 1 (T s)) 0 (L (encL l)), bx := nobox, nt := 38 }
noncomputable def atlp : Code := .loop (loopAt Tryz.f10 4)
theorem at_yes (s : List UInt8) (l : List Val) (i e e' : Nat) (out : List (List Val)) (part : List Val) (hl : l.length ≤ 100000000) (ho : out.length ≤ 100000000) (he : e = 22 ∨ out = []) (v : Val) (hi : l[i]? = some v) (hb : Sl.isSign s v = true) :
    exL K 10 atlp (atH s l i e e' out part) = exL K 10 atlp (atH s l (i + 1) 22 47 (out ++ [part]) []) := by
  obtain ⟨k, t, c⟩ := v
  have hil : i < l.length := (List.getElem?_eq_some_iff.1 hi).1
  have hlt : decide ((i : Int) < (l.length : Int)) = true := decide_eq_true (by omega)
  have hget := val_at l i k t c hi
  have hw : IntKind.i64.wrap ((i : Int) + 1) = ((i + 1 : Nat) : Int) := wrap_nat i (by omega)
  have hd := sign3_den k t c s
  rw [hb] at hd
  have hown : e = 22 ∨ (encP out).isEmpty = true := by
    rcases he with rfl | rfl
    · exact .inl rfl
    · exact .inr rfl
  have hlim : out.length + 1 < appLim := by unfold appLim; omega
  have hlv := lens_parts out
  have e0 : encL [] = [] := rfl
  unfold atlp
  conv in loopAt _ _ => whnf
  conv in loopAt _ _ => whnf
  conv in exL _ _ _ (atH s l i e e' out part) => rw [exL_loop]
  simp only [go_sem, Nat.reduceLT, reduceIte, reduceCtorEq, Nat.reduceEqDiff, apply_ite (Option.map (outOf _)), Nat.reduceBEq, Nat.reduceAdd, Nat.reduceSub, Nat.reduceLeDiff, Nat.reduceMul, ev_buildSlice (len := 0) ty_descOf_28 ty_szOf_22 ty_zeroCells_22 ⟨rfl, by decide, by decide⟩, ev_buildSlice (len := 0) ty_descOf_22 ty_szOf_47 ty_zeroCells_47 ⟨rfl, by decide, by decide⟩, ev_len_sl ty_descOf_22, ev_indexAddr ty_descOf_22, ty_szOf_47, ty_shapeT_47, good_28, ev_buildSlice (len := 1) ty_descOf_28 ty_szOf_22 ty_zeroCells_22 ⟨rfl, by decide, by decide⟩, ev_append ty_appInfo_28, ev_appNew_sl ty_descOf_28, ev_buildSlice (len := 1) ty_descOf_22 ty_szOf_47 ty_zeroCells_47 ⟨rfl, by decide, by decide⟩, ev_append ty_appInfo_22, ev_appNew_sl ty_descOf_22, keep_10_4, encL_len, hlt, hget, Int.natCast_nonneg, hw, hd, hown, hlim, hlv, lens_part, snoc_part]
  rw [exL_head]
  simp only [go_sem, Nat.reduceLT, reduceIte, reduceCtorEq, Nat.reduceEqDiff, apply_ite (Option.map (outOf _)), Nat.reduceBEq, Nat.reduceAdd, Nat.reduceSub, Nat.reduceLeDiff, Nat.reduceMul, ev_buildSlice (len := 0) ty_descOf_28 ty_szOf_22 ty_zeroCells_22 ⟨rfl, by decide, by decide⟩, ev_buildSlice (len := 0) ty_descOf_22 ty_szOf_47 ty_zeroCells_47 ⟨rfl, by decide, by decide⟩, ev_len_sl ty_descOf_22, ev_indexAddr ty_descOf_22, ty_szOf_47, ty_shapeT_47, good_28, ev_buildSlice (len := 1) ty_descOf_28 ty_szOf_22 ty_zeroCells_22 ⟨rfl, by decide, by decide⟩, ev_append ty_appInfo_28, ev_appNew_sl ty_descOf_28, ev_buildSlice (len := 1) ty_descOf_22 ty_szOf_47 ty_zeroCells_47 ⟨rfl, by decide, by decide⟩, ev_append ty_appInfo_22, ev_appNew_sl ty_descOf_22, keep_10_4]
  rfl
theorem at_no (s : List UInt8) (l : List Val) (i e e' : Nat) (out : List (List Val)) (part : List Val) (hl : l.length ≤ 100000000) (ho : part.length ≤ 100000000) (he : e' = 47 ∨ part = []) (v : Val) (hi : l[i]? = some v) (hb : Sl.isSign s v = false) :
    exL K 10 atlp (atH s l i e e' out part) = exL K 10 atlp (atH s l (i + 1) e 47 out (part ++ [v])) := by
  obtain ⟨k, t, c⟩ := v
  have hil : i < l.length := (List.getElem?_eq_some_iff.1 hi).1
  have hlt : decide ((i : Int) < (l.length : Int)) = true := decide_eq_true (by omega)
  have hget := val_at l i k t c hi
  have hw : IntKind.i64.wrap ((i : Int) + 1) = ((i + 1 : Nat) : Int) := wrap_nat i (by omega)
  have hd := sign3_den k t c s
  rw [hb] at hd
  have hown : e' = 47 ∨ (encL part).isEmpty = true := by
    rcases he with rfl | rfl
    · exact .inl rfl
    · exact .inr rfl
  have hlim : part.length + 1 < appLim := by unfold appLim; omega
  have hlv := lens_valsK part
  unfold atlp
  conv in loopAt _ _ => whnf
  conv in loopAt _ _ => whnf
  conv in exL _ _ _ (atH s l i e e' out part) => rw [exL_loop]
  simp only [go_sem, Nat.reduceLT, reduceIte, reduceCtorEq, Nat.reduceEqDiff, apply_ite (Option.map (outOf _)), Nat.reduceBEq, Nat.reduceAdd, Nat.reduceSub, Nat.reduceLeDiff, Nat.reduceMul, ev_buildSlice (len := 0) ty_descOf_28 ty_szOf_22 ty_zeroCells_22 ⟨rfl, by decide, by decide⟩, ev_buildSlice (len := 0) ty_descOf_22 ty_szOf_47 ty_zeroCells_47 ⟨rfl, by decide, by decide⟩, ev_len_sl ty_descOf_22, ev_indexAddr ty_descOf_22, ty_szOf_47, ty_shapeT_47, good_28, ev_buildSlice (len := 1) ty_descOf_28 ty_szOf_22 ty_zeroCells_22 ⟨rfl, by decide, by decide⟩, ev_append ty_appInfo_28, ev_appNew_sl ty_descOf_28, ev_buildSlice (len := 1) ty_descOf_22 ty_szOf_47 ty_zeroCells_47 ⟨rfl, by decide, by decide⟩, ev_append ty_appInfo_22, ev_appNew_sl ty_descOf_22, keep_10_4, encL_len, hlt, hget, Int.natCast_nonneg, hw, hd, hown, hlim, hlv, lens_valK, snoc_v]
  rw [exL_head]
  simp only [go_sem, Nat.reduceLT, reduceIte, reduceCtorEq, Nat.reduceEqDiff, apply_ite (Option.map (outOf _)), Nat.reduceBEq, Nat.reduceAdd, Nat.reduceSub, Nat.reduceLeDiff, Nat.reduceMul, ev_buildSlice (len := 0) ty_descOf_28 ty_szOf_22 ty_zeroCells_22 ⟨rfl, by decide, by decide⟩, ev_buildSlice (len := 0) ty_descOf_22 ty_szOf_47 ty_zeroCells_47 ⟨rfl, by decide, by decide⟩, ev_len_sl ty_descOf_22, ev_indexAddr ty_descOf_22, ty_szOf_47, ty_shapeT_47, good_28, ev_buildSlice (len := 1) ty_descOf_28 ty_szOf_22 ty_zeroCells_22 ⟨rfl, by decide, by decide⟩, ev_append ty_appInfo_28, ev_appNew_sl ty_descOf_28, ev_buildSlice (len := 1) ty_descOf_22 ty_szOf_47 ty_zeroCells_47 ⟨rfl, by decide, by decide⟩, ev_append ty_appInfo_22, ev_appNew_sl ty_descOf_22, keep_10_4]
theorem at_end (s : List UInt8) (l : List Val) (e e' : Nat) (out : List (List Val)) (part : List Val) :
    Ends (exL K 10 atlp (atH s l l.length e e' out part)) fun o S => o = .exit 0 ∧ S.nt = 38 ∧ S.sl 5 = .c (.own e (encP out)) ∧ S.sl 6 = .c (.own e' (encL part)) := by
  unfold atlp
  conv in loopAt _ _ => whnf
  rw [exL_loop]
  simp only [go_sem, Nat.reduceLT, reduceIte, reduceCtorEq, Nat.reduceEqDiff, apply_ite (Option.map (outOf _)), Nat.reduceBEq, Nat.reduceAdd, Nat.reduceSub, Nat.reduceLeDiff, Nat.reduceMul, ev_buildSlice (len := 0) ty_descOf_28 ty_szOf_22 ty_zeroCells_22 ⟨rfl, by decide, by decide⟩, ev_buildSlice (len := 0) ty_descOf_22 ty_szOf_47 ty_zeroCells_47 ⟨rfl, by decide, by decide⟩, ev_len_sl ty_descOf_22, ev_indexAddr ty_descOf_22, ty_szOf_47, ty_shapeT_47, good_28, ev_buildSlice (len := 1) ty_descOf_28 ty_szOf_22 ty_zeroCells_22 ⟨rfl, by decide, by decide⟩, ev_append ty_appInfo_28, ev_appNew_sl ty_descOf_28, ev_buildSlice (len := 1) ty_descOf_22 ty_szOf_47 ty_zeroCells_47 ⟨rfl, by decide, by decide⟩, ev_append ty_appInfo_22, ev_appNew_sl ty_descOf_22, keep_10_4, encL_len, ends_some]
def atF (s : List UInt8) (part : List Val) : List Val → List (List Val)
  | [] => [part]
  | v :: l => if Sl.isSign s v then part :: atF s [] l else atF s (part ++ [v]) l
theorem atF_eq (s : List UInt8) : ∀ (l part : List Val), ∃ p ps, Sl.at_ s l = p :: ps ∧ atF s part l = (part ++ p) :: ps
  | [], part => ⟨[], [], rfl, by simp [atF]⟩
  | v :: l, part => by
    rw [Sl.at_, atF]
    split
    · obtain ⟨p, ps, h1, h2⟩ := atF_eq s l []
      exact ⟨[], Sl.at_ s l, rfl, by rw [h1, h2]; simp⟩
    · obtain ⟨p, ps, h1, h2⟩ := atF_eq s l (part ++ [v])
      rw [h1]
      exact ⟨v :: p, ps, rfl, by rw [h2]; simp⟩
theorem atF_at (s : List UInt8) (l : List Val) : atF s [] l = Sl.at_ s l := by
  obtain ⟨p, ps, h1, h2⟩ := atF_eq s l []
  rw [h1, h2, List.nil_append]
theorem at_loop (s : List UInt8) (l : List Val) (hl : l.length ≤ 100000000) : ∀ (rest : List Val) (i e e' : Nat) (out : List (List Val)) (part : List Val), l.drop i = rest → i ≤ l.length → out.length ≤ i → part.length ≤ i → (e = 22 ∨ out = []) → (e' = 47 ∨ part = []) →
    Ends (exL K 10 atlp (atH s l i e e' out part)) fun o S => o = .exit 0 ∧ S.nt = 38 ∧ ∃ (f f' : Nat) (out' : List (List Val)) (part' : List Val), S.sl 5 = .c (.own f (encP out')) ∧ S.sl 6 = .c (.own f' (encL part')) ∧ out' ++ [part'] = out ++ atF s part rest ∧ out'.length ≤ l.length ∧ (f = 22 ∨ out' = [])
  | [], i, e, e', out, part, hd, hi, h1, h2, h3, h4 => by
    have hin : i = l.length := by
      have := List.drop_eq_nil_iff.1 hd
      omega
    subst hin
    refine ends_imp (at_end s l e e' out part) fun o S q => ⟨q.1, q.2.1, e, e', out, part, q.2.2.1, q.2.2.2, rfl, h1, h3⟩
  | v :: rest, i, e, e', out, part, hd, hi, h1, h2, h3, h4 => by
    obtain ⟨g1, g2, g3⟩ := drop_cons hd
    cases hb : Sl.isSign s v with
    | true =>
      rw [at_yes s l i e e' out part hl (by omega) h3 v g1 hb]
      have := at_loop s l hl rest (i + 1) 22 47 (out ++ [part]) [] g2 (by omega) (by rw [List.length_append, List.length_singleton]; omega) (Nat.zero_le _) (.inl rfl) (.inl rfl)
      rw [List.append_assoc, List.singleton_append] at this
      rw [atF, hb, if_pos rfl]
      exact this
    | false =>
      rw [at_no s l i e e' out part hl (by omega) h4 v g1 hb]
      have := at_loop s l hl rest (i + 1) e 47 out (part ++ [v]) g2 (by omega) (by omega) (by rw [List.length_append, List.length_singleton]; omega) h3 (.inl rfl)
      rw [atF, hb, if_neg (by simp)]
      exact this
theorem At_den (l : List Val) (s : List UInt8) (hl : l.length ≤ 100000000) : den K 10 [L (encL l), T s] [] = some (.ret (L (encP (Sl.at_ s l))) []) := by
  have h := at_loop s l hl l 0 22 47 [] [] rfl (Nat.zero_le _) (Nat.le_refl _) (Nat.le_refl _) (.inl rfl) (.inl rfl)
  unfold atlp at h
  conv at h in loopAt _ _ => whnf
  obtain ⟨o, S, w, rfl, hn, f, f', out, part, s5, s6, hp, hlen, hf⟩ := h
  rw [List.nil_append, atF_at] at hp
  rw [← hp, ← snoc_part]
  have hown : f = 22 ∨ (encP out).isEmpty = true := by
    rcases hf with rfl | rfl
    · exact .inl rfl
    · exact .inr rfl
  have hlim : out.length + 1 < appLim := by unfold appLim; omega
  have hlv := lens_parts out
  have e0 : encL [] = [] := rfl
  refine den_run rfl rfl Tryz.func10 rfl Tryz.ntmps10 ⟨by simp, by simp [LK]⟩ ?_
  have hr : Tryz.f10.results = #[.tmp 4] := rfl
  simp only [go_sem, Nat.reduceLT, reduceIte, reduceCtorEq, Nat.reduceEqDiff, apply_ite (Option.map (outOf _)), Nat.reduceBEq, Nat.reduceAdd, Nat.reduceSub, Nat.reduceLeDiff, Nat.reduceMul, ev_buildSlice (len := 0) ty_descOf_28 ty_szOf_22 ty_zeroCells_22 ⟨rfl, by decide, by decide⟩, ev_buildSlice (len := 0) ty_descOf_22 ty_szOf_47 ty_zeroCells_47 ⟨rfl, by decide, by decide⟩, ev_len_sl ty_descOf_22, ev_indexAddr ty_descOf_22, ty_szOf_47, ty_shapeT_47, good_28, ev_buildSlice (len := 1) ty_descOf_28 ty_szOf_22 ty_zeroCells_22 ⟨rfl, by decide, by decide⟩, ev_append ty_appInfo_28, ev_appNew_sl ty_descOf_28, ev_buildSlice (len := 1) ty_descOf_22 ty_szOf_47 ty_zeroCells_47 ⟨rfl, by decide, by decide⟩, ev_append ty_appInfo_22, ev_appNew_sl ty_descOf_22, keep_10_4, encL_len]
  rw [exL_head]
  simp only [go_sem, Nat.reduceLT, reduceIte, reduceCtorEq, Nat.reduceEqDiff, apply_ite (Option.map (outOf _)), Nat.reduceBEq, Nat.reduceAdd, Nat.reduceSub, Nat.reduceLeDiff, Nat.reduceMul, ev_buildSlice (len := 0) ty_descOf_28 ty_szOf_22 ty_zeroCells_22 ⟨rfl, by decide, by decide⟩, ev_buildSlice (len := 0) ty_descOf_22 ty_szOf_47 ty_zeroCells_47 ⟨rfl, by decide, by decide⟩, ev_len_sl ty_descOf_22, ev_indexAddr ty_descOf_22, ty_szOf_47, ty_shapeT_47, good_28, ev_buildSlice (len := 1) ty_descOf_28 ty_szOf_22 ty_zeroCells_22 ⟨rfl, by decide, by decide⟩, ev_append ty_appInfo_28, ev_appNew_sl ty_descOf_28, ev_buildSlice (len := 1) ty_descOf_22 ty_szOf_47 ty_zeroCells_47 ⟨rfl, by decide, by decide⟩, ev_append ty_appInfo_22, ev_appNew_sl ty_descOf_22, keep_10_4]
  erw [w]
  simp only [go_sem, Nat.reduceLT, reduceIte, reduceCtorEq, Nat.reduceEqDiff, apply_ite (Option.map (outOf _)), Nat.reduceBEq, Nat.reduceAdd, Nat.reduceSub, Nat.reduceLeDiff, Nat.reduceMul, ev_buildSlice (len := 0) ty_descOf_28 ty_szOf_22 ty_zeroCells_22 ⟨rfl, by decide, by decide⟩, ev_buildSlice (len := 0) ty_descOf_22 ty_szOf_47 ty_zeroCells_47 ⟨rfl, by decide, by decide⟩, ev_len_sl ty_descOf_22, ev_indexAddr ty_descOf_22, ty_szOf_47, ty_shapeT_47, good_28, ev_buildSlice (len := 1) ty_descOf_28 ty_szOf_22 ty_zeroCells_22 ⟨rfl, by decide, by decide⟩, ev_append ty_appInfo_28, ev_appNew_sl ty_descOf_28, ev_buildSlice (len := 1) ty_descOf_22 ty_szOf_47 ty_zeroCells_47 ⟨rfl, by decide, by decide⟩, ev_append ty_appInfo_22, ev_appNew_sl ty_descOf_22, keep_10_4, hr, hn, s5, s6, hown, hlim, hlv, lens_part]
end Go.Abs
namespace Go.Abs.Sl
def cut (p : Val → Bool) : List Val → List (List Val)
  | [] => [[]]
  | v :: l => if p v then [] :: cut p l else match cut p l with
    | [] => [[v]]
    | q :: qs => (v :: q) :: qs
theorem cut_ne (p : Val → Bool) (l : List Val) : ∃ q qs, cut p l = q :: qs := by
  cases l with
  | nil => exact ⟨_, _, rfl⟩
  | cons v l =>
    rw [cut]
    split
    · exact ⟨_, _, rfl⟩
    · split
      · exact ⟨_, _, rfl⟩
      · exact ⟨_, _, rfl⟩
theorem cut_yes {p : Val → Bool} {v : Val} (h : p v = true) (l : List Val) : cut p (v :: l) = [] :: cut p l := by rw [cut, if_pos h]
theorem cut_no {p : Val → Bool} {v : Val} (h : p v = false) {l q : List Val} {qs : List (List Val)} (e : cut p l = q :: qs) : cut p (v :: l) = (v :: q) :: qs := by
  rw [cut, if_neg (by rw [h]; simp), e]
def fulls (ss : List (List Val)) : List (List Val) := ss.filter fun s => !s.isEmpty
def words (l : List Val) : List (List Val) := fulls (cut isBlank l)
theorem cut_snoc {p : Val → Bool} {v : Val} (h : p v = true) : ∀ l : List Val, cut p (l ++ [v]) = cut p l ++ [[]]
  | [] => by rw [List.nil_append, cut_yes h]; rfl
  | x :: l => by
    rw [List.cons_append]
    cases hx : p x with
    | true => rw [cut_yes hx, cut_yes hx, cut_snoc h l]; rfl
    | false =>
      obtain ⟨q, qs, e⟩ := cut_ne p l
      rw [cut_no hx e, cut_no hx (l := l ++ [v]) (q := q) (qs := qs ++ [[]]) (by rw [cut_snoc h l, e]; rfl)]
      rfl
theorem cut_length (p : Val → Bool) : ∀ l : List Val, (cut p l).length ≤ l.length + 1
  | [] => Nat.le_refl _
  | v :: l => by
    have h := cut_length p l
    obtain ⟨q, qs, e⟩ := cut_ne p l
    cases hv : p v with
    | true => rw [cut_yes hv, List.length_cons, List.length_cons]; omega
    | false =>
      rw [cut_no hv e, List.length_cons, List.length_cons]
      rw [e, List.length_cons] at h
      omega
theorem words_length (l : List Val) : (words l).length ≤ l.length + 1 := Nat.le_trans (List.length_filter_le _ _) (cut_length _ l)
def wordsF (part : List Val) : List Val → List (List Val)
  | [] => if part.isEmpty then [] else [part]
  | v :: l => if isBlank v then (if part.isEmpty then [] else [part]) ++ wordsF [] l else wordsF (part ++ [v]) l
theorem wordsF_eq : ∀ (l part q : List Val) (qs : List (List Val)), cut isBlank l = q :: qs → wordsF part l = fulls ((part ++ q) :: qs)
  | [], part, q, qs, h => by
    rw [cut] at h
    cases h
    rw [wordsF, List.append_nil]
    cases part <;> rfl
  | v :: l, part, q, qs, h => by
    obtain ⟨r, rs, e⟩ := cut_ne isBlank l
    rw [wordsF]
    cases hv : isBlank v with
    | true =>
      rw [cut_yes hv] at h
      cases h
      have ih := wordsF_eq l [] r rs e
      rw [List.nil_append] at ih
      rw [if_pos rfl, ih, List.append_nil, e]
      cases part <;> rfl
    | false =>
      rw [cut_no hv e] at h
      injection h with h1 h2
      subst h1
      subst h2
      rw [if_neg (by simp), wordsF_eq l (part ++ [v]) r rs e, List.append_assoc, List.singleton_append]
theorem wordsF_words (l : List Val) : wordsF [] l = words l := by
  obtain ⟨q, qs, e⟩ := cut_ne isBlank l
  rw [wordsF_eq l [] q qs e, List.nil_append]
  unfold words
  rw [e]
theorem drop_head : ∀ l : List Val, ∀ v r, l.dropWhile isBlank = v :: r → isBlank v = false
  | [], v, r, h => by cases h
  | x :: l, v, r, h => by
    rw [List.dropWhile_cons] at h
    split at h
    · exact drop_head l v r h
    · rename_i hx
      cases h
      simpa using hx
theorem trim_head {l r : List Val} {v : Val} (h : trim l = v :: r) : isBlank v = false := by
  unfold trim at h
  obtain ⟨pre, hp⟩ := List.dropWhile_suffix isBlank (l := (l.dropWhile isBlank).reverse)
  have h2 : l.dropWhile isBlank = trim l ++ pre.reverse := by
    have := congrArg List.reverse hp
    rw [List.reverse_append, List.reverse_reverse] at this
    exact this.symm
  unfold trim at h2
  rw [h] at h2
  exact drop_head l v _ h2
theorem trim_last {l r : List Val} {v : Val} (h : trim l = r ++ [v]) : isBlank v = false := by
  unfold trim at h
  have h2 := congrArg List.reverse h
  rw [List.reverse_reverse, List.reverse_append, List.reverse_singleton, List.singleton_append] at h2
  exact drop_head _ v _ h2
theorem trim_of {l : List Val} (h1 : ∀ v r, l = v :: r → isBlank v = false) (h2 : ∀ v r, l = r ++ [v] → isBlank v = false) : trim l = l := by
  have e1 : l.dropWhile isBlank = l := by
    cases l with
    | nil => rfl
    | cons v r => rw [List.dropWhile_cons, if_neg (by rw [h1 v r rfl]; simp)]
  have e2 : l.reverse.dropWhile isBlank = l.reverse := by
    cases hr : l.reverse with
    | nil => rfl
    | cons v r =>
      have := congrArg List.reverse hr
      rw [List.reverse_reverse, List.reverse_cons] at this
      rw [List.dropWhile_cons, if_neg (by rw [h2 v _ this]; simp)]
  unfold trim
  rw [e1, e2, List.reverse_reverse]
theorem trim_trim (l : List Val) : trim (trim l) = trim l := trim_of (fun _ _ h => trim_head h) (fun _ _ h => trim_last h)
def signV (d : List UInt8) : Val := .mk 1 ⟨7, d, 0⟩ []
def joins (d : List UInt8) (ps : List (List Val)) : List Val := ps.flatMap fun q => signV d :: q
def join (d : List UInt8) : List (List Val) → List Val
  | [] => []
  | p :: ps => p ++ joins d ps
theorem joins_nil (d : List UInt8) : joins d [] = [] := rfl
theorem joins_cons (d : List UInt8) (p : List Val) (ps : List (List Val)) : joins d (p :: ps) = signV d :: (p ++ joins d ps) := rfl
end Go.Abs.Sl
namespace Go.Abs
open Go Go.Proofs
set_option maxRecDepth 10000
attribute [local go_sem] exL_seq exL_region exL_cond exL_block exL_scope exL_ret exL_skip exL_exit runRegion runOps stepOp guardA absOp takeOver opd avOf cvOf St.degAt St.put okPV okVal okAV absBin intBin strBin boolBin setBoxes if_true Bool.false_eq_true if_false Option.map_some Option.map_none Option.bind_some Option.bind_none thenO outOf upd List.toList_toArray isOwn steal appArgs inApps AV.deg CV.deg AV.gv AV.isIter absNext some_bne List.length_nil List.length_cons List.filterMap_cons List.filterMap_nil beq_iff_eq List.getElem?_cons_zero List.getElem?_cons_succ Option.getD_some K_hook hookB Bool.false_and Bool.and_false Bool.and_self K_P K_own absCall doCall getBoxes lend back idx dedup AV.ren CV.ren TV.ren AV.ptrs CV.ptrs zipBox AV.flat CV.flat absLoad absStore cellsOfAV setAt newBox markB bldTypes absFieldAddr absField absExtract absAssert noAssert absMkIface ifcOf CV.pv? content pushHead ownT fillCells reps pvs chunks enterSt leave resOf resVars resVar outBoxes lentOnly TV.deg TV.av LK CV.plain CV.noBld nilBin absUn bound List.map_cons List.map_nil List.all_cons List.all_nil List.any_cons List.any_nil List.contains_cons List.contains_nil List.elem_cons List.elem_nil List.cons_append List.nil_append List.append_nil List.flatMap_cons List.flatMap_nil List.zip_cons_cons List.zip_nil_left List.zip_nil_right List.take_succ_cons List.take_zero List.take_nil List.drop_succ_cons List.drop_zero List.drop_nil List.isEmpty_nil List.isEmpty_cons Bool.and_true Bool.true_and Bool.or_true Bool.true_or Bool.or_false Bool.false_or Bool.not_true Bool.not_false Nat.add_zero Nat.zero_add Option.isNone_none Option.isNone_some Option.getD_none true_and and_true not_true_eq_false not_false_eq_true decide_true decide_false Nat.le_refl and_self Bool.not_eq_true Nat.sub_self or_true true_or Option.some.injEq List.length_map List.nil_eq and_false false_and AV.live CV.live CV.liveIn K_keep firstReg Option.orElse_some Option.orElse_none head keepSlots keepBoxes Int.lt_irrefl List.length_append ite_self memOK logOps opKey lentBoxes Key.clash Key.sees Key.writes Nat.lt_irrefl gt_iff_lt nobox_at bot_at false_or or_false beq_self_eq_true Bool.true_beq Bool.false_beq
theorem blank3_den (k : Int) (t : Tok) (l : List Val) : den K 29 [.agg (valCv k t l)] [] = some (.ret (B (Sl.isBlank (.mk k t l))) []) := by
  refine den_run rfl rfl Tryz.func29 rfl Tryz.ntmps29 ⟨by simp, by simp [LK]⟩ ?_
  have hr : Tryz.f29.results = #[.tmp 2] := rfl
  have hs : Sl.isBlank (.mk k t l) = ((k == 1) && (t.kind == 8)) := rfl
  rw [hs]
  cases e1 : (k == 1)
  · simp only [go_sem, Nat.reduceLT, reduceIte, reduceCtorEq, Nat.reduceEqDiff, apply_ite (Option.map (outOf _)), Nat.reduceBEq, Nat.reduceAdd, Nat.reduceSub, Nat.reduceLeDiff, Nat.reduceMul, ty_fieldOff_47_0, ty_szOf_3, ty_shapeT_3, ty_fieldOff_47_1, ty_szOf_45, ty_fieldOff_45_0, hr, e1]
  · simp only [go_sem, Nat.reduceLT, reduceIte, reduceCtorEq, Nat.reduceEqDiff, apply_ite (Option.map (outOf _)), Nat.reduceBEq, Nat.reduceAdd, Nat.reduceSub, Nat.reduceLeDiff, Nat.reduceMul, ty_fieldOff_47_0, ty_szOf_3, ty_shapeT_3, ty_fieldOff_47_1, ty_szOf_45, ty_fieldOff_45_0, hr, e1]
theorem signS_den (s : List UInt8) : den K 35 [T s] [] = some (.ret (.agg [.pv (.int .i64 7), .pv (.str s), .pv (.int .i64 0)]) []) := by
  refine den_run rfl rfl Tryz.func35 rfl Tryz.ntmps35 ⟨by simp, by simp [LK]⟩ ?_
  have hr : Tryz.f35.results = #[.cell 2 45] := rfl
  simp only [go_sem, Nat.reduceLT, reduceIte, reduceCtorEq, Nat.reduceEqDiff, apply_ite (Option.map (outOf _)), Nat.reduceBEq, Nat.reduceAdd, Nat.reduceSub, Nat.reduceLeDiff, Nat.reduceMul, ty_shapeT_45, ty_zeroCells_45, ev_build ty_zeroCells_45 ty_placesOf_45, ty_szOf_45, hr]
abbrev trH (l : List Val) : St := { sl := upd bot 0 (L (encL l)), bx := nobox, nt := 33 }
noncomputable def trlp1 : Code := .loop (loopAt Tryz.f12 1)
noncomputable def trlp3 : Code := .loop (loopAt Tryz.f12 3)
theorem head_val (k : Int) (t : Tok) (c r : List Val) : (encL (.mk k t c :: r))[(0 : Int).toNat]? = some [.int .i64 k, .int .i64 t.kind, .str t.text, .int .i64 t.n, .sl (encL c)] := rfl
theorem cut_head (v : Val) (r : List Val) (n : Nat) (h : n = r.length + 1) : ((encL (v :: r)).take n).drop (1 : Int).toNat = encL r := by
  subst h
  rw [encL, List.take_of_length_le (by rw [List.length_cons, encL_len]; omega)]; rfl
theorem le00 : ((0 : Int) ≤ 0) = True := by simp
theorem tr1_yes (v : Val) (r : List Val) (hl : r.length ≤ 100000000) (hb : Sl.isBlank v = true) :
    exL K 12 trlp1 (trH (v :: r)) = exL K 12 trlp1 (trH r) := by
  obtain ⟨k, t, c⟩ := v
  have hlt : decide ((0 : Int) < (((r.length + 1 : Nat)) : Int)) = true := decide_eq_true (by omega)
  have hget := head_val k t c r
  have hcut := cut_head (.mk k t c) r (r.length + 1) rfl
  have hb1 : ((0 : Int) ≤ 1 ∧ (1 : Int) ≤ ((r.length + 1 : Nat) : Int)) = True := by rw [eq_iff_iff]; simp; omega
  have hlv := lens_valsK (.mk k t c :: r)
  have hd := blank3_den k t c
  rw [hb] at hd
  unfold trlp1
  conv in loopAt _ _ => whnf
  conv in loopAt _ _ => whnf
  conv in exL _ _ _ (trH (.mk k t c :: r)) => rw [exL_loop]
  simp only [go_sem, Nat.reduceLT, reduceIte, reduceCtorEq, Nat.reduceEqDiff, apply_ite (Option.map (outOf _)), Nat.reduceBEq, Nat.reduceAdd, Nat.reduceSub, Nat.reduceLeDiff, Nat.reduceMul, ev_len_sl ty_descOf_22, ev_indexAddr ty_descOf_22, ty_szOf_47, ty_shapeT_47, good_29, ev_slice_sl ty_descOf_22 ty_szOf_47, good_30, keep_12_1, keep_12_3, encL_len, List.length_cons, hlt, hget, hd, hb1, hlv, hcut, le00]
  rw [exL_head]
  simp only [go_sem, Nat.reduceLT, reduceIte, reduceCtorEq, Nat.reduceEqDiff, apply_ite (Option.map (outOf _)), Nat.reduceBEq, Nat.reduceAdd, Nat.reduceSub, Nat.reduceLeDiff, Nat.reduceMul, ev_len_sl ty_descOf_22, ev_indexAddr ty_descOf_22, ty_szOf_47, ty_shapeT_47, good_29, ev_slice_sl ty_descOf_22 ty_szOf_47, good_30, keep_12_1, keep_12_3]
theorem tr1_no (v : Val) (r : List Val) (hl : r.length ≤ 100000000) (hb : Sl.isBlank v = false) :
    Ends (exL K 12 trlp1 (trH (v :: r))) fun o S => o = .exit 0 ∧ S.nt = 33 ∧ S.sl 0 = L (encL (v :: r)) := by
  obtain ⟨k, t, c⟩ := v
  have hlt : decide ((0 : Int) < (((r.length + 1 : Nat)) : Int)) = true := decide_eq_true (by omega)
  have hget := head_val k t c r
  have hd := blank3_den k t c
  rw [hb] at hd
  unfold trlp1
  conv in loopAt _ _ => whnf
  rw [exL_loop]
  simp only [go_sem, Nat.reduceLT, reduceIte, reduceCtorEq, Nat.reduceEqDiff, apply_ite (Option.map (outOf _)), Nat.reduceBEq, Nat.reduceAdd, Nat.reduceSub, Nat.reduceLeDiff, Nat.reduceMul, ev_len_sl ty_descOf_22, ev_indexAddr ty_descOf_22, ty_szOf_47, ty_shapeT_47, good_29, ev_slice_sl ty_descOf_22 ty_szOf_47, good_30, keep_12_1, keep_12_3, encL_len, List.length_cons, hlt, hget, hd, le00, ends_some]
theorem tr1_end : Ends (exL K 12 trlp1 (trH [])) fun o S => o = .exit 0 ∧ S.nt = 33 ∧ S.sl 0 = L (encL []) := by
  have hlt : decide ((0 : Int) < ((0 : Nat) : Int)) = false := rfl
  unfold trlp1
  conv in loopAt _ _ => whnf
  rw [exL_loop]
  simp only [go_sem, Nat.reduceLT, reduceIte, reduceCtorEq, Nat.reduceEqDiff, apply_ite (Option.map (outOf _)), Nat.reduceBEq, Nat.reduceAdd, Nat.reduceSub, Nat.reduceLeDiff, Nat.reduceMul, ev_len_sl ty_descOf_22, ev_indexAddr ty_descOf_22, ty_szOf_47, ty_shapeT_47, good_29, ev_slice_sl ty_descOf_22 ty_szOf_47, good_30, keep_12_1, keep_12_3, encL_len, List.length_nil, hlt, ends_some]
theorem tr1_loop : ∀ (l : List Val), l.length ≤ 100000000 → Ends (exL K 12 trlp1 (trH l)) fun o S => o = .exit 0 ∧ S.nt = 33 ∧ S.sl 0 = L (encL (l.dropWhile Sl.isBlank))
  | [], _ => tr1_end
  | v :: r, hl => by
    rw [List.length_cons] at hl
    cases hb : Sl.isBlank v with
    | true =>
      rw [tr1_yes v r (by omega) hb, List.dropWhile_cons, if_pos hb]
      exact tr1_loop r (by omega)
    | false =>
      rw [List.dropWhile_cons, if_neg (by rw [hb]; simp)]
      exact tr1_no v r (by omega) hb
theorem last_val (m : List Val) (k : Int) (t : Tok) (c : List Val) : (encL (m ++ [.mk k t c]))[((m.length : Nat) : Int).toNat]? = some [.int .i64 k, .int .i64 t.kind, .str t.text, .int .i64 t.n, .sl (encL c)] := by
  exact encL_get (m ++ [.mk k t c]) m.length (.mk k t c) (by simp)
theorem cut_last (m : List Val) (v : Val) : (encL (m ++ [v])).take m.length = encL m := by
  rw [encL_app, List.take_append_of_le_length (by rw [encL_len]; exact Nat.le_refl _), List.take_of_length_le (by rw [encL_len]; exact Nat.le_refl _)]
theorem tr3_yes (m : List Val) (v : Val) (hl : m.length ≤ 100000000) (hb : Sl.isBlank v = true) :
    exL K 12 trlp3 (trH (m ++ [v])) = exL K 12 trlp3 (trH m) := by
  obtain ⟨k, t, c⟩ := v
  have hn : (encL (m ++ [.mk k t c])).length = m.length + 1 := by rw [encL_len]; simp
  have hlt : decide ((0 : Int) < (((m.length + 1 : Nat)) : Int)) = true := decide_eq_true (by omega)
  have hw : IntKind.i64.wrap (((m.length + 1 : Nat) : Int) - 1) = (m.length : Int) := by rw [IntWalk.i64_in _ (by omega)]; omega
  have hget := last_val m k t c
  have hcut := cut_last m (.mk k t c)
  have hb1 : ((m.length : Int) ≤ ((m.length + 1 : Nat) : Int)) = True := by rw [eq_iff_iff]; simp; omega
  have hlv := lens_valsK (m ++ [.mk k t c])
  have hd := blank3_den k t c
  rw [hb] at hd
  rw [Int.toNat_natCast] at hget
  unfold trlp3
  conv in loopAt _ _ => whnf
  conv in loopAt _ _ => whnf
  conv in exL _ _ _ (trH (m ++ [.mk k t c])) => rw [exL_loop]
  simp only [go_sem, Nat.reduceLT, reduceIte, reduceCtorEq, Nat.reduceEqDiff, apply_ite (Option.map (outOf _)), Nat.reduceBEq, Nat.reduceAdd, Nat.reduceSub, Nat.reduceLeDiff, Nat.reduceMul, ev_len_sl ty_descOf_22, ev_indexAddr ty_descOf_22, ty_szOf_47, ty_shapeT_47, good_29, ev_slice_sl ty_descOf_22 ty_szOf_47, good_30, keep_12_1, keep_12_3, hn, hlt, hw, Int.natCast_nonneg, Int.toNat_natCast, hget, hd, hb1, hlv, hcut]
  rw [exL_head]
  simp only [go_sem, Nat.reduceLT, reduceIte, reduceCtorEq, Nat.reduceEqDiff, apply_ite (Option.map (outOf _)), Nat.reduceBEq, Nat.reduceAdd, Nat.reduceSub, Nat.reduceLeDiff, Nat.reduceMul, ev_len_sl ty_descOf_22, ev_indexAddr ty_descOf_22, ty_szOf_47, ty_shapeT_47, good_29, ev_slice_sl ty_descOf_22 ty_szOf_47, good_30, keep_12_1, keep_12_3]
theorem tr3_no (m : List Val) (v : Val) (hl : m.length ≤ 100000000) (hb : Sl.isBlank v = false) :
    Ends (exL K 12 trlp3 (trH (m ++ [v]))) fun o S => o = .exit 2 ∧ S.nt = 33 ∧ S.sl 0 = L (encL (m ++ [v])) := by
  obtain ⟨k, t, c⟩ := v
  have hn : (encL (m ++ [.mk k t c])).length = m.length + 1 := by rw [encL_len]; simp
  have hlt : decide ((0 : Int) < (((m.length + 1 : Nat)) : Int)) = true := decide_eq_true (by omega)
  have hw : IntKind.i64.wrap (((m.length + 1 : Nat) : Int) - 1) = (m.length : Int) := by rw [IntWalk.i64_in _ (by omega)]; omega
  have hget := last_val m k t c
  have hd := blank3_den k t c
  rw [hb] at hd
  rw [Int.toNat_natCast] at hget
  unfold trlp3
  conv in loopAt _ _ => whnf
  rw [exL_loop]
  simp only [go_sem, Nat.reduceLT, reduceIte, reduceCtorEq, Nat.reduceEqDiff, apply_ite (Option.map (outOf _)), Nat.reduceBEq, Nat.reduceAdd, Nat.reduceSub, Nat.reduceLeDiff, Nat.reduceMul, ev_len_sl ty_descOf_22, ev_indexAddr ty_descOf_22, ty_szOf_47, ty_shapeT_47, good_29, ev_slice_sl ty_descOf_22 ty_szOf_47, good_30, keep_12_1, keep_12_3, hn, hlt, hw, Int.natCast_nonneg, Int.toNat_natCast, hget, hd, ends_some]
theorem tr3_end : Ends (exL K 12 trlp3 (trH [])) fun o S => o = .exit 2 ∧ S.nt = 33 ∧ S.sl 0 = L (encL []) := by
  have hlt : decide ((0 : Int) < ((0 : Nat) : Int)) = false := rfl
  unfold trlp3
  conv in loopAt _ _ => whnf
  rw [exL_loop]
  simp only [go_sem, Nat.reduceLT, reduceIte, reduceCtorEq, Nat.reduceEqDiff, apply_ite (Option.map (outOf _)), Nat.reduceBEq, Nat.reduceAdd, Nat.reduceSub, Nat.reduceLeDiff, Nat.reduceMul, ev_len_sl ty_descOf_22, ev_indexAddr ty_descOf_22, ty_szOf_47, ty_shapeT_47, good_29, ev_slice_sl ty_descOf_22 ty_szOf_47, good_30, keep_12_1, keep_12_3, encL_len, List.length_nil, hlt, ends_some]
theorem tr3_loop : ∀ (n : Nat) (l : List Val), l.length = n → l.length ≤ 100000000 → Ends (exL K 12 trlp3 (trH l)) fun o S => o = .exit 2 ∧ S.nt = 33 ∧ S.sl 0 = L (encL (l.reverse.dropWhile Sl.isBlank).reverse)
  | 0, l, h, _ => by
    obtain rfl : l = [] := List.eq_nil_of_length_eq_zero h
    exact tr3_end
  | n + 1, l, h, hl => by
    obtain ⟨m, v, rfl⟩ : ∃ m v, l = m ++ [v] := ⟨l.dropLast, l.getLast (fun e => by rw [e] at h; simp at h), (List.dropLast_concat_getLast _).symm⟩
    rw [List.length_append, List.length_singleton] at h hl
    rw [List.reverse_append, List.reverse_singleton, List.singleton_append]
    cases hb : Sl.isBlank v with
    | true =>
      rw [tr3_yes m v (by omega) hb, List.dropWhile_cons, if_pos hb]
      exact tr3_loop n m (by omega) (by omega)
    | false =>
      rw [List.dropWhile_cons, if_neg (by rw [hb]; simp), List.reverse_cons, List.reverse_reverse]
      exact tr3_no m v (by omega) hb
theorem Clone_den (l : List Val) (hl : l.length ≤ 1000000000) : den K 30 [L (encL l)] [] = some (.ret (L (encL l)) []) := by
  refine prim_run (F := pClone) rfl ?_
  show (if (encL l).length ≤ 1000000000 ∧ (encL l).all (fun el => el.length == 5) then _ else none) = _
  have h2 : (encL l).all (fun el => el.length == 5) = true := lens_valsK l
  rw [if_pos ⟨by rw [encL_len]; exact hl, h2⟩]
theorem TrimS_den (l : List Val) (hl : l.length ≤ 100000000) : den K 12 [L (encL l)] [] = some (.ret (L (encL (Sl.trim l))) []) := by
  have h1 := tr1_loop l hl
  have hlen := (List.dropWhile_sublist Sl.isBlank (l := l)).length_le
  have h3 := tr3_loop _ (l.dropWhile Sl.isBlank) rfl (by omega)
  unfold trlp1 at h1
  conv at h1 in loopAt _ _ => whnf
  obtain ⟨o, S, w, rfl, hn, s0⟩ := h1
  unfold trlp3 at h3
  conv at h3 in loopAt _ _ => whnf
  obtain ⟨o', S', w', rfl, hn', s0'⟩ := h3
  have hc := Clone_den (Sl.trim l) (by have := Sl.trim_len l; omega)
  have e : (((l.dropWhile Sl.isBlank).reverse).dropWhile Sl.isBlank).reverse = Sl.trim l := rfl
  rw [e] at s0'
  refine den_run rfl rfl Tryz.func12 rfl Tryz.ntmps12 ⟨by simp, by simp [LK]⟩ ?_
  have hr : Tryz.f12.results = #[.tmp 2] := rfl
  simp only [go_sem, Nat.reduceLT, reduceIte, reduceCtorEq, Nat.reduceEqDiff, apply_ite (Option.map (outOf _)), Nat.reduceBEq, Nat.reduceAdd, Nat.reduceSub, Nat.reduceLeDiff, Nat.reduceMul, ev_len_sl ty_descOf_22, ev_indexAddr ty_descOf_22, ty_szOf_47, ty_shapeT_47, good_29, ev_slice_sl ty_descOf_22 ty_szOf_47, good_30, keep_12_1, keep_12_3]
  rw [exL_head]
  simp only [go_sem, Nat.reduceLT, reduceIte, reduceCtorEq, Nat.reduceEqDiff, apply_ite (Option.map (outOf _)), Nat.reduceBEq, Nat.reduceAdd, Nat.reduceSub, Nat.reduceLeDiff, Nat.reduceMul, ev_len_sl ty_descOf_22, ev_indexAddr ty_descOf_22, ty_szOf_47, ty_shapeT_47, good_29, ev_slice_sl ty_descOf_22 ty_szOf_47, good_30, keep_12_1, keep_12_3]
  erw [w]
  simp only [go_sem, Nat.reduceLT, reduceIte, reduceCtorEq, Nat.reduceEqDiff, apply_ite (Option.map (outOf _)), Nat.reduceBEq, Nat.reduceAdd, Nat.reduceSub, Nat.reduceLeDiff, Nat.reduceMul, ev_len_sl ty_descOf_22, ev_indexAddr ty_descOf_22, ty_szOf_47, ty_shapeT_47, good_29, ev_slice_sl ty_descOf_22 ty_szOf_47, good_30, keep_12_1, keep_12_3, hn, s0]
  rw [exL_head]
  simp only [go_sem, Nat.reduceLT, reduceIte, reduceCtorEq, Nat.reduceEqDiff, apply_ite (Option.map (outOf _)), Nat.reduceBEq, Nat.reduceAdd, Nat.reduceSub, Nat.reduceLeDiff, Nat.reduceMul, ev_len_sl ty_descOf_22, ev_indexAddr ty_descOf_22, ty_szOf_47, ty_shapeT_47, good_29, ev_slice_sl ty_descOf_22 ty_szOf_47, good_30, keep_12_1, keep_12_3, hn, s0]
  erw [w']
  simp only [go_sem, Nat.reduceLT, reduceIte, reduceCtorEq, Nat.reduceEqDiff, apply_ite (Option.map (outOf _)), Nat.reduceBEq, Nat.reduceAdd, Nat.reduceSub, Nat.reduceLeDiff, Nat.reduceMul, ev_len_sl ty_descOf_22, ev_indexAddr ty_descOf_22, ty_szOf_47, ty_shapeT_47, good_29, ev_slice_sl ty_descOf_22 ty_szOf_47, good_30, keep_12_1, keep_12_3, hr, hn', s0', hc]
theorem isSign_eq (s : List UInt8) : SR.isSign s = Sl.isSign s := by funext v; cases v; rfl
theorem isBlank_eq : SR.isBlank = Sl.isBlank := by funext v; cases v; rfl
theorem cutL_cut (p : Val → Bool) : ∀ l : List Val, cutL p l = Sl.cut p l
  | [] => rfl
  | v :: l => by
    rw [cutL, Sl.cut, cutL_cut p l]
    all_goals (cases Sl.cut p l <;> rfl)
theorem cut_at (s : List UInt8) : ∀ l : List Val, Sl.cut (Sl.isSign s) l = Sl.at_ s l
  | [] => rfl
  | v :: l => by
    rw [Sl.cut, Sl.at_, cut_at s l]
    all_goals (cases Sl.at_ s l <;> rfl)
theorem AtS_den (l : List Val) (s : List UInt8) (hl : Ne.size l ≤ 100000000) : den K 15 [L (encL l), T s] [] = some (.ret (L (encP (Sl.at_ s l))) []) := by
  refine prim_run (F := pAt) rfl ?_
  have hlen := Ne.length_size l
  show (match decVals (encL l) with | some vs => if vs.length ≤ 100000000 then some ((.c (.pv (.sl (encPP (cutL (SR.isSign s) vs)))) : AV), ([] : List (List CV))) else none | none => none) = _
  rw [dec_encL l (by omega)]
  simp only
  rw [if_pos (by omega), isSign_eq, cutL_cut, cut_at]
theorem WordsS_den (l : List Val) (hl : Ne.size l ≤ 100000000) : den K 18 [L (encL l)] [] = some (.ret (L (encP (Sl.words l))) []) := by
  refine prim_run (F := pWords) rfl ?_
  have hlen := Ne.length_size l
  show (match decVals (encL l) with | some vs => if vs.length ≤ 100000000 then some ((.c (.pv (.sl (encPP (full (cutL SR.isBlank vs))))) : AV), ([] : List (List CV))) else none | none => none) = _
  rw [dec_encL l (by omega)]
  simp only
  rw [if_pos (by omega), isBlank_eq, cutL_cut]; rfl
end Go.Abs
namespace Go.Abs
open Go Go.Proofs
set_option maxRecDepth 10000
attribute [local go_sem] exL_seq exL_region exL_cond exL_block exL_scope exL_ret exL_skip exL_exit runRegion runOps stepOp guardA absOp takeOver opd avOf cvOf St.degAt St.put okPV okVal okAV absBin intBin strBin boolBin setBoxes if_true Bool.false_eq_true if_false Option.map_some Option.map_none Option.bind_some Option.bind_none thenO outOf upd List.toList_toArray isOwn steal appArgs inApps AV.deg CV.deg AV.gv AV.isIter absNext some_bne List.length_nil List.length_cons List.filterMap_cons List.filterMap_nil beq_iff_eq List.getElem?_cons_zero List.getElem?_cons_succ Option.getD_some K_hook hookB Bool.false_and Bool.and_false Bool.and_self K_P K_own absCall doCall getBoxes lend back idx dedup AV.ren CV.ren TV.ren AV.ptrs CV.ptrs zipBox AV.flat CV.flat absLoad absStore cellsOfAV setAt newBox markB bldTypes absFieldAddr absField absExtract absAssert noAssert absMkIface ifcOf CV.pv? content pushHead ownT fillCells reps pvs chunks enterSt leave resOf resVars resVar outBoxes lentOnly TV.deg TV.av LK CV.plain CV.noBld nilBin absUn bound List.map_cons List.map_nil List.all_cons List.all_nil List.any_cons List.any_nil List.contains_cons List.contains_nil List.elem_cons List.elem_nil List.cons_append List.nil_append List.append_nil List.flatMap_cons List.flatMap_nil List.zip_cons_cons List.zip_nil_left List.zip_nil_right List.take_succ_cons List.take_zero List.take_nil List.drop_succ_cons List.drop_zero List.drop_nil List.isEmpty_nil List.isEmpty_cons Bool.and_true Bool.true_and Bool.or_true Bool.true_or Bool.or_false Bool.false_or Bool.not_true Bool.not_false Nat.add_zero Nat.zero_add Option.isNone_none Option.isNone_some Option.getD_none true_and and_true not_true_eq_false not_false_eq_true decide_true decide_false Nat.le_refl and_self Bool.not_eq_true Nat.sub_self or_true true_or Option.some.injEq List.length_map List.nil_eq and_false false_and AV.live CV.live CV.liveIn K_keep firstReg Option.orElse_some Option.orElse_none head keepSlots keepBoxes Int.lt_irrefl List.length_append ite_self memOK logOps opKey lentBoxes Key.clash Key.sees Key.writes Nat.lt_irrefl gt_iff_lt nobox_at bot_at false_or or_false beq_self_eq_true Bool.true_beq Bool.false_beq
theorem encP_len (a : List (List Val)) : (encP a).length = a.length := List.length_map ..
theorem part_at (a : List (List Val)) (i : Nat) (p : List Val) (h : a[i]? = some p) : (encP a)[(i : Int).toNat]? = some [.sl (encL p)] := by
  rw [Int.toNat_natCast, List.getElem?_map, h]; rfl
abbrev lsH (a : List (List Val)) (i : Nat) : St := { sl := upd (upd (upd bot 5 (I i)) 1 (L (encP a))) 0 (L (encP a)), bx := nobox, nt := 27 }
noncomputable def lslp : Code := .loop (loopAt Tryz.f14 4)
theorem ls_yes (a : List (List Val)) (i : Nat) (p : List Val) (ha : a.length ≤ 100000000) (hi : a[i]? = some p) (hp : Ne.size p ≤ 1000000) :
    exL K 14 lslp (lsH a i) = exL K 14 lslp (lsH a (i + 1)) := by
  have hil : i < a.length := (List.getElem?_eq_some_iff.1 hi).1
  have hlt : decide ((i : Int) < (a.length : Int)) = true := decide_eq_true (by omega)
  have hget := part_at a i p hi
  have hw : IntKind.i64.wrap ((i : Int) + 1) = ((i + 1 : Nat) : Int) := wrap_nat i (by omega)
  have hd := VSame2_den p hp p hp
  unfold VSame2Den at hd
  rw [same_refl] at hd
  unfold lslp
  conv in loopAt _ _ => whnf
  conv in loopAt _ _ => whnf
  conv in exL _ _ _ (lsH a i) => rw [exL_loop]
  simp only [go_sem, Nat.reduceLT, reduceIte, reduceCtorEq, Nat.reduceEqDiff, apply_ite (Option.map (outOf _)), Nat.reduceBEq, Nat.reduceAdd, Nat.reduceSub, Nat.reduceLeDiff, Nat.reduceMul, ev_len_sl ty_descOf_28, ev_indexAddr ty_descOf_28, ty_szOf_22, ty_shapeT_22, good_11, keep_14_4, encP_len, hlt, hget, Int.natCast_nonneg, hw, hd]
  rw [exL_head]
  simp only [go_sem, Nat.reduceLT, reduceIte, reduceCtorEq, Nat.reduceEqDiff, apply_ite (Option.map (outOf _)), Nat.reduceBEq, Nat.reduceAdd, Nat.reduceSub, Nat.reduceLeDiff, Nat.reduceMul, ev_len_sl ty_descOf_28, ev_indexAddr ty_descOf_28, ty_szOf_22, ty_shapeT_22, good_11, keep_14_4]
theorem ls_end (a : List (List Val)) : Ends (exL K 14 lslp (lsH a a.length)) fun o S => o = .exit 0 ∧ S.nt = 27 := by
  unfold lslp
  conv in loopAt _ _ => whnf
  rw [exL_loop]
  simp only [go_sem, Nat.reduceLT, reduceIte, reduceCtorEq, Nat.reduceEqDiff, apply_ite (Option.map (outOf _)), Nat.reduceBEq, Nat.reduceAdd, Nat.reduceSub, Nat.reduceLeDiff, Nat.reduceMul, ev_len_sl ty_descOf_28, ev_indexAddr ty_descOf_28, ty_szOf_22, ty_shapeT_22, good_11, keep_14_4, encP_len, ends_some]
theorem ls_loop (a : List (List Val)) (ha : a.length ≤ 100000000) (hp : ∀ p ∈ a, Ne.size p ≤ 1000000) : ∀ (rest : List (List Val)) (i : Nat), a.drop i = rest → i ≤ a.length → Ends (exL K 14 lslp (lsH a i)) fun o S => o = .exit 0 ∧ S.nt = 27
  | [], i, hd, hi => by
    have hin : i = a.length := by
      have := List.drop_eq_nil_iff.1 hd
      omega
    subst hin
    exact ls_end a
  | p :: rest, i, hd, hi => by
    obtain ⟨g1, g2, g3⟩ := drop_cons hd
    rw [ls_yes a i p ha g1 (hp p (List.mem_of_getElem? g1))]
    exact ls_loop a ha hp rest (i + 1) g2 (by omega)
theorem Lists_den (a : List (List Val)) (ha : a.length ≤ 100000000) (hp : ∀ p ∈ a, Ne.size p ≤ 1000000) : den K 14 [L (encP a), L (encP a)] [] = some (.ret (B true) []) := by
  have h := ls_loop a ha hp a 0 rfl (Nat.zero_le _)
  unfold lslp at h
  conv at h in loopAt _ _ => whnf
  obtain ⟨o, S, w, rfl, hn⟩ := h
  have hne : (((a.length : Int)) != (a.length : Int)) = false := by simp
  refine den_run rfl rfl Tryz.func14 rfl Tryz.ntmps14 ⟨by simp, by simp [LK]⟩ ?_
  have hr : Tryz.f14.results = #[.tmp 4] := rfl
  simp only [go_sem, Nat.reduceLT, reduceIte, reduceCtorEq, Nat.reduceEqDiff, apply_ite (Option.map (outOf _)), Nat.reduceBEq, Nat.reduceAdd, Nat.reduceSub, Nat.reduceLeDiff, Nat.reduceMul, ev_len_sl ty_descOf_28, ev_indexAddr ty_descOf_28, ty_szOf_22, ty_shapeT_22, good_11, keep_14_4, encP_len, hne]
  rw [exL_head]
  simp only [go_sem, Nat.reduceLT, reduceIte, reduceCtorEq, Nat.reduceEqDiff, apply_ite (Option.map (outOf _)), Nat.reduceBEq, Nat.reduceAdd, Nat.reduceSub, Nat.reduceLeDiff, Nat.reduceMul, ev_len_sl ty_descOf_28, ev_indexAddr ty_descOf_28, ty_szOf_22, ty_shapeT_22, good_11, keep_14_4]
  erw [w]
  simp only [go_sem, Nat.reduceLT, reduceIte, reduceCtorEq, Nat.reduceEqDiff, apply_ite (Option.map (outOf _)), Nat.reduceBEq, Nat.reduceAdd, Nat.reduceSub, Nat.reduceLeDiff, Nat.reduceMul, ev_len_sl ty_descOf_28, ev_indexAddr ty_descOf_28, ty_szOf_22, ty_shapeT_22, good_11, keep_14_4, hr, hn]
end Go.Abs
namespace Go.Abs
open Go Go.Proofs
set_option maxRecDepth 10000
attribute [local go_sem] exL_seq exL_region exL_cond exL_block exL_scope exL_ret exL_skip exL_exit runRegion runOps stepOp guardA absOp takeOver opd avOf cvOf St.degAt St.put okPV okVal okAV absBin intBin strBin boolBin setBoxes if_true Bool.false_eq_true if_false Option.map_some Option.map_none Option.bind_some Option.bind_none thenO outOf upd List.toList_toArray isOwn steal appArgs inApps AV.deg CV.deg AV.gv AV.isIter absNext some_bne List.length_nil List.length_cons List.filterMap_cons List.filterMap_nil beq_iff_eq List.getElem?_cons_zero List.getElem?_cons_succ Option.getD_some K_hook hookB Bool.false_and Bool.and_false Bool.and_self K_P K_own absCall doCall getBoxes lend back idx dedup AV.ren CV.ren TV.ren AV.ptrs CV.ptrs zipBox AV.flat CV.flat absLoad absStore cellsOfAV setAt newBox markB bldTypes absFieldAddr absField absExtract absAssert noAssert absMkIface ifcOf CV.pv? content pushHead ownT fillCells reps pvs chunks enterSt leave resOf resVars resVar outBoxes lentOnly TV.deg TV.av LK CV.plain CV.noBld nilBin absUn bound List.map_cons List.map_nil List.all_cons List.all_nil List.any_cons List.any_nil List.contains_cons List.contains_nil List.elem_cons List.elem_nil List.cons_append List.nil_append List.append_nil List.flatMap_cons List.flatMap_nil List.zip_cons_cons List.zip_nil_left List.zip_nil_right List.take_succ_cons List.take_zero List.take_nil List.drop_succ_cons List.drop_zero List.drop_nil List.isEmpty_nil List.isEmpty_cons Bool.and_true Bool.true_and Bool.or_true Bool.true_or Bool.or_false Bool.false_or Bool.not_true Bool.not_false Nat.add_zero Nat.zero_add Option.isNone_none Option.isNone_some Option.getD_none true_and and_true not_true_eq_false not_false_eq_true decide_true decide_false Nat.le_refl and_self Bool.not_eq_true Nat.sub_self or_true true_or Option.some.injEq List.length_map List.nil_eq and_false false_and AV.live CV.live CV.liveIn K_keep firstReg Option.orElse_some Option.orElse_none head keepSlots keepBoxes Int.lt_irrefl List.length_append ite_self memOK logOps opKey lentBoxes Key.clash Key.sees Key.writes Nat.lt_irrefl gt_iff_lt nobox_at bot_at false_or or_false beq_self_eq_true Bool.true_beq Bool.false_beq
theorem appV (a b : List Val) : encL a ++ encL b = encL (a ++ b) := (encL_app a b).symm
theorem snoc_sign (a : List Val) (d : List UInt8) : encL a ++ [[PV.int .i64 1, .int .i64 7, .str d, .int .i64 0, .sl []]] = encL (a ++ [Sl.signV d]) := by
  rw [encL_app]; rfl
abbrev sjH (d : List UInt8) (ps : List (List Val)) (e : Nat) (out : List Val) (i : Nat) : St :=
  { sl := upd (upd (upd (upd (upd bot 10 (I i)) 9 (I ps.length)) 8 (L (encP ps))) 5 (.c (.own e (encL out)))) 1 (T d), bx := nobox, nt := 28 }
noncomputable def sjlp : Code := .loop (loopAt Tryz.f16 3)
theorem sj_zero (d : List UInt8) (ps : List (List Val)) (e : Nat) (out p : List Val) (hi : ps[0]? = some p) (hl : ps.length ≤ 100000000) (ho : out.length + p.length ≤ 100000000) (he : e = 47 ∨ out = []) :
    exL K 16 sjlp (sjH d ps e out 0) = exL K 16 sjlp (sjH d ps 47 (out ++ p) 1) := by
  have hil : 0 < ps.length := (List.getElem?_eq_some_iff.1 hi).1
  have hlt : decide (((0 : Nat) : Int) < (ps.length : Int)) = true := decide_eq_true (by omega)
  have hget := part_at ps 0 p hi
  have h0 : decide ((0 : Int) < ((0 : Nat) : Int)) = false := rfl
  have hws : IntKind.i64.wrap (((0 : Nat) : Int) + 1) = ((1 : Nat) : Int) := by decide
  have hown : e = 47 ∨ (encL out).isEmpty = true := by
    rcases he with rfl | rfl
    · exact .inl rfl
    · exact .inr rfl
  have hlim : out.length + p.length < appLim := by unfold appLim; omega
  have hlv := lens_valsK out
  have hlv2 := lens_valsK p
  unfold sjlp
  conv in loopAt _ _ => whnf
  conv in loopAt _ _ => whnf
  conv in exL _ _ _ (sjH d ps e out 0) => rw [exL_loop]
  simp only [go_sem, Nat.reduceLT, reduceIte, reduceCtorEq, Nat.reduceEqDiff, apply_ite (Option.map (outOf _)), Nat.reduceBEq, Nat.reduceAdd, Nat.reduceSub, Nat.reduceLeDiff, Nat.reduceMul, ev_len_sl ty_descOf_28, ev_indexAddr ty_descOf_28, ty_szOf_22, ty_shapeT_22, good_35, ev_build ty_zeroCells_47 ty_placesOf_47, ev_buildSlice (len := 1) ty_descOf_22 ty_szOf_47 ty_zeroCells_47 ⟨rfl, by decide, by decide⟩, ev_append ty_appInfo_22, ev_appNew_sl ty_descOf_22, keep_16_3, encP_len, encL_len, hlt, hget, Int.natCast_nonneg, h0, hws, hown, hlim, hlv, hlv2, appV]
  rw [exL_head]
  simp only [go_sem, Nat.reduceLT, reduceIte, reduceCtorEq, Nat.reduceEqDiff, apply_ite (Option.map (outOf _)), Nat.reduceBEq, Nat.reduceAdd, Nat.reduceSub, Nat.reduceLeDiff, Nat.reduceMul, ev_len_sl ty_descOf_28, ev_indexAddr ty_descOf_28, ty_szOf_22, ty_shapeT_22, good_35, ev_build ty_zeroCells_47 ty_placesOf_47, ev_buildSlice (len := 1) ty_descOf_22 ty_szOf_47 ty_zeroCells_47 ⟨rfl, by decide, by decide⟩, ev_append ty_appInfo_22, ev_appNew_sl ty_descOf_22, keep_16_3]
theorem sj_pos (d : List UInt8) (ps : List (List Val)) (e : Nat) (out p : List Val) (i : Nat) (h0 : 0 < i) (hi : ps[i]? = some p) (hl : ps.length ≤ 100000000) (ho : out.length + p.length < 100000000) (he : e = 47 ∨ out = []) :
    exL K 16 sjlp (sjH d ps e out i) = exL K 16 sjlp (sjH d ps 47 (out ++ [Sl.signV d] ++ p) (i + 1)) := by
  have hil : i < ps.length := (List.getElem?_eq_some_iff.1 hi).1
  have hlt : decide ((i : Int) < (ps.length : Int)) = true := decide_eq_true (by omega)
  have hget := part_at ps i p hi
  have h0' : decide ((0 : Int) < (i : Int)) = true := decide_eq_true (by omega)
  have hws : IntKind.i64.wrap ((i : Int) + 1) = ((i + 1 : Nat) : Int) := wrap_nat i (by omega)
  have hown : e = 47 ∨ (encL out).isEmpty = true := by
    rcases he with rfl | rfl
    · exact .inl rfl
    · exact .inr rfl
  have hsl : (out ++ [Sl.signV d]).length = out.length + 1 := by simp
  have hlim : out.length + 1 < appLim := by unfold appLim; omega
  have hlim2 : (out ++ [Sl.signV d]).length + p.length < appLim := by rw [hsl]; unfold appLim; omega
  have hlv := lens_valsK out
  have hlv1 := lens_valsK (out ++ [Sl.signV d])
  have hlv2 := lens_valsK p
  have hsg := signS_den d
  generalize hO : out ++ [Sl.signV d] = O at hlim2 hlv1
  have hsn := snoc_sign out d
  rw [hO] at hsn
  unfold sjlp
  conv in loopAt _ _ => whnf
  conv in loopAt _ _ => whnf
  conv in exL _ _ _ (sjH d ps e out i) => rw [exL_loop]
  simp only [go_sem, Nat.reduceLT, reduceIte, reduceCtorEq, Nat.reduceEqDiff, apply_ite (Option.map (outOf _)), Nat.reduceBEq, Nat.reduceAdd, Nat.reduceSub, Nat.reduceLeDiff, Nat.reduceMul, ev_len_sl ty_descOf_28, ev_indexAddr ty_descOf_28, ty_szOf_22, ty_shapeT_22, good_35, ev_build ty_zeroCells_47 ty_placesOf_47, ev_buildSlice (len := 1) ty_descOf_22 ty_szOf_47 ty_zeroCells_47 ⟨rfl, by decide, by decide⟩, ev_append ty_appInfo_22, ev_appNew_sl ty_descOf_22, keep_16_3, encP_len, encL_len, hlt, hget, Int.natCast_nonneg, h0', hws, hown, hlim, hlim2, hlv, hlv1, hlv2, lens_valK, hsg, hsn, appV]
  rw [exL_head]
  simp only [go_sem, Nat.reduceLT, reduceIte, reduceCtorEq, Nat.reduceEqDiff, apply_ite (Option.map (outOf _)), Nat.reduceBEq, Nat.reduceAdd, Nat.reduceSub, Nat.reduceLeDiff, Nat.reduceMul, ev_len_sl ty_descOf_28, ev_indexAddr ty_descOf_28, ty_szOf_22, ty_shapeT_22, good_35, ev_build ty_zeroCells_47 ty_placesOf_47, ev_buildSlice (len := 1) ty_descOf_22 ty_szOf_47 ty_zeroCells_47 ⟨rfl, by decide, by decide⟩, ev_append ty_appInfo_22, ev_appNew_sl ty_descOf_22, keep_16_3]
theorem sj_end (d : List UInt8) (ps : List (List Val)) (e : Nat) (out : List Val) : Ends (exL K 16 sjlp (sjH d ps e out ps.length)) fun o S => o = .exit 0 ∧ S.nt = 28 ∧ S.sl 5 = .c (.own e (encL out)) := by
  unfold sjlp
  conv in loopAt _ _ => whnf
  rw [exL_loop]
  simp only [go_sem, Nat.reduceLT, reduceIte, reduceCtorEq, Nat.reduceEqDiff, apply_ite (Option.map (outOf _)), Nat.reduceBEq, Nat.reduceAdd, Nat.reduceSub, Nat.reduceLeDiff, Nat.reduceMul, ev_len_sl ty_descOf_28, ev_indexAddr ty_descOf_28, ty_szOf_22, ty_shapeT_22, good_35, ev_build ty_zeroCells_47 ty_placesOf_47, ev_buildSlice (len := 1) ty_descOf_22 ty_szOf_47 ty_zeroCells_47 ⟨rfl, by decide, by decide⟩, ev_append ty_appInfo_22, ev_appNew_sl ty_descOf_22, keep_16_3, ends_some]
theorem sj_loop (d : List UInt8) (ps : List (List Val)) (hl : ps.length ≤ 100000000) : ∀ (rest : List (List Val)) (i e : Nat) (out : List Val), ps.drop i = rest → 0 < i → i ≤ ps.length → (e = 47 ∨ out = []) → out.length + (Sl.joins d rest).length < 100000000 →
    Ends (exL K 16 sjlp (sjH d ps e out i)) fun o S => o = .exit 0 ∧ S.nt = 28 ∧ ∃ f, S.sl 5 = .c (.own f (encL (out ++ Sl.joins d rest)))
  | [], i, e, out, hd, h0, hi, he, ho => by
    have hin : i = ps.length := by
      have := List.drop_eq_nil_iff.1 hd
      omega
    subst hin
    refine ends_imp (sj_end d ps e out) fun o S q => ⟨q.1, q.2.1, e, ?_⟩
    rw [Sl.joins_nil, List.append_nil]
    exact q.2.2
  | p :: rest, i, e, out, hd, h0, hi, he, ho => by
    obtain ⟨g1, g2, g3⟩ := drop_cons hd
    rw [Sl.joins_cons, List.length_cons, List.length_append] at ho
    rw [sj_pos d ps e out p i h0 g1 hl (by omega) he]
    have := sj_loop d ps hl rest (i + 1) 47 (out ++ [Sl.signV d] ++ p) g2 (by omega) (by omega) (.inl rfl) (by simp only [List.length_append, List.length_singleton]; omega)
    rw [Sl.joins_cons]
    simp only [List.append_assoc, List.singleton_append] at this ⊢
    exact this
theorem JoinS_den (d : List UInt8) (ps : List (List Val)) (hl : ps.length ≤ 100000000) (ho : (Sl.join d ps).length < 100000000) : den K 16 [L (encP ps), T d] [] = some (.ret (L (encL (Sl.join d ps))) []) := by
  have key : Ends (exL K 16 sjlp (sjH d ps 0 [] 0)) fun o S => o = .exit 0 ∧ S.nt = 28 ∧ ∃ f, S.sl 5 = .c (.own f (encL (Sl.join d ps))) := by
    cases ps with
    | nil => exact ends_imp (sj_end d [] 0 []) fun o S q => ⟨q.1, q.2.1, 0, q.2.2⟩
    | cons p ps =>
      rw [Sl.join, List.length_append] at ho
      rw [sj_zero d (p :: ps) 0 [] p rfl hl (by rw [List.length_nil]; omega) (.inr rfl)]
      refine ends_imp (sj_loop d (p :: ps) hl ps 1 47 ([] ++ p) rfl (by omega) (by simp) (.inl rfl) (by rw [List.nil_append]; omega)) fun o S q => ?_
      rw [List.nil_append] at q
      exact q
  unfold sjlp at key
  conv at key in loopAt _ _ => whnf
  obtain ⟨o, S, w, rfl, hn, f, s5⟩ := key
  have e0 : encL [] = [] := rfl
  have z0 : ((0 : Nat) : Int) = 0 := rfl
  simp only [sjH, e0, z0] at w
  refine den_run rfl rfl Tryz.func16 rfl Tryz.ntmps16 ⟨by simp, by simp [LK]⟩ ?_
  have hr : Tryz.f16.results = #[.tmp 4] := rfl
  simp only [go_sem, Nat.reduceLT, reduceIte, reduceCtorEq, Nat.reduceEqDiff, apply_ite (Option.map (outOf _)), Nat.reduceBEq, Nat.reduceAdd, Nat.reduceSub, Nat.reduceLeDiff, Nat.reduceMul, ev_len_sl ty_descOf_28, ev_indexAddr ty_descOf_28, ty_szOf_22, ty_shapeT_22, good_35, ev_build ty_zeroCells_47 ty_placesOf_47, ev_buildSlice (len := 1) ty_descOf_22 ty_szOf_47 ty_zeroCells_47 ⟨rfl, by decide, by decide⟩, ev_append ty_appInfo_22, ev_appNew_sl ty_descOf_22, keep_16_3, encP_len]
  rw [exL_head]
  simp only [go_sem, Nat.reduceLT, reduceIte, reduceCtorEq, Nat.reduceEqDiff, apply_ite (Option.map (outOf _)), Nat.reduceBEq, Nat.reduceAdd, Nat.reduceSub, Nat.reduceLeDiff, Nat.reduceMul, ev_len_sl ty_descOf_28, ev_indexAddr ty_descOf_28, ty_szOf_22, ty_shapeT_22, good_35, ev_build ty_zeroCells_47 ty_placesOf_47, ev_buildSlice (len := 1) ty_descOf_22 ty_szOf_47 ty_zeroCells_47 ⟨rfl, by decide, by decide⟩, ev_append ty_appInfo_22, ev_appNew_sl ty_descOf_22, keep_16_3]
  erw [w]
  simp only [go_sem, Nat.reduceLT, reduceIte, reduceCtorEq, Nat.reduceEqDiff, apply_ite (Option.map (outOf _)), Nat.reduceBEq, Nat.reduceAdd, Nat.reduceSub, Nat.reduceLeDiff, Nat.reduceMul, ev_len_sl ty_descOf_28, ev_indexAddr ty_descOf_28, ty_szOf_22, ty_shapeT_22, good_35, ev_build ty_zeroCells_47 ty_placesOf_47, ev_buildSlice (len := 1) ty_descOf_22 ty_szOf_47 ty_zeroCells_47 ⟨rfl, by decide, by decide⟩, ev_append ty_appInfo_22, ev_appNew_sl ty_descOf_22, keep_16_3, hr, hn, s5]
end Go.Abs
namespace Go.Abs
open Go Go.Proofs
set_option maxRecDepth 10000
attribute [local go_sem] exL_seq exL_region exL_cond exL_block exL_scope exL_ret exL_skip exL_exit runRegion runOps stepOp guardA absOp takeOver opd avOf cvOf St.degAt St.put okPV okVal okAV absBin intBin strBin boolBin setBoxes if_true Bool.false_eq_true if_false Option.map_some Option.map_none Option.bind_some Option.bind_none thenO outOf upd List.toList_toArray isOwn steal appArgs inApps AV.deg CV.deg AV.gv AV.isIter absNext some_bne List.length_nil List.length_cons List.filterMap_cons List.filterMap_nil beq_iff_eq List.getElem?_cons_zero List.getElem?_cons_succ Option.getD_some K_hook hookB Bool.false_and Bool.and_false Bool.and_self K_P K_own absCall doCall getBoxes lend back idx dedup AV.ren CV.ren TV.ren AV.ptrs CV.ptrs zipBox AV.flat CV.flat absLoad absStore cellsOfAV setAt newBox markB bldTypes absFieldAddr absField absExtract absAssert noAssert absMkIface ifcOf CV.pv? content pushHead ownT fillCells reps pvs chunks enterSt leave resOf resVars resVar outBoxes lentOnly TV.deg TV.av LK CV.plain CV.noBld nilBin absUn bound List.map_cons List.map_nil List.all_cons List.all_nil List.any_cons List.any_nil List.contains_cons List.contains_nil List.elem_cons List.elem_nil List.cons_append List.nil_append List.append_nil List.flatMap_cons List.flatMap_nil List.zip_cons_cons List.zip_nil_left List.zip_nil_right List.take_succ_cons List.take_zero List.take_nil List.drop_succ_cons List.drop_zero List.drop_nil List.isEmpty_nil List.isEmpty_cons Bool.and_true Bool.true_and Bool.or_true Bool.true_or Bool.or_false Bool.false_or Bool.not_true Bool.not_false Nat.add_zero Nat.zero_add Option.isNone_none Option.isNone_some Option.getD_none true_and and_true not_true_eq_false not_false_eq_true decide_true decide_false Nat.le_refl and_self Bool.not_eq_true Nat.sub_self or_true true_or Option.some.injEq List.length_map List.nil_eq and_false false_and AV.live CV.live CV.liveIn K_keep firstReg Option.orElse_some Option.orElse_none head keepSlots keepBoxes Int.lt_irrefl List.length_append ite_self memOK logOps opKey lentBoxes Key.clash Key.sees Key.writes Nat.lt_irrefl gt_iff_lt nobox_at bot_at false_or or_false beq_self_eq_true Bool.true_beq Bool.false_beq
abbrev rjH (d : List UInt8) (ps : List (List Val)) (e : Nat) (out : List Val) (i : Nat) : St :=
  { sl := upd (upd (upd (upd bot 6 (I i)) 5 (.c (.own e (encL out)))) 1 (T d)) 0 (L (encP ps)), bx := nobox, nt := 29 }
noncomputable def rjlp : Code := .loop (loopAt Tryz.f17 3)
theorem rj_zero (d : List UInt8) (ps : List (List Val)) (e : Nat) (out p : List Val) (hi : ps[0]? = some p) (hl : ps.length ≤ 100000000) (ho : out.length + p.length ≤ 100000000) (he : e = 47 ∨ out = []) :
    exL K 17 rjlp (rjH d ps e out 0) = exL K 17 rjlp (rjH d ps 47 (out ++ p) 1) := by
  have hil : 0 < ps.length := (List.getElem?_eq_some_iff.1 hi).1
  have hlt : decide (((0 : Nat) : Int) < (ps.length : Int)) = true := decide_eq_true (by omega)
  have hget := part_at ps 0 p hi
  have h0 : decide ((0 : Int) < ((0 : Nat) : Int)) = false := rfl
  have hws : IntKind.i64.wrap (((0 : Nat) : Int) + 1) = ((1 : Nat) : Int) := by decide
  have hown : e = 47 ∨ (encL out).isEmpty = true := by
    rcases he with rfl | rfl
    · exact .inl rfl
    · exact .inr rfl
  have hlim : out.length + p.length < appLim := by unfold appLim; omega
  have hlv := lens_valsK out
  have hlv2 := lens_valsK p
  unfold rjlp
  conv in loopAt _ _ => whnf
  conv in loopAt _ _ => whnf
  conv in exL _ _ _ (rjH d ps e out 0) => rw [exL_loop]
  simp only [go_sem, Nat.reduceLT, reduceIte, reduceCtorEq, Nat.reduceEqDiff, apply_ite (Option.map (outOf _)), Nat.reduceBEq, Nat.reduceAdd, Nat.reduceSub, Nat.reduceLeDiff, Nat.reduceMul, ev_buildSlice (len := 0) ty_descOf_22 ty_szOf_47 ty_zeroCells_47 ⟨rfl, by decide, by decide⟩, ev_len_sl ty_descOf_28, ev_build ty_zeroCells_45 ty_placesOf_45, ev_build ty_zeroCells_47 ty_placesOf_47, ev_buildSlice (len := 1) ty_descOf_22 ty_szOf_47 ty_zeroCells_47 ⟨rfl, by decide, by decide⟩, ev_append ty_appInfo_22, ev_appNew_sl ty_descOf_22, ev_indexAddr ty_descOf_28, ty_szOf_22, ty_shapeT_22, keep_17_3, encP_len, encL_len, hlt, hget, Int.natCast_nonneg, h0, hws, hown, hlim, hlv, hlv2, appV]
  rw [exL_head]
  simp only [go_sem, Nat.reduceLT, reduceIte, reduceCtorEq, Nat.reduceEqDiff, apply_ite (Option.map (outOf _)), Nat.reduceBEq, Nat.reduceAdd, Nat.reduceSub, Nat.reduceLeDiff, Nat.reduceMul, ev_buildSlice (len := 0) ty_descOf_22 ty_szOf_47 ty_zeroCells_47 ⟨rfl, by decide, by decide⟩, ev_len_sl ty_descOf_28, ev_build ty_zeroCells_45 ty_placesOf_45, ev_build ty_zeroCells_47 ty_placesOf_47, ev_buildSlice (len := 1) ty_descOf_22 ty_szOf_47 ty_zeroCells_47 ⟨rfl, by decide, by decide⟩, ev_append ty_appInfo_22, ev_appNew_sl ty_descOf_22, ev_indexAddr ty_descOf_28, ty_szOf_22, ty_shapeT_22, keep_17_3]
theorem rj_pos (d : List UInt8) (ps : List (List Val)) (e : Nat) (out p : List Val) (i : Nat) (h0 : 0 < i) (hi : ps[i]? = some p) (hl : ps.length ≤ 100000000) (ho : out.length + p.length < 100000000) (he : e = 47 ∨ out = []) :
    exL K 17 rjlp (rjH d ps e out i) = exL K 17 rjlp (rjH d ps 47 (out ++ [Sl.signV d] ++ p) (i + 1)) := by
  have hil : i < ps.length := (List.getElem?_eq_some_iff.1 hi).1
  have hlt : decide ((i : Int) < (ps.length : Int)) = true := decide_eq_true (by omega)
  have hget := part_at ps i p hi
  have h0' : decide ((0 : Int) < (i : Int)) = true := decide_eq_true (by omega)
  have hws : IntKind.i64.wrap ((i : Int) + 1) = ((i + 1 : Nat) : Int) := wrap_nat i (by omega)
  have hown : e = 47 ∨ (encL out).isEmpty = true := by
    rcases he with rfl | rfl
    · exact .inl rfl
    · exact .inr rfl
  have hsl : (out ++ [Sl.signV d]).length = out.length + 1 := by simp
  have hlim : out.length + 1 < appLim := by unfold appLim; omega
  have hlim2 : (out ++ [Sl.signV d]).length + p.length < appLim := by rw [hsl]; unfold appLim; omega
  have hlv := lens_valsK out
  have hlv1 := lens_valsK (out ++ [Sl.signV d])
  have hlv2 := lens_valsK p
  generalize hO : out ++ [Sl.signV d] = O at hlim2 hlv1
  have hsn := snoc_sign out d
  rw [hO] at hsn
  unfold rjlp
  conv in loopAt _ _ => whnf
  conv in loopAt _ _ => whnf
  conv in exL _ _ _ (rjH d ps e out i) => rw [exL_loop]
  simp only [go_sem, Nat.reduceLT, reduceIte, reduceCtorEq, Nat.reduceEqDiff, apply_ite (Option.map (outOf _)), Nat.reduceBEq, Nat.reduceAdd, Nat.reduceSub, Nat.reduceLeDiff, Nat.reduceMul, ev_buildSlice (len := 0) ty_descOf_22 ty_szOf_47 ty_zeroCells_47 ⟨rfl, by decide, by decide⟩, ev_len_sl ty_descOf_28, ev_build ty_zeroCells_45 ty_placesOf_45, ev_build ty_zeroCells_47 ty_placesOf_47, ev_buildSlice (len := 1) ty_descOf_22 ty_szOf_47 ty_zeroCells_47 ⟨rfl, by decide, by decide⟩, ev_append ty_appInfo_22, ev_appNew_sl ty_descOf_22, ev_indexAddr ty_descOf_28, ty_szOf_22, ty_shapeT_22, keep_17_3, encP_len, encL_len, hlt, hget, Int.natCast_nonneg, h0', hws, hown, hlim, hlim2, hlv, hlv1, hlv2, lens_valK, hsn, appV]
  rw [exL_head]
  simp only [go_sem, Nat.reduceLT, reduceIte, reduceCtorEq, Nat.reduceEqDiff, apply_ite (Option.map (outOf _)), Nat.reduceBEq, Nat.reduceAdd, Nat.reduceSub, Nat.reduceLeDiff, Nat.reduceMul, ev_buildSlice (len := 0) ty_descOf_22 ty_szOf_47 ty_zeroCells_47 ⟨rfl, by decide, by decide⟩, ev_len_sl ty_descOf_28, ev_build ty_zeroCells_45 ty_placesOf_45, ev_build ty_zeroCells_47 ty_placesOf_47, ev_buildSlice (len := 1) ty_descOf_22 ty_szOf_47 ty_zeroCells_47 ⟨rfl, by decide, by decide⟩, ev_append ty_appInfo_22, ev_appNew_sl ty_descOf_22, ev_indexAddr ty_descOf_28, ty_szOf_22, ty_shapeT_22, keep_17_3]
theorem rj_end (d : List UInt8) (ps : List (List Val)) (e : Nat) (out : List Val) : Ends (exL K 17 rjlp (rjH d ps e out ps.length)) fun o S => o = .exit 0 ∧ S.nt = 29 ∧ S.sl 5 = .c (.own e (encL out)) := by
  unfold rjlp
  conv in loopAt _ _ => whnf
  rw [exL_loop]
  simp only [go_sem, Nat.reduceLT, reduceIte, reduceCtorEq, Nat.reduceEqDiff, apply_ite (Option.map (outOf _)), Nat.reduceBEq, Nat.reduceAdd, Nat.reduceSub, Nat.reduceLeDiff, Nat.reduceMul, ev_buildSlice (len := 0) ty_descOf_22 ty_szOf_47 ty_zeroCells_47 ⟨rfl, by decide, by decide⟩, ev_len_sl ty_descOf_28, ev_build ty_zeroCells_45 ty_placesOf_45, ev_build ty_zeroCells_47 ty_placesOf_47, ev_buildSlice (len := 1) ty_descOf_22 ty_szOf_47 ty_zeroCells_47 ⟨rfl, by decide, by decide⟩, ev_append ty_appInfo_22, ev_appNew_sl ty_descOf_22, ev_indexAddr ty_descOf_28, ty_szOf_22, ty_shapeT_22, keep_17_3, encP_len, ends_some]
theorem rj_loop (d : List UInt8) (ps : List (List Val)) (hl : ps.length ≤ 100000000) : ∀ (rest : List (List Val)) (i e : Nat) (out : List Val), ps.drop i = rest → 0 < i → i ≤ ps.length → (e = 47 ∨ out = []) → out.length + (Sl.joins d rest).length < 100000000 →
    Ends (exL K 17 rjlp (rjH d ps e out i)) fun o S => o = .exit 0 ∧ S.nt = 29 ∧ ∃ f, S.sl 5 = .c (.own f (encL (out ++ Sl.joins d rest)))
  | [], i, e, out, hd, h0, hi, he, ho => by
    have hin : i = ps.length := by
      have := List.drop_eq_nil_iff.1 hd
      omega
    subst hin
    refine ends_imp (rj_end d ps e out) fun o S q => ⟨q.1, q.2.1, e, ?_⟩
    rw [Sl.joins_nil, List.append_nil]
    exact q.2.2
  | p :: rest, i, e, out, hd, h0, hi, he, ho => by
    obtain ⟨g1, g2, g3⟩ := drop_cons hd
    rw [Sl.joins_cons, List.length_cons, List.length_append] at ho
    rw [rj_pos d ps e out p i h0 g1 hl (by omega) he]
    have := rj_loop d ps hl rest (i + 1) 47 (out ++ [Sl.signV d] ++ p) g2 (by omega) (by omega) (.inl rfl) (by simp only [List.length_append, List.length_singleton]; omega)
    rw [Sl.joins_cons]
    simp only [List.append_assoc, List.singleton_append] at this ⊢
    exact this
theorem Join3_den (d : List UInt8) (ps : List (List Val)) (hl : ps.length ≤ 100000000) (ho : (Sl.join d ps).length < 100000000) : den K 17 [L (encP ps), T d] [] = some (.ret (L (encL (Sl.join d ps))) []) := by
  have key : Ends (exL K 17 rjlp (rjH d ps 47 [] 0)) fun o S => o = .exit 0 ∧ S.nt = 29 ∧ ∃ f, S.sl 5 = .c (.own f (encL (Sl.join d ps))) := by
    cases ps with
    | nil => exact ends_imp (rj_end d [] 47 []) fun o S q => ⟨q.1, q.2.1, 47, q.2.2⟩
    | cons p ps =>
      rw [Sl.join, List.length_append] at ho
      rw [rj_zero d (p :: ps) 47 [] p rfl hl (by rw [List.length_nil]; omega) (.inr rfl)]
      refine ends_imp (rj_loop d (p :: ps) hl ps 1 47 ([] ++ p) rfl (by omega) (by simp) (.inl rfl) (by rw [List.nil_append]; omega)) fun o S q => ?_
      rw [List.nil_append] at q
      exact q
  unfold rjlp at key
  conv at key in loopAt _ _ => whnf
  obtain ⟨o, S, w, rfl, hn, f, s5⟩ := key
  have e0 : encL [] = [] := rfl
  have z0 : ((0 : Nat) : Int) = 0 := rfl
  simp only [rjH, e0, z0] at w
  refine den_run rfl rfl Tryz.func17 rfl Tryz.ntmps17 ⟨by simp, by simp [LK]⟩ ?_
  have hr : Tryz.f17.results = #[.tmp 4] := rfl
  simp only [go_sem, Nat.reduceLT, reduceIte, reduceCtorEq, Nat.reduceEqDiff, apply_ite (Option.map (outOf _)), Nat.reduceBEq, Nat.reduceAdd, Nat.reduceSub, Nat.reduceLeDiff, Nat.reduceMul, ev_buildSlice (len := 0) ty_descOf_22 ty_szOf_47 ty_zeroCells_47 ⟨rfl, by decide, by decide⟩, ev_len_sl ty_descOf_28, ev_build ty_zeroCells_45 ty_placesOf_45, ev_build ty_zeroCells_47 ty_placesOf_47, ev_buildSlice (len := 1) ty_descOf_22 ty_szOf_47 ty_zeroCells_47 ⟨rfl, by decide, by decide⟩, ev_append ty_appInfo_22, ev_appNew_sl ty_descOf_22, ev_indexAddr ty_descOf_28, ty_szOf_22, ty_shapeT_22, keep_17_3]
  rw [exL_head]
  simp only [go_sem, Nat.reduceLT, reduceIte, reduceCtorEq, Nat.reduceEqDiff, apply_ite (Option.map (outOf _)), Nat.reduceBEq, Nat.reduceAdd, Nat.reduceSub, Nat.reduceLeDiff, Nat.reduceMul, ev_buildSlice (len := 0) ty_descOf_22 ty_szOf_47 ty_zeroCells_47 ⟨rfl, by decide, by decide⟩, ev_len_sl ty_descOf_28, ev_build ty_zeroCells_45 ty_placesOf_45, ev_build ty_zeroCells_47 ty_placesOf_47, ev_buildSlice (len := 1) ty_descOf_22 ty_szOf_47 ty_zeroCells_47 ⟨rfl, by decide, by decide⟩, ev_append ty_appInfo_22, ev_appNew_sl ty_descOf_22, ev_indexAddr ty_descOf_28, ty_szOf_22, ty_shapeT_22, keep_17_3]
  erw [w]
  simp only [go_sem, Nat.reduceLT, reduceIte, reduceCtorEq, Nat.reduceEqDiff, apply_ite (Option.map (outOf _)), Nat.reduceBEq, Nat.reduceAdd, Nat.reduceSub, Nat.reduceLeDiff, Nat.reduceMul, ev_buildSlice (len := 0) ty_descOf_22 ty_szOf_47 ty_zeroCells_47 ⟨rfl, by decide, by decide⟩, ev_len_sl ty_descOf_28, ev_build ty_zeroCells_45 ty_placesOf_45, ev_build ty_zeroCells_47 ty_placesOf_47, ev_buildSlice (len := 1) ty_descOf_22 ty_szOf_47 ty_zeroCells_47 ⟨rfl, by decide, by decide⟩, ev_append ty_appInfo_22, ev_appNew_sl ty_descOf_22, ev_indexAddr ty_descOf_28, ty_szOf_22, ty_shapeT_22, keep_17_3, hr, hn, s5]
abbrev rwH (l : List Val) (e e' : Nat) (out : List (List Val)) (part : List Val) (i : Nat) : St :=
  { sl := upd (upd (upd (upd bot 5 (I i)) 4 (.c (.own e' (encL part)))) 3 (.c (.own e (encP out)))) 0 (L (encL l)), bx := nobox, nt := 42 }
noncomputable def rwlp : Code := .loop (loopAt Tryz.f19 4)
theorem rw_no (l : List Val) (e e' : Nat) (out : List (List Val)) (part : List Val) (i : Nat) (v : Val) (hi : l[i]? = some v) (hl : l.length ≤ 100000000) (hp : part.length ≤ i) (hb : Sl.isBlank v = false) (he' : e' = 47 ∨ part = []) :
    exL K 19 rwlp (rwH l e e' out part i) = exL K 19 rwlp (rwH l e 47 out (part ++ [v]) (i + 1)) := by
  obtain ⟨k, t, c⟩ := v
  have hil : i < l.length := (List.getElem?_eq_some_iff.1 hi).1
  have hlt : decide ((i : Int) < (l.length : Int)) = true := decide_eq_true (by omega)
  have hle : decide ((i : Int) ≤ (l.length : Int)) = true := decide_eq_true (by omega)
  have hget := val_at l i k t c hi
  have hws : IntKind.i64.wrap ((i : Int) + 1) = ((i + 1 : Nat) : Int) := wrap_nat i (by omega)
  have hd := blank_den k t c
  rw [hb] at hd
  have hown : e' = 47 ∨ (encL part).isEmpty = true := by
    rcases he' with rfl | rfl
    · exact .inl rfl
    · exact .inr rfl
  have hlim : part.length + 1 < appLim := by unfold appLim; omega
  have hlv := lens_valsK part
  unfold rwlp
  conv in loopAt _ _ => whnf
  conv in loopAt _ _ => whnf
  conv in exL _ _ _ (rwH l e e' out part i) => rw [exL_loop]
  simp only [go_sem, Nat.reduceLT, reduceIte, reduceCtorEq, Nat.reduceEqDiff, apply_ite (Option.map (outOf _)), Nat.reduceBEq, Nat.reduceAdd, Nat.reduceSub, Nat.reduceLeDiff, Nat.reduceMul, ev_buildSlice (len := 0) ty_descOf_28 ty_szOf_22 ty_zeroCells_22 ⟨rfl, by decide, by decide⟩, ev_buildSlice (len := 0) ty_descOf_22 ty_szOf_47 ty_zeroCells_47 ⟨rfl, by decide, by decide⟩, ev_len_sl ty_descOf_22, ev_indexAddr ty_descOf_22, ty_szOf_47, ty_shapeT_47, good_31, ev_buildSlice (len := 1) ty_descOf_22 ty_szOf_47 ty_zeroCells_47 ⟨rfl, by decide, by decide⟩, ev_append ty_appInfo_22, ev_appNew_sl ty_descOf_22, ev_buildSlice (len := 1) ty_descOf_28 ty_szOf_22 ty_zeroCells_22 ⟨rfl, by decide, by decide⟩, ev_append ty_appInfo_28, ev_appNew_sl ty_descOf_28, keep_19_4, encL_len, hlt, hle, hget, Int.natCast_nonneg, hws, hd, hown, hlim, hlv, lens_valK, snoc_v]
  rw [exL_head]
  simp only [go_sem, Nat.reduceLT, reduceIte, reduceCtorEq, Nat.reduceEqDiff, apply_ite (Option.map (outOf _)), Nat.reduceBEq, Nat.reduceAdd, Nat.reduceSub, Nat.reduceLeDiff, Nat.reduceMul, ev_buildSlice (len := 0) ty_descOf_28 ty_szOf_22 ty_zeroCells_22 ⟨rfl, by decide, by decide⟩, ev_buildSlice (len := 0) ty_descOf_22 ty_szOf_47 ty_zeroCells_47 ⟨rfl, by decide, by decide⟩, ev_len_sl ty_descOf_22, ev_indexAddr ty_descOf_22, ty_szOf_47, ty_shapeT_47, good_31, ev_buildSlice (len := 1) ty_descOf_22 ty_szOf_47 ty_zeroCells_47 ⟨rfl, by decide, by decide⟩, ev_append ty_appInfo_22, ev_appNew_sl ty_descOf_22, ev_buildSlice (len := 1) ty_descOf_28 ty_szOf_22 ty_zeroCells_22 ⟨rfl, by decide, by decide⟩, ev_append ty_appInfo_28, ev_appNew_sl ty_descOf_28, keep_19_4]
theorem rw_full (l : List Val) (e e' : Nat) (out : List (List Val)) (part : List Val) (i : Nat) (hl : l.length ≤ 100000000) (ho : out.length ≤ i) (hb : (∃ v, l[i]? = some v ∧ Sl.isBlank v = true) ∨ i = l.length) (hne : part ≠ []) (he : e = 22 ∨ out = []) :
    exL K 19 rwlp (rwH l e e' out part i) = exL K 19 rwlp (rwH l 22 47 (out ++ [part]) [] (i + 1)) := by
  have hown : e = 22 ∨ (encP out).isEmpty = true := by
    rcases he with rfl | rfl
    · exact .inl rfl
    · exact .inr rfl
  have hpl := List.length_pos_iff.2 hne
  have hp0 : decide ((0 : Int) < (part.length : Int)) = true := decide_eq_true (by omega)
  have hlv := lens_parts out
  have e0 : encL [] = [] := rfl
  rcases hb with ⟨v, hi, hb⟩ | rfl
  · obtain ⟨k, t, c⟩ := v
    have hil : i < l.length := (List.getElem?_eq_some_iff.1 hi).1
    have hlt : decide ((i : Int) < (l.length : Int)) = true := decide_eq_true (by omega)
    have hle : decide ((i : Int) ≤ (l.length : Int)) = true := decide_eq_true (by omega)
    have hget := val_at l i k t c hi
    have hws : IntKind.i64.wrap ((i : Int) + 1) = ((i + 1 : Nat) : Int) := wrap_nat i (by omega)
    have hlim : out.length + 1 < appLim := by unfold appLim; omega
    have hd := blank_den k t c
    rw [hb] at hd
    unfold rwlp
    conv in loopAt _ _ => whnf
    conv in loopAt _ _ => whnf
    conv in exL _ _ _ (rwH l e e' out part i) => rw [exL_loop]
    simp only [go_sem, Nat.reduceLT, reduceIte, reduceCtorEq, Nat.reduceEqDiff, apply_ite (Option.map (outOf _)), Nat.reduceBEq, Nat.reduceAdd, Nat.reduceSub, Nat.reduceLeDiff, Nat.reduceMul, ev_buildSlice (len := 0) ty_descOf_28 ty_szOf_22 ty_zeroCells_22 ⟨rfl, by decide, by decide⟩, ev_buildSlice (len := 0) ty_descOf_22 ty_szOf_47 ty_zeroCells_47 ⟨rfl, by decide, by decide⟩, ev_len_sl ty_descOf_22, ev_indexAddr ty_descOf_22, ty_szOf_47, ty_shapeT_47, good_31, ev_buildSlice (len := 1) ty_descOf_22 ty_szOf_47 ty_zeroCells_47 ⟨rfl, by decide, by decide⟩, ev_append ty_appInfo_22, ev_appNew_sl ty_descOf_22, ev_buildSlice (len := 1) ty_descOf_28 ty_szOf_22 ty_zeroCells_22 ⟨rfl, by decide, by decide⟩, ev_append ty_appInfo_28, ev_appNew_sl ty_descOf_28, keep_19_4, encL_len, encP_len, hlt, hle, hget, Int.natCast_nonneg, hws, hd, hp0, hown, hlim, hlv, lens_part, snoc_part]
    rw [exL_head]
    simp only [go_sem, Nat.reduceLT, reduceIte, reduceCtorEq, Nat.reduceEqDiff, apply_ite (Option.map (outOf _)), Nat.reduceBEq, Nat.reduceAdd, Nat.reduceSub, Nat.reduceLeDiff, Nat.reduceMul, ev_buildSlice (len := 0) ty_descOf_28 ty_szOf_22 ty_zeroCells_22 ⟨rfl, by decide, by decide⟩, ev_buildSlice (len := 0) ty_descOf_22 ty_szOf_47 ty_zeroCells_47 ⟨rfl, by decide, by decide⟩, ev_len_sl ty_descOf_22, ev_indexAddr ty_descOf_22, ty_szOf_47, ty_shapeT_47, good_31, ev_buildSlice (len := 1) ty_descOf_22 ty_szOf_47 ty_zeroCells_47 ⟨rfl, by decide, by decide⟩, ev_append ty_appInfo_22, ev_appNew_sl ty_descOf_22, ev_buildSlice (len := 1) ty_descOf_28 ty_szOf_22 ty_zeroCells_22 ⟨rfl, by decide, by decide⟩, ev_append ty_appInfo_28, ev_appNew_sl ty_descOf_28, keep_19_4]
    rfl
  · have hlt : decide ((l.length : Int) < (l.length : Int)) = false := decide_eq_false (by omega)
    have hle : decide ((l.length : Int) ≤ (l.length : Int)) = true := decide_eq_true (by omega)
    have hws : IntKind.i64.wrap ((l.length : Int) + 1) = ((l.length + 1 : Nat) : Int) := wrap_nat l.length (by omega)
    have hlim : out.length + 1 < appLim := by unfold appLim; omega
    unfold rwlp
    conv in loopAt _ _ => whnf
    conv in loopAt _ _ => whnf
    conv in exL _ _ _ (rwH l e e' out part l.length) => rw [exL_loop]
    simp only [go_sem, Nat.reduceLT, reduceIte, reduceCtorEq, Nat.reduceEqDiff, apply_ite (Option.map (outOf _)), Nat.reduceBEq, Nat.reduceAdd, Nat.reduceSub, Nat.reduceLeDiff, Nat.reduceMul, ev_buildSlice (len := 0) ty_descOf_28 ty_szOf_22 ty_zeroCells_22 ⟨rfl, by decide, by decide⟩, ev_buildSlice (len := 0) ty_descOf_22 ty_szOf_47 ty_zeroCells_47 ⟨rfl, by decide, by decide⟩, ev_len_sl ty_descOf_22, ev_indexAddr ty_descOf_22, ty_szOf_47, ty_shapeT_47, good_31, ev_buildSlice (len := 1) ty_descOf_22 ty_szOf_47 ty_zeroCells_47 ⟨rfl, by decide, by decide⟩, ev_append ty_appInfo_22, ev_appNew_sl ty_descOf_22, ev_buildSlice (len := 1) ty_descOf_28 ty_szOf_22 ty_zeroCells_22 ⟨rfl, by decide, by decide⟩, ev_append ty_appInfo_28, ev_appNew_sl ty_descOf_28, keep_19_4, encL_len, encP_len, hlt, hle, hws, hp0, hown, hlim, hlv, lens_part, snoc_part]
    rw [exL_head]
    simp only [go_sem, Nat.reduceLT, reduceIte, reduceCtorEq, Nat.reduceEqDiff, apply_ite (Option.map (outOf _)), Nat.reduceBEq, Nat.reduceAdd, Nat.reduceSub, Nat.reduceLeDiff, Nat.reduceMul, ev_buildSlice (len := 0) ty_descOf_28 ty_szOf_22 ty_zeroCells_22 ⟨rfl, by decide, by decide⟩, ev_buildSlice (len := 0) ty_descOf_22 ty_szOf_47 ty_zeroCells_47 ⟨rfl, by decide, by decide⟩, ev_len_sl ty_descOf_22, ev_indexAddr ty_descOf_22, ty_szOf_47, ty_shapeT_47, good_31, ev_buildSlice (len := 1) ty_descOf_22 ty_szOf_47 ty_zeroCells_47 ⟨rfl, by decide, by decide⟩, ev_append ty_appInfo_22, ev_appNew_sl ty_descOf_22, ev_buildSlice (len := 1) ty_descOf_28 ty_szOf_22 ty_zeroCells_22 ⟨rfl, by decide, by decide⟩, ev_append ty_appInfo_28, ev_appNew_sl ty_descOf_28, keep_19_4]
    rfl
theorem rw_none (l : List Val) (e e' : Nat) (out : List (List Val)) (i : Nat) (hl : l.length ≤ 100000000) (hb : (∃ v, l[i]? = some v ∧ Sl.isBlank v = true) ∨ i = l.length) :
    exL K 19 rwlp (rwH l e e' out [] i) = exL K 19 rwlp (rwH l e 47 out [] (i + 1)) := by
  have hp0 : decide ((0 : Int) < ((0 : Nat) : Int)) = false := rfl
  have e0 : encL [] = [] := rfl
  rcases hb with ⟨v, hi, hb⟩ | rfl
  · obtain ⟨k, t, c⟩ := v
    have hil : i < l.length := (List.getElem?_eq_some_iff.1 hi).1
    have hlt : decide ((i : Int) < (l.length : Int)) = true := decide_eq_true (by omega)
    have hle : decide ((i : Int) ≤ (l.length : Int)) = true := decide_eq_true (by omega)
    have hget := val_at l i k t c hi
    have hws : IntKind.i64.wrap ((i : Int) + 1) = ((i + 1 : Nat) : Int) := wrap_nat i (by omega)
    have hd := blank_den k t c
    rw [hb] at hd
    unfold rwlp
    conv in loopAt _ _ => whnf
    conv in loopAt _ _ => whnf
    conv in exL _ _ _ (rwH l e e' out [] i) => rw [exL_loop]
    simp only [go_sem, Nat.reduceLT, reduceIte, reduceCtorEq, Nat.reduceEqDiff, apply_ite (Option.map (outOf _)), Nat.reduceBEq, Nat.reduceAdd, Nat.reduceSub, Nat.reduceLeDiff, Nat.reduceMul, ev_buildSlice (len := 0) ty_descOf_28 ty_szOf_22 ty_zeroCells_22 ⟨rfl, by decide, by decide⟩, ev_buildSlice (len := 0) ty_descOf_22 ty_szOf_47 ty_zeroCells_47 ⟨rfl, by decide, by decide⟩, ev_len_sl ty_descOf_22, ev_indexAddr ty_descOf_22, ty_szOf_47, ty_shapeT_47, good_31, ev_buildSlice (len := 1) ty_descOf_22 ty_szOf_47 ty_zeroCells_47 ⟨rfl, by decide, by decide⟩, ev_append ty_appInfo_22, ev_appNew_sl ty_descOf_22, ev_buildSlice (len := 1) ty_descOf_28 ty_szOf_22 ty_zeroCells_22 ⟨rfl, by decide, by decide⟩, ev_append ty_appInfo_28, ev_appNew_sl ty_descOf_28, keep_19_4, encL_len, List.length_nil, hlt, hle, hget, Int.natCast_nonneg, hws, hd, hp0]
    rw [exL_head]
    simp only [go_sem, Nat.reduceLT, reduceIte, reduceCtorEq, Nat.reduceEqDiff, apply_ite (Option.map (outOf _)), Nat.reduceBEq, Nat.reduceAdd, Nat.reduceSub, Nat.reduceLeDiff, Nat.reduceMul, ev_buildSlice (len := 0) ty_descOf_28 ty_szOf_22 ty_zeroCells_22 ⟨rfl, by decide, by decide⟩, ev_buildSlice (len := 0) ty_descOf_22 ty_szOf_47 ty_zeroCells_47 ⟨rfl, by decide, by decide⟩, ev_len_sl ty_descOf_22, ev_indexAddr ty_descOf_22, ty_szOf_47, ty_shapeT_47, good_31, ev_buildSlice (len := 1) ty_descOf_22 ty_szOf_47 ty_zeroCells_47 ⟨rfl, by decide, by decide⟩, ev_append ty_appInfo_22, ev_appNew_sl ty_descOf_22, ev_buildSlice (len := 1) ty_descOf_28 ty_szOf_22 ty_zeroCells_22 ⟨rfl, by decide, by decide⟩, ev_append ty_appInfo_28, ev_appNew_sl ty_descOf_28, keep_19_4]
    rfl
  · have hlt : decide ((l.length : Int) < (l.length : Int)) = false := decide_eq_false (by omega)
    have hle : decide ((l.length : Int) ≤ (l.length : Int)) = true := decide_eq_true (by omega)
    have hws : IntKind.i64.wrap ((l.length : Int) + 1) = ((l.length + 1 : Nat) : Int) := wrap_nat l.length (by omega)
    unfold rwlp
    conv in loopAt _ _ => whnf
    conv in loopAt _ _ => whnf
    conv in exL _ _ _ (rwH l e e' out [] l.length) => rw [exL_loop]
    simp only [go_sem, Nat.reduceLT, reduceIte, reduceCtorEq, Nat.reduceEqDiff, apply_ite (Option.map (outOf _)), Nat.reduceBEq, Nat.reduceAdd, Nat.reduceSub, Nat.reduceLeDiff, Nat.reduceMul, ev_buildSlice (len := 0) ty_descOf_28 ty_szOf_22 ty_zeroCells_22 ⟨rfl, by decide, by decide⟩, ev_buildSlice (len := 0) ty_descOf_22 ty_szOf_47 ty_zeroCells_47 ⟨rfl, by decide, by decide⟩, ev_len_sl ty_descOf_22, ev_indexAddr ty_descOf_22, ty_szOf_47, ty_shapeT_47, good_31, ev_buildSlice (len := 1) ty_descOf_22 ty_szOf_47 ty_zeroCells_47 ⟨rfl, by decide, by decide⟩, ev_append ty_appInfo_22, ev_appNew_sl ty_descOf_22, ev_buildSlice (len := 1) ty_descOf_28 ty_szOf_22 ty_zeroCells_22 ⟨rfl, by decide, by decide⟩, ev_append ty_appInfo_28, ev_appNew_sl ty_descOf_28, keep_19_4, encL_len, List.length_nil, hlt, hle, hws, hp0]
    rw [exL_head]
    simp only [go_sem, Nat.reduceLT, reduceIte, reduceCtorEq, Nat.reduceEqDiff, apply_ite (Option.map (outOf _)), Nat.reduceBEq, Nat.reduceAdd, Nat.reduceSub, Nat.reduceLeDiff, Nat.reduceMul, ev_buildSlice (len := 0) ty_descOf_28 ty_szOf_22 ty_zeroCells_22 ⟨rfl, by decide, by decide⟩, ev_buildSlice (len := 0) ty_descOf_22 ty_szOf_47 ty_zeroCells_47 ⟨rfl, by decide, by decide⟩, ev_len_sl ty_descOf_22, ev_indexAddr ty_descOf_22, ty_szOf_47, ty_shapeT_47, good_31, ev_buildSlice (len := 1) ty_descOf_22 ty_szOf_47 ty_zeroCells_47 ⟨rfl, by decide, by decide⟩, ev_append ty_appInfo_22, ev_appNew_sl ty_descOf_22, ev_buildSlice (len := 1) ty_descOf_28 ty_szOf_22 ty_zeroCells_22 ⟨rfl, by decide, by decide⟩, ev_append ty_appInfo_28, ev_appNew_sl ty_descOf_28, keep_19_4]
    rfl
theorem rw_end (l : List Val) (e e' : Nat) (out : List (List Val)) (part : List Val) : Ends (exL K 19 rwlp (rwH l e e' out part (l.length + 1))) fun o S => o = .exit 0 ∧ S.nt = 42 ∧ S.sl 3 = .c (.own e (encP out)) := by
  have hle : decide (((l.length + 1 : Nat) : Int) ≤ (l.length : Int)) = false := decide_eq_false (by omega)
  unfold rwlp
  conv in loopAt _ _ => whnf
  rw [exL_loop]
  simp only [go_sem, Nat.reduceLT, reduceIte, reduceCtorEq, Nat.reduceEqDiff, apply_ite (Option.map (outOf _)), Nat.reduceBEq, Nat.reduceAdd, Nat.reduceSub, Nat.reduceLeDiff, Nat.reduceMul, ev_buildSlice (len := 0) ty_descOf_28 ty_szOf_22 ty_zeroCells_22 ⟨rfl, by decide, by decide⟩, ev_buildSlice (len := 0) ty_descOf_22 ty_szOf_47 ty_zeroCells_47 ⟨rfl, by decide, by decide⟩, ev_len_sl ty_descOf_22, ev_indexAddr ty_descOf_22, ty_szOf_47, ty_shapeT_47, good_31, ev_buildSlice (len := 1) ty_descOf_22 ty_szOf_47 ty_zeroCells_47 ⟨rfl, by decide, by decide⟩, ev_append ty_appInfo_22, ev_appNew_sl ty_descOf_22, ev_buildSlice (len := 1) ty_descOf_28 ty_szOf_22 ty_zeroCells_22 ⟨rfl, by decide, by decide⟩, ev_append ty_appInfo_28, ev_appNew_sl ty_descOf_28, keep_19_4, encL_len, hle, ends_some]
theorem rw_loop (l : List Val) (hl : l.length ≤ 100000000) : ∀ (rest : List Val) (i e e' : Nat) (out : List (List Val)) (part : List Val), l.drop i = rest → i ≤ l.length → out.length ≤ i → part.length ≤ i → (e = 22 ∨ out = []) → (e' = 47 ∨ part = []) →
    Ends (exL K 19 rwlp (rwH l e e' out part i)) fun o S => o = .exit 0 ∧ S.nt = 42 ∧ ∃ f, S.sl 3 = .c (.own f (encP (out ++ Sl.wordsF part rest)))
  | [], i, e, e', out, part, hd, hi, ho, hp, he, he' => by
    have hin : i = l.length := by
      have := List.drop_eq_nil_iff.1 hd
      omega
    subst hin
    rw [Sl.wordsF]
    cases part with
    | nil =>
      rw [rw_none l e e' out l.length hl (.inr rfl)]
      refine ends_imp (rw_end l e _ out []) fun o S q => ⟨q.1, q.2.1, e, ?_⟩
      simpa using q.2.2
    | cons v part =>
      rw [rw_full l e e' out (v :: part) l.length hl ho (.inr rfl) (by simp) he]
      exact ends_imp (rw_end l _ _ _ []) fun o S q => ⟨q.1, q.2.1, _, q.2.2⟩
  | v :: rest, i, e, e', out, part, hd, hi, ho, hp, he, he' => by
    obtain ⟨g1, g2, g3⟩ := drop_cons hd
    rw [Sl.wordsF]
    cases hb : Sl.isBlank v with
    | true =>
      rw [if_pos rfl]
      cases part with
      | nil =>
        rw [rw_none l e e' out i hl (.inl ⟨v, g1, hb⟩)]
        exact rw_loop l hl rest (i + 1) e _ out [] g2 (by omega) (by omega) (Nat.zero_le _) he (.inl rfl)
      | cons w part =>
        rw [rw_full l e e' out (w :: part) i hl ho (.inl ⟨v, g1, hb⟩) (by simp) he]
        have := rw_loop l hl rest (i + 1) _ _ (out ++ [w :: part]) [] g2 (by omega) (by rw [List.length_append, List.length_singleton]; omega) (Nat.zero_le _) (.inl rfl) (.inl rfl)
        rw [List.append_assoc] at this
        exact this
    | false =>
      rw [if_neg (by simp), rw_no l e e' out part i v g1 hl hp hb he']
      exact rw_loop l hl rest (i + 1) e _ out (part ++ [v]) g2 (by omega) (by omega) (by rw [List.length_append, List.length_singleton]; omega) he (.inl rfl)
theorem Words3_den (l : List Val) (hl : l.length ≤ 100000000) : den K 19 [L (encL l)] [] = some (.ret (L (encP (Sl.words l))) []) := by
  have h := rw_loop l hl l 0 22 47 [] [] rfl (Nat.zero_le _) (Nat.le_refl _) (Nat.le_refl _) (.inl rfl) (.inl rfl)
  rw [List.nil_append, Sl.wordsF_words] at h
  unfold rwlp at h
  conv at h in loopAt _ _ => whnf
  obtain ⟨o, S, w, rfl, hn, f, s3⟩ := h
  have e0 : encL [] = [] := rfl
  have z0 : ((0 : Nat) : Int) = 0 := rfl
  simp only [rwH, e0, z0] at w
  refine den_run rfl rfl Tryz.func19 rfl Tryz.ntmps19 ⟨by simp, by simp [LK]⟩ ?_
  have hr : Tryz.f19.results = #[.tmp 2] := rfl
  simp only [go_sem, Nat.reduceLT, reduceIte, reduceCtorEq, Nat.reduceEqDiff, apply_ite (Option.map (outOf _)), Nat.reduceBEq, Nat.reduceAdd, Nat.reduceSub, Nat.reduceLeDiff, Nat.reduceMul, ev_buildSlice (len := 0) ty_descOf_28 ty_szOf_22 ty_zeroCells_22 ⟨rfl, by decide, by decide⟩, ev_buildSlice (len := 0) ty_descOf_22 ty_szOf_47 ty_zeroCells_47 ⟨rfl, by decide, by decide⟩, ev_len_sl ty_descOf_22, ev_indexAddr ty_descOf_22, ty_szOf_47, ty_shapeT_47, good_31, ev_buildSlice (len := 1) ty_descOf_22 ty_szOf_47 ty_zeroCells_47 ⟨rfl, by decide, by decide⟩, ev_append ty_appInfo_22, ev_appNew_sl ty_descOf_22, ev_buildSlice (len := 1) ty_descOf_28 ty_szOf_22 ty_zeroCells_22 ⟨rfl, by decide, by decide⟩, ev_append ty_appInfo_28, ev_appNew_sl ty_descOf_28, keep_19_4]
  rw [exL_head]
  simp only [go_sem, Nat.reduceLT, reduceIte, reduceCtorEq, Nat.reduceEqDiff, apply_ite (Option.map (outOf _)), Nat.reduceBEq, Nat.reduceAdd, Nat.reduceSub, Nat.reduceLeDiff, Nat.reduceMul, ev_buildSlice (len := 0) ty_descOf_28 ty_szOf_22 ty_zeroCells_22 ⟨rfl, by decide, by decide⟩, ev_buildSlice (len := 0) ty_descOf_22 ty_szOf_47 ty_zeroCells_47 ⟨rfl, by decide, by decide⟩, ev_len_sl ty_descOf_22, ev_indexAddr ty_descOf_22, ty_szOf_47, ty_shapeT_47, good_31, ev_buildSlice (len := 1) ty_descOf_22 ty_szOf_47 ty_zeroCells_47 ⟨rfl, by decide, by decide⟩, ev_append ty_appInfo_22, ev_appNew_sl ty_descOf_22, ev_buildSlice (len := 1) ty_descOf_28 ty_szOf_22 ty_zeroCells_22 ⟨rfl, by decide, by decide⟩, ev_append ty_appInfo_28, ev_appNew_sl ty_descOf_28, keep_19_4]
  erw [w]
  simp only [go_sem, Nat.reduceLT, reduceIte, reduceCtorEq, Nat.reduceEqDiff, apply_ite (Option.map (outOf _)), Nat.reduceBEq, Nat.reduceAdd, Nat.reduceSub, Nat.reduceLeDiff, Nat.reduceMul, ev_buildSlice (len := 0) ty_descOf_28 ty_szOf_22 ty_zeroCells_22 ⟨rfl, by decide, by decide⟩, ev_buildSlice (len := 0) ty_descOf_22 ty_szOf_47 ty_zeroCells_47 ⟨rfl, by decide, by decide⟩, ev_len_sl ty_descOf_22, ev_indexAddr ty_descOf_22, ty_szOf_47, ty_shapeT_47, good_31, ev_buildSlice (len := 1) ty_descOf_22 ty_szOf_47 ty_zeroCells_47 ⟨rfl, by decide, by decide⟩, ev_append ty_appInfo_22, ev_appNew_sl ty_descOf_22, ev_buildSlice (len := 1) ty_descOf_28 ty_szOf_22 ty_zeroCells_22 ⟨rfl, by decide, by decide⟩, ev_append ty_appInfo_28, ev_appNew_sl ty_descOf_28, keep_19_4, hr, hn, s3]
end Go.Abs
namespace Go.Abs
open Go Go.Proofs
set_option maxRecDepth 10000
attribute [local go_sem] exL_seq exL_region exL_cond exL_block exL_scope exL_ret exL_skip exL_exit runRegion runOps stepOp guardA absOp takeOver opd avOf cvOf St.degAt St.put okPV okVal okAV absBin intBin strBin boolBin setBoxes if_true Bool.false_eq_true if_false Option.map_some Option.map_none Option.bind_some Option.bind_none thenO outOf upd List.toList_toArray isOwn steal appArgs inApps AV.deg CV.deg AV.gv AV.isIter absNext some_bne List.length_nil List.length_cons List.filterMap_cons List.filterMap_nil beq_iff_eq List.getElem?_cons_zero List.getElem?_cons_succ Option.getD_some K_hook hookB Bool.false_and Bool.and_false Bool.and_self K_P K_own absCall doCall getBoxes lend back idx dedup AV.ren CV.ren TV.ren AV.ptrs CV.ptrs zipBox AV.flat CV.flat absLoad absStore cellsOfAV setAt newBox markB bldTypes absFieldAddr absField absExtract absAssert noAssert absMkIface ifcOf CV.pv? content pushHead ownT fillCells reps pvs chunks enterSt leave resOf resVars resVar outBoxes lentOnly TV.deg TV.av LK CV.plain CV.noBld nilBin absUn bound List.map_cons List.map_nil List.all_cons List.all_nil List.any_cons List.any_nil List.contains_cons List.contains_nil List.elem_cons List.elem_nil List.cons_append List.nil_append List.append_nil List.flatMap_cons List.flatMap_nil List.zip_cons_cons List.zip_nil_left List.zip_nil_right List.take_succ_cons List.take_zero List.take_nil List.drop_succ_cons List.drop_zero List.drop_nil List.isEmpty_nil List.isEmpty_cons Bool.and_true Bool.true_and Bool.or_true Bool.true_or Bool.or_false Bool.false_or Bool.not_true Bool.not_false Nat.add_zero Nat.zero_add Option.isNone_none Option.isNone_some Option.getD_none true_and and_true not_true_eq_false not_false_eq_true decide_true decide_false Nat.le_refl and_self Bool.not_eq_true Nat.sub_self or_true true_or Option.some.injEq List.length_map List.nil_eq and_false false_and AV.live CV.live CV.liveIn K_keep firstReg Option.orElse_some Option.orElse_none head keepSlots keepBoxes Int.lt_irrefl List.length_append ite_self memOK logOps opKey lentBoxes Key.clash Key.sees Key.writes Nat.lt_irrefl gt_iff_lt nobox_at bot_at false_or or_false beq_self_eq_true Bool.true_beq Bool.false_beq
abbrev tokCv (t : Tok) : List CV := [.pv (.int .i64 t.kind), .pv (.str t.text), .pv (.int .i64 t.n)]
theorem last_den (t : Tok) (kind : Int) : den K 73 [.agg (tokCv t), I kind] [] = some (.ret (B (decide (t = Ne.closeT kind))) []) := by
  have hv : decide (t = Ne.closeT kind) = ((t.kind == 7) && ((t.text == [Ne.closeC kind]) && ((t.n == 0) && true))) := (tok_beq t (Ne.closeT kind)).symm
  rw [hv]
  refine den_run rfl rfl Tryz.func73 rfl Tryz.ntmps73 ⟨by simp, by simp [LK]⟩ ?_
  have hr : Tryz.f73.results = #[.tmp 4] := rfl
  cases b1 : (t.kind == 7)
  · have e1 : (t.kind != 7) = true := by rw [bne, b1]; rfl
    simp only [go_sem, Nat.reduceLT, reduceIte, reduceCtorEq, Nat.reduceEqDiff, apply_ite (Option.map (outOf _)), Nat.reduceBEq, Nat.reduceAdd, Nat.reduceSub, Nat.reduceLeDiff, Nat.reduceMul, ty_fieldOff_45_0, ty_szOf_3, ty_shapeT_3, ty_fieldOff_45_2, ty_fieldOff_45_1, ty_szOf_9, ty_shapeT_9, hr, e1]
  · have e1 : (t.kind != 7) = false := by rw [bne, b1]; rfl
    cases b2 : (t.n == 0)
    · have e2 : (t.n != 0) = true := by rw [bne, b2]; rfl
      simp only [go_sem, Nat.reduceLT, reduceIte, reduceCtorEq, Nat.reduceEqDiff, apply_ite (Option.map (outOf _)), Nat.reduceBEq, Nat.reduceAdd, Nat.reduceSub, Nat.reduceLeDiff, Nat.reduceMul, ty_fieldOff_45_0, ty_szOf_3, ty_shapeT_3, ty_fieldOff_45_2, ty_fieldOff_45_1, ty_szOf_9, ty_shapeT_9, hr, e1, e2]
    · have e2 : (t.n != 0) = false := by rw [bne, b2]; rfl
      by_cases h3 : kind = 3
      · subst h3
        have c3 : Ne.closeC 3 = 93 := rfl
        simp only [go_sem, Nat.reduceLT, reduceIte, reduceCtorEq, Nat.reduceEqDiff, apply_ite (Option.map (outOf _)), Nat.reduceBEq, Nat.reduceAdd, Nat.reduceSub, Nat.reduceLeDiff, Nat.reduceMul, ty_fieldOff_45_0, ty_szOf_3, ty_shapeT_3, ty_fieldOff_45_2, ty_fieldOff_45_1, ty_szOf_9, ty_shapeT_9, hr, e1, e2, c3]
      · have e3 : (kind == 3) = false := by rw [beq_eq_false_iff_ne]; exact h3
        by_cases h4 : kind = 4
        · subst h4
          have c4 : Ne.closeC 4 = 125 := rfl
          have e43 : ((4 : Int) == 3) = false := by decide
          have n43 : ((4 : Int) = 3) = False := by decide
          simp only [go_sem, Nat.reduceLT, reduceIte, reduceCtorEq, Nat.reduceEqDiff, apply_ite (Option.map (outOf _)), Nat.reduceBEq, Nat.reduceAdd, Nat.reduceSub, Nat.reduceLeDiff, Nat.reduceMul, ty_fieldOff_45_0, ty_szOf_3, ty_shapeT_3, ty_fieldOff_45_2, ty_fieldOff_45_1, ty_szOf_9, ty_shapeT_9, hr, e1, e2, c4, e43, n43]
        · have e4 : (kind == 4) = false := by rw [beq_eq_false_iff_ne]; exact h4
          have c : Ne.closeC kind = 41 := by simp [Ne.closeC, h3, h4]
          simp only [go_sem, Nat.reduceLT, reduceIte, reduceCtorEq, Nat.reduceEqDiff, apply_ite (Option.map (outOf _)), Nat.reduceBEq, Nat.reduceAdd, Nat.reduceSub, Nat.reduceLeDiff, Nat.reduceMul, ty_fieldOff_45_0, ty_szOf_3, ty_shapeT_3, ty_fieldOff_45_2, ty_fieldOff_45_1, ty_szOf_9, ty_shapeT_9, hr, e1, e2, e3, e4, c]
theorem open_den (t : Tok) : den K 74 [.agg (tokCv t)] [] = some (.ret (I (Ne.opens t)) []) := by
  obtain ⟨k, s, n⟩ := t
  have hv : Ne.opens ⟨k, s, n⟩ = opensL k s n := rfl
  rw [hv]
  unfold opensL
  refine den_run rfl rfl Tryz.func74 rfl Tryz.ntmps74 ⟨by simp, by simp [LK]⟩ ?_
  have hr : Tryz.f74.results = #[.tmp 2] := rfl
  by_cases h2 : k = 2
  · subst h2
    simp only [go_sem, Nat.reduceLT, reduceIte, reduceCtorEq, Nat.reduceEqDiff, apply_ite (Option.map (outOf _)), Nat.reduceBEq, Nat.reduceAdd, Nat.reduceSub, Nat.reduceLeDiff, Nat.reduceMul, ty_fieldOff_45_0, ty_szOf_3, ty_shapeT_3, ty_fieldOff_45_2, ty_fieldOff_45_1, ty_szOf_9, ty_shapeT_9, hr]
  · rw [if_neg h2]
    have e2 : (k == 2) = false := by rw [beq_eq_false_iff_ne]; exact h2
    by_cases h7 : k = 7
    · subst h7
      have e72 : ((7 : Int) == 2) = false := by decide
      have n72 : ((7 : Int) = 2) = False := by decide
      have e77 : ((7 : Int) != 7) = false := by decide
      by_cases hn : n = 0
      · subst hn
        have e0 : ((0 : Int) != 0) = false := by decide
        rw [if_pos ⟨rfl, rfl⟩]
        by_cases a1 : s = [40]
        · subst a1
          simp only [go_sem, Nat.reduceLT, reduceIte, reduceCtorEq, Nat.reduceEqDiff, apply_ite (Option.map (outOf _)), Nat.reduceBEq, Nat.reduceAdd, Nat.reduceSub, Nat.reduceLeDiff, Nat.reduceMul, ty_fieldOff_45_0, ty_szOf_3, ty_shapeT_3, ty_fieldOff_45_2, ty_fieldOff_45_1, ty_szOf_9, ty_shapeT_9, hr, e72, n72, e77, e0]
        · have b1 : (s == [40]) = false := by rw [beq_eq_false_iff_ne]; exact a1
          rw [if_neg a1]
          by_cases a2 : s = [91]
          · subst a2
            simp only [go_sem, Nat.reduceLT, reduceIte, reduceCtorEq, Nat.reduceEqDiff, apply_ite (Option.map (outOf _)), Nat.reduceBEq, Nat.reduceAdd, Nat.reduceSub, Nat.reduceLeDiff, Nat.reduceMul, ty_fieldOff_45_0, ty_szOf_3, ty_shapeT_3, ty_fieldOff_45_2, ty_fieldOff_45_1, ty_szOf_9, ty_shapeT_9, hr, e72, n72, e77, e0, b1]
          · have b2 : (s == [91]) = false := by rw [beq_eq_false_iff_ne]; exact a2
            rw [if_neg a2]
            by_cases a3 : s = [123]
            · subst a3
              simp only [go_sem, Nat.reduceLT, reduceIte, reduceCtorEq, Nat.reduceEqDiff, apply_ite (Option.map (outOf _)), Nat.reduceBEq, Nat.reduceAdd, Nat.reduceSub, Nat.reduceLeDiff, Nat.reduceMul, ty_fieldOff_45_0, ty_szOf_3, ty_shapeT_3, ty_fieldOff_45_2, ty_fieldOff_45_1, ty_szOf_9, ty_shapeT_9, hr, e72, n72, e77, e0, b1, b2]
            · have b3 : (s == [123]) = false := by rw [beq_eq_false_iff_ne]; exact a3
              rw [if_neg a3]
              simp only [go_sem, Nat.reduceLT, reduceIte, reduceCtorEq, Nat.reduceEqDiff, apply_ite (Option.map (outOf _)), Nat.reduceBEq, Nat.reduceAdd, Nat.reduceSub, Nat.reduceLeDiff, Nat.reduceMul, ty_fieldOff_45_0, ty_szOf_3, ty_shapeT_3, ty_fieldOff_45_2, ty_fieldOff_45_1, ty_szOf_9, ty_shapeT_9, hr, e72, n72, e77, e0, b1, b2, b3]
      · have e0 : (n != 0) = true := by rw [bne_iff_ne]; exact hn
        rw [if_neg (fun h => hn h.2)]
        simp only [go_sem, Nat.reduceLT, reduceIte, reduceCtorEq, Nat.reduceEqDiff, apply_ite (Option.map (outOf _)), Nat.reduceBEq, Nat.reduceAdd, Nat.reduceSub, Nat.reduceLeDiff, Nat.reduceMul, ty_fieldOff_45_0, ty_szOf_3, ty_shapeT_3, ty_fieldOff_45_2, ty_fieldOff_45_1, ty_szOf_9, ty_shapeT_9, hr, e72, n72, e77, e0]
    · have e7 : (k != 7) = true := by rw [bne_iff_ne]; exact h7
      rw [if_neg (fun h => h7 h.1)]
      simp only [go_sem, Nat.reduceLT, reduceIte, reduceCtorEq, Nat.reduceEqDiff, apply_ite (Option.map (outOf _)), Nat.reduceBEq, Nat.reduceAdd, Nat.reduceSub, Nat.reduceLeDiff, Nat.reduceMul, ty_fieldOff_45_0, ty_szOf_3, ty_shapeT_3, ty_fieldOff_45_2, ty_fieldOff_45_1, ty_szOf_9, ty_shapeT_9, hr, e2, e7]
theorem opens_posT {t : Tok} (h : Ne.opens t ≠ 0) : 0 < Ne.opens t := by
  rcases Ne.opens_vals t with h1 | h1 | h1 | h1 | h1 <;> omega
abbrev u2H (l : List Tok) (kind left : Int) (i : Nat) (e : Nat) (acc : List Val) : St :=
  { sl := upd (upd (upd (upd (upd bot 9 (.c (.loc 9 0))) 8 (.c (.loc 8 0))) 3 (I left)) 2 (I kind)) 0 (L (l.map Tok.enc)), bx := upd (upd nobox 9 (some [.own e (encL acc), .pv (.int .i64 i), .pv (.bool false)])) 8 (some [.own 0 [], .pv (.int .i64 0), .pv (.bool false)]), nt := 76 }
noncomputable def ulp2 : Code := .loop (loopAt Tryz.f44 2)
def Ret2 (x : List (List PV)) (j : Int) (bad : Bool) (o : Out) (S : St) : Prop := o = .ret ∧ S.sl 8 = .c (.loc 8 0) ∧ S.bx 8 = some [.pv (.sl x), .pv (.int .i64 j), .pv (.bool bad)]
theorem u2_nil (l : List Tok) (kind left : Int) (e : Nat) (acc : List Val) :
    Ends (exL K 44 ulp2 (u2H l kind left l.length e acc)) fun o S => o = .exit 0 ∧ S.nt = 76 ∧ S.sl 8 = .c (.loc 8 0) ∧ S.sl 9 = .c (.loc 9 0) ∧ S.bx 8 = some [.own 0 [], .pv (.int .i64 0), .pv (.bool false)] ∧ S.bx 9 = some [.own e (encL acc), .pv (.int .i64 l.length), .pv (.bool false)] := by
  unfold ulp2
  conv in loopAt _ _ => whnf
  rw [exL_loop]
  simp only [go_sem, Nat.reduceLT, reduceIte, reduceCtorEq, Nat.reduceEqDiff, apply_ite (Option.map (outOf _)), Nat.reduceBEq, Nat.reduceAdd, Nat.reduceSub, Nat.reduceLeDiff, Nat.reduceMul, ty_shapeT_69, ty_zeroCells_69, ev_build ty_zeroCells_69 ty_placesOf_69, ty_szOf_69, ty_fieldOff_69_1, ty_szOf_3, ty_shapeT_3, ev_len_sl ty_descOf_41, ev_indexAddr ty_descOf_41, ty_szOf_45, ty_shapeT_45, ty_zeroCells_45, good_73, good_74, ev_build ty_zeroCells_47 ty_placesOf_47, ty_zeroCells_47, ty_szOf_47, ty_fieldOff_69_2, ty_szOf_4, good_44, ty_shapeT_4, ty_fieldOff_69_0, ty_szOf_22, ty_shapeT_22, ty_fieldOff_47_1, ty_shapeT_47, ev_buildSlice (len := 1) ty_descOf_22 ty_szOf_47 ty_zeroCells_47 ⟨rfl, by decide, by decide⟩, ev_append ty_appInfo_22, ev_appNew_sl ty_descOf_22, keep_44_2, ends_some]
theorem tok_at (l : List Tok) (i : Nat) (t : Tok) (h : l[i]? = some t) : (l.map Tok.enc)[(i : Int).toNat]? = some [.int .i64 t.kind, .str t.text, .int .i64 t.n] := by
  simp [h, Tok.enc]
theorem u2_last (l : List Tok) (kind left : Int) (i : Nat) (e : Nat) (acc : List Val) (t : Tok) (hi : l[i]? = some t) (hl : l.length ≤ 100000000) (h : Ne.isLast kind t = true) :
    Ends (exL K 44 ulp2 (u2H l kind left i e acc)) (Ret2 (encL acc) ((i + 1 : Nat) : Int) false) := by
  have hil : i < l.length := (List.getElem?_eq_some_iff.1 hi).1
  have hlt : decide ((i : Int) < (l.length : Int)) = true := decide_eq_true (by omega)
  have hget := tok_at l i t hi
  have hw : IntKind.i64.wrap ((i : Int) + 1) = ((i + 1 : Nat) : Int) := wrap_nat i (by omega)
  unfold Ne.isLast at h
  rw [Bool.and_eq_true] at h
  obtain ⟨e1, e2⟩ := h
  have hld := last_den t kind
  rw [e2] at hld
  unfold ulp2 Ret2
  conv in loopAt _ _ => whnf
  rw [exL_loop]
  simp only [go_sem, Nat.reduceLT, reduceIte, reduceCtorEq, Nat.reduceEqDiff, apply_ite (Option.map (outOf _)), Nat.reduceBEq, Nat.reduceAdd, Nat.reduceSub, Nat.reduceLeDiff, Nat.reduceMul, ty_shapeT_69, ty_zeroCells_69, ev_build ty_zeroCells_69 ty_placesOf_69, ty_szOf_69, ty_fieldOff_69_1, ty_szOf_3, ty_shapeT_3, ev_len_sl ty_descOf_41, ev_indexAddr ty_descOf_41, ty_szOf_45, ty_shapeT_45, ty_zeroCells_45, good_73, good_74, ev_build ty_zeroCells_47 ty_placesOf_47, ty_zeroCells_47, ty_szOf_47, ty_fieldOff_69_2, ty_szOf_4, good_44, ty_shapeT_4, ty_fieldOff_69_0, ty_szOf_22, ty_shapeT_22, ty_fieldOff_47_1, ty_shapeT_47, ev_buildSlice (len := 1) ty_descOf_22 ty_szOf_47 ty_zeroCells_47 ⟨rfl, by decide, by decide⟩, ev_append ty_appInfo_22, ev_appNew_sl ty_descOf_22, keep_44_2, hlt, hget, Int.natCast_nonneg, hw, e1, hld, ends_some]
theorem snoc_valK (acc : List Val) (k : Int) (t : Tok) (vs : List Val) : encL acc ++ [[.int .i64 k, .int .i64 t.kind, .str t.text, .int .i64 t.n, .sl (encL vs)]] = encL (acc ++ [.mk k t vs]) := by
  rw [encL_app]; rfl
theorem snoc_valN (acc : List Val) (k : Int) (t : Tok) : encL acc ++ [[.int .i64 k, .int .i64 t.kind, .str t.text, .int .i64 t.n, .sl []]] = encL (acc ++ [.mk k t []]) := by
  rw [encL_app]; rfl
theorem snoc_val0 (acc : List Val) (k : Int) (vs : List Val) : encL acc ++ [[.int .i64 k, .int .i64 0, .str [], .int .i64 0, .sl (encL vs)]] = encL (acc ++ [.mk k Ne.tok0 vs]) := by
  rw [encL_app]; rfl
set_option maxHeartbeats 4000000 in
theorem u2_tok (l : List Tok) (kind left : Int) (i : Nat) (e : Nat) (acc : List Val) (t : Tok) (hi : l[i]? = some t) (hl : l.length ≤ 100000000) (h : Ne.isLast kind t = false) (he : e = 47 ∨ acc = []) (hacc : acc.length < 100000000) (h0 : Ne.opens t = 0) :
    exL K 44 ulp2 (u2H l kind left i e acc) = exL K 44 ulp2 (u2H l kind left (i + 1) 47 (acc ++ [.mk 1 t []])) := by
  have hil : i < l.length := (List.getElem?_eq_some_iff.1 hi).1
  have hlt : decide ((i : Int) < (l.length : Int)) = true := decide_eq_true (by omega)
  have hget := tok_at l i t hi
  have hw : IntKind.i64.wrap ((i : Int) + 1) = ((i + 1 : Nat) : Int) := wrap_nat i (by omega)
  have hld := last_den t kind
  have hop := open_den t
  rw [h0] at hop
  have hown : e = 47 ∨ (encL acc).isEmpty = true := by
    rcases he with rfl | rfl
    · exact .inl rfl
    · exact .inr rfl
  have hlim : acc.length + 1 < appLim := by unfold appLim; omega
  have hlv := lens_valsK acc
  unfold ulp2
  conv in loopAt _ _ => whnf
  conv in loopAt _ _ => whnf
  conv in exL _ _ _ (u2H l kind left i e acc) => rw [exL_loop]
  unfold Ne.isLast at h
  cases e1 : decide (0 < kind)
  · simp only [go_sem, Nat.reduceLT, reduceIte, reduceCtorEq, Nat.reduceEqDiff, apply_ite (Option.map (outOf _)), Nat.reduceBEq, Nat.reduceAdd, Nat.reduceSub, Nat.reduceLeDiff, Nat.reduceMul, ty_shapeT_69, ty_zeroCells_69, ev_build ty_zeroCells_69 ty_placesOf_69, ty_szOf_69, ty_fieldOff_69_1, ty_szOf_3, ty_shapeT_3, ev_len_sl ty_descOf_41, ev_indexAddr ty_descOf_41, ty_szOf_45, ty_shapeT_45, ty_zeroCells_45, good_73, good_74, ev_build ty_zeroCells_47 ty_placesOf_47, ty_zeroCells_47, ty_szOf_47, ty_fieldOff_69_2, ty_szOf_4, good_44, ty_shapeT_4, ty_fieldOff_69_0, ty_szOf_22, ty_shapeT_22, ty_fieldOff_47_1, ty_shapeT_47, ev_buildSlice (len := 1) ty_descOf_22 ty_szOf_47 ty_zeroCells_47 ⟨rfl, by decide, by decide⟩, ev_append ty_appInfo_22, ev_appNew_sl ty_descOf_22, keep_44_2, hlt, hget, Int.natCast_nonneg, hw, e1, hop, encL_len, hlim, hlv, lens_valK, hown, snoc_valN]
    rw [exL_head]
    simp only [go_sem, Nat.reduceLT, reduceIte, reduceCtorEq, Nat.reduceEqDiff, apply_ite (Option.map (outOf _)), Nat.reduceBEq, Nat.reduceAdd, Nat.reduceSub, Nat.reduceLeDiff, Nat.reduceMul, ty_shapeT_69, ty_zeroCells_69, ev_build ty_zeroCells_69 ty_placesOf_69, ty_szOf_69, ty_fieldOff_69_1, ty_szOf_3, ty_shapeT_3, ev_len_sl ty_descOf_41, ev_indexAddr ty_descOf_41, ty_szOf_45, ty_shapeT_45, ty_zeroCells_45, good_73, good_74, ev_build ty_zeroCells_47 ty_placesOf_47, ty_zeroCells_47, ty_szOf_47, ty_fieldOff_69_2, ty_szOf_4, good_44, ty_shapeT_4, ty_fieldOff_69_0, ty_szOf_22, ty_shapeT_22, ty_fieldOff_47_1, ty_shapeT_47, ev_buildSlice (len := 1) ty_descOf_22 ty_szOf_47 ty_zeroCells_47 ⟨rfl, by decide, by decide⟩, ev_append ty_appInfo_22, ev_appNew_sl ty_descOf_22, keep_44_2]
  · rw [e1, Bool.true_and] at h
    rw [h] at hld
    simp only [go_sem, Nat.reduceLT, reduceIte, reduceCtorEq, Nat.reduceEqDiff, apply_ite (Option.map (outOf _)), Nat.reduceBEq, Nat.reduceAdd, Nat.reduceSub, Nat.reduceLeDiff, Nat.reduceMul, ty_shapeT_69, ty_zeroCells_69, ev_build ty_zeroCells_69 ty_placesOf_69, ty_szOf_69, ty_fieldOff_69_1, ty_szOf_3, ty_shapeT_3, ev_len_sl ty_descOf_41, ev_indexAddr ty_descOf_41, ty_szOf_45, ty_shapeT_45, ty_zeroCells_45, good_73, good_74, ev_build ty_zeroCells_47 ty_placesOf_47, ty_zeroCells_47, ty_szOf_47, ty_fieldOff_69_2, ty_szOf_4, good_44, ty_shapeT_4, ty_fieldOff_69_0, ty_szOf_22, ty_shapeT_22, ty_fieldOff_47_1, ty_shapeT_47, ev_buildSlice (len := 1) ty_descOf_22 ty_szOf_47 ty_zeroCells_47 ⟨rfl, by decide, by decide⟩, ev_append ty_appInfo_22, ev_appNew_sl ty_descOf_22, keep_44_2, hlt, hget, Int.natCast_nonneg, hw, e1, hld, hop, encL_len, hlim, hlv, lens_valK, hown, snoc_valN]
    rw [exL_head]
    simp only [go_sem, Nat.reduceLT, reduceIte, reduceCtorEq, Nat.reduceEqDiff, apply_ite (Option.map (outOf _)), Nat.reduceBEq, Nat.reduceAdd, Nat.reduceSub, Nat.reduceLeDiff, Nat.reduceMul, ty_shapeT_69, ty_zeroCells_69, ev_build ty_zeroCells_69 ty_placesOf_69, ty_szOf_69, ty_fieldOff_69_1, ty_szOf_3, ty_shapeT_3, ev_len_sl ty_descOf_41, ev_indexAddr ty_descOf_41, ty_szOf_45, ty_shapeT_45, ty_zeroCells_45, good_73, good_74, ev_build ty_zeroCells_47 ty_placesOf_47, ty_zeroCells_47, ty_szOf_47, ty_fieldOff_69_2, ty_szOf_4, good_44, ty_shapeT_4, ty_fieldOff_69_0, ty_szOf_22, ty_shapeT_22, ty_fieldOff_47_1, ty_shapeT_47, ev_buildSlice (len := 1) ty_descOf_22 ty_szOf_47 ty_zeroCells_47 ⟨rfl, by decide, by decide⟩, ev_append ty_appInfo_22, ev_appNew_sl ty_descOf_22, keep_44_2]
set_option maxHeartbeats 4000000 in
theorem u2_in (l : List Tok) (kind : Int) (n : Nat) (i j : Nat) (e : Nat) (acc : List Val) (t : Tok) (vs : List Val) (hi : l[i]? = some t) (hl : l.length ≤ 100000000) (hn : n < 1000) (h : Ne.isLast kind t = false) (he : e = 47 ∨ acc = []) (hacc : acc.length < 100000000) (h0 : Ne.opens t ≠ 0)
    (hin : den K 44 [L (l.map Tok.enc), I ((i + 1 : Nat) : Int), I (Ne.opens t), I n] [] = some (.ret (.agg [.pv (.sl (encL vs)), .pv (.int .i64 j), .pv (.bool false)]) [])) :
    exL K 44 ulp2 (u2H l kind ((n + 1 : Nat) : Int) i e acc) = exL K 44 ulp2 (u2H l kind ((n + 1 : Nat) : Int) j 47 (acc ++ [.mk (Ne.opens t) (if Ne.opens t = 5 then t else Ne.tok0) vs])) := by
  have hil : i < l.length := (List.getElem?_eq_some_iff.1 hi).1
  have hlt : decide ((i : Int) < (l.length : Int)) = true := decide_eq_true (by omega)
  have hget := tok_at l i t hi
  have hw : IntKind.i64.wrap ((i : Int) + 1) = ((i + 1 : Nat) : Int) := wrap_nat i (by omega)
  have hld := last_den t kind
  have hop := open_den t
  have hpos : decide (0 < Ne.opens t) = true := decide_eq_true (opens_posT h0)
  have hown : e = 47 ∨ (encL acc).isEmpty = true := by
    rcases he with rfl | rfl
    · exact .inl rfl
    · exact .inr rfl
  have hlim : acc.length + 1 < appLim := by unfold appLim; omega
  have hlv := lens_valsK acc
  have hl0 : (((n + 1 : Nat) : Int) == 0) = false := by rw [beq_eq_false_iff_ne]; omega
  have hwl : IntKind.i64.wrap (((n + 1 : Nat) : Int) - 1) = (n : Int) := by rw [IntWalk.i64_in _ (by omega)]; omega
  unfold ulp2
  conv in loopAt _ _ => whnf
  conv in loopAt _ _ => whnf
  conv in exL _ _ _ (u2H l kind _ i e acc) => rw [exL_loop]
  by_cases h5 : Ne.opens t = 5
  · have e5 : (Ne.opens t == 5) = true := by rw [beq_iff_eq]; exact h5
    rw [if_pos h5]
    unfold Ne.isLast at h
    cases e1 : decide (0 < kind)
    · simp only [go_sem, Nat.reduceLT, reduceIte, reduceCtorEq, Nat.reduceEqDiff, apply_ite (Option.map (outOf _)), Nat.reduceBEq, Nat.reduceAdd, Nat.reduceSub, Nat.reduceLeDiff, Nat.reduceMul, ty_shapeT_69, ty_zeroCells_69, ev_build ty_zeroCells_69 ty_placesOf_69, ty_szOf_69, ty_fieldOff_69_1, ty_szOf_3, ty_shapeT_3, ev_len_sl ty_descOf_41, ev_indexAddr ty_descOf_41, ty_szOf_45, ty_shapeT_45, ty_zeroCells_45, good_73, good_74, ev_build ty_zeroCells_47 ty_placesOf_47, ty_zeroCells_47, ty_szOf_47, ty_fieldOff_69_2, ty_szOf_4, good_44, ty_shapeT_4, ty_fieldOff_69_0, ty_szOf_22, ty_shapeT_22, ty_fieldOff_47_1, ty_shapeT_47, ev_buildSlice (len := 1) ty_descOf_22 ty_szOf_47 ty_zeroCells_47 ⟨rfl, by decide, by decide⟩, ev_append ty_appInfo_22, ev_appNew_sl ty_descOf_22, keep_44_2, hlt, hget, Int.natCast_nonneg, hw, e1, hld, hop, hpos, encL_len, hlim, hlv, lens_valK, hown, hin, hwl, hl0, e5, snoc_valK]
      rw [exL_head]
      simp only [go_sem, Nat.reduceLT, reduceIte, reduceCtorEq, Nat.reduceEqDiff, apply_ite (Option.map (outOf _)), Nat.reduceBEq, Nat.reduceAdd, Nat.reduceSub, Nat.reduceLeDiff, Nat.reduceMul, ty_shapeT_69, ty_zeroCells_69, ev_build ty_zeroCells_69 ty_placesOf_69, ty_szOf_69, ty_fieldOff_69_1, ty_szOf_3, ty_shapeT_3, ev_len_sl ty_descOf_41, ev_indexAddr ty_descOf_41, ty_szOf_45, ty_shapeT_45, ty_zeroCells_45, good_73, good_74, ev_build ty_zeroCells_47 ty_placesOf_47, ty_zeroCells_47, ty_szOf_47, ty_fieldOff_69_2, ty_szOf_4, good_44, ty_shapeT_4, ty_fieldOff_69_0, ty_szOf_22, ty_shapeT_22, ty_fieldOff_47_1, ty_shapeT_47, ev_buildSlice (len := 1) ty_descOf_22 ty_szOf_47 ty_zeroCells_47 ⟨rfl, by decide, by decide⟩, ev_append ty_appInfo_22, ev_appNew_sl ty_descOf_22, keep_44_2]
    · rw [e1, Bool.true_and] at h
      rw [h] at hld
      simp only [go_sem, Nat.reduceLT, reduceIte, reduceCtorEq, Nat.reduceEqDiff, apply_ite (Option.map (outOf _)), Nat.reduceBEq, Nat.reduceAdd, Nat.reduceSub, Nat.reduceLeDiff, Nat.reduceMul, ty_shapeT_69, ty_zeroCells_69, ev_build ty_zeroCells_69 ty_placesOf_69, ty_szOf_69, ty_fieldOff_69_1, ty_szOf_3, ty_shapeT_3, ev_len_sl ty_descOf_41, ev_indexAddr ty_descOf_41, ty_szOf_45, ty_shapeT_45, ty_zeroCells_45, good_73, good_74, ev_build ty_zeroCells_47 ty_placesOf_47, ty_zeroCells_47, ty_szOf_47, ty_fieldOff_69_2, ty_szOf_4, good_44, ty_shapeT_4, ty_fieldOff_69_0, ty_szOf_22, ty_shapeT_22, ty_fieldOff_47_1, ty_shapeT_47, ev_buildSlice (len := 1) ty_descOf_22 ty_szOf_47 ty_zeroCells_47 ⟨rfl, by decide, by decide⟩, ev_append ty_appInfo_22, ev_appNew_sl ty_descOf_22, keep_44_2, hlt, hget, Int.natCast_nonneg, hw, e1, hld, hop, hpos, encL_len, hlim, hlv, lens_valK, hown, hin, hwl, hl0, e5, snoc_valK]
      rw [exL_head]
      simp only [go_sem, Nat.reduceLT, reduceIte, reduceCtorEq, Nat.reduceEqDiff, apply_ite (Option.map (outOf _)), Nat.reduceBEq, Nat.reduceAdd, Nat.reduceSub, Nat.reduceLeDiff, Nat.reduceMul, ty_shapeT_69, ty_zeroCells_69, ev_build ty_zeroCells_69 ty_placesOf_69, ty_szOf_69, ty_fieldOff_69_1, ty_szOf_3, ty_shapeT_3, ev_len_sl ty_descOf_41, ev_indexAddr ty_descOf_41, ty_szOf_45, ty_shapeT_45, ty_zeroCells_45, good_73, good_74, ev_build ty_zeroCells_47 ty_placesOf_47, ty_zeroCells_47, ty_szOf_47, ty_fieldOff_69_2, ty_szOf_4, good_44, ty_shapeT_4, ty_fieldOff_69_0, ty_szOf_22, ty_shapeT_22, ty_fieldOff_47_1, ty_shapeT_47, ev_buildSlice (len := 1) ty_descOf_22 ty_szOf_47 ty_zeroCells_47 ⟨rfl, by decide, by decide⟩, ev_append ty_appInfo_22, ev_appNew_sl ty_descOf_22, keep_44_2]
  · have e5 : (Ne.opens t == 5) = false := by rw [beq_eq_false_iff_ne]; exact h5
    rw [if_neg h5]
    unfold Ne.isLast at h
    cases e1 : decide (0 < kind)
    · simp only [go_sem, Nat.reduceLT, reduceIte, reduceCtorEq, Nat.reduceEqDiff, apply_ite (Option.map (outOf _)), Nat.reduceBEq, Nat.reduceAdd, Nat.reduceSub, Nat.reduceLeDiff, Nat.reduceMul, ty_shapeT_69, ty_zeroCells_69, ev_build ty_zeroCells_69 ty_placesOf_69, ty_szOf_69, ty_fieldOff_69_1, ty_szOf_3, ty_shapeT_3, ev_len_sl ty_descOf_41, ev_indexAddr ty_descOf_41, ty_szOf_45, ty_shapeT_45, ty_zeroCells_45, good_73, good_74, ev_build ty_zeroCells_47 ty_placesOf_47, ty_zeroCells_47, ty_szOf_47, ty_fieldOff_69_2, ty_szOf_4, good_44, ty_shapeT_4, ty_fieldOff_69_0, ty_szOf_22, ty_shapeT_22, ty_fieldOff_47_1, ty_shapeT_47, ev_buildSlice (len := 1) ty_descOf_22 ty_szOf_47 ty_zeroCells_47 ⟨rfl, by decide, by decide⟩, ev_append ty_appInfo_22, ev_appNew_sl ty_descOf_22, keep_44_2, hlt, hget, Int.natCast_nonneg, hw, e1, hld, hop, hpos, encL_len, hlim, hlv, lens_valK, hown, hin, hwl, hl0, e5, snoc_val0]
      rw [exL_head]
      simp only [go_sem, Nat.reduceLT, reduceIte, reduceCtorEq, Nat.reduceEqDiff, apply_ite (Option.map (outOf _)), Nat.reduceBEq, Nat.reduceAdd, Nat.reduceSub, Nat.reduceLeDiff, Nat.reduceMul, ty_shapeT_69, ty_zeroCells_69, ev_build ty_zeroCells_69 ty_placesOf_69, ty_szOf_69, ty_fieldOff_69_1, ty_szOf_3, ty_shapeT_3, ev_len_sl ty_descOf_41, ev_indexAddr ty_descOf_41, ty_szOf_45, ty_shapeT_45, ty_zeroCells_45, good_73, good_74, ev_build ty_zeroCells_47 ty_placesOf_47, ty_zeroCells_47, ty_szOf_47, ty_fieldOff_69_2, ty_szOf_4, good_44, ty_shapeT_4, ty_fieldOff_69_0, ty_szOf_22, ty_shapeT_22, ty_fieldOff_47_1, ty_shapeT_47, ev_buildSlice (len := 1) ty_descOf_22 ty_szOf_47 ty_zeroCells_47 ⟨rfl, by decide, by decide⟩, ev_append ty_appInfo_22, ev_appNew_sl ty_descOf_22, keep_44_2]
    · rw [e1, Bool.true_and] at h
      rw [h] at hld
      simp only [go_sem, Nat.reduceLT, reduceIte, reduceCtorEq, Nat.reduceEqDiff, apply_ite (Option.map (outOf _)), Nat.reduceBEq, Nat.reduceAdd, Nat.reduceSub, Nat.reduceLeDiff, Nat.reduceMul, ty_shapeT_69, ty_zeroCells_69, ev_build ty_zeroCells_69 ty_placesOf_69, ty_szOf_69, ty_fieldOff_69_1, ty_szOf_3, ty_shapeT_3, ev_len_sl ty_descOf_41, ev_indexAddr ty_descOf_41, ty_szOf_45, ty_shapeT_45, ty_zeroCells_45, good_73, good_74, ev_build ty_zeroCells_47 ty_placesOf_47, ty_zeroCells_47, ty_szOf_47, ty_fieldOff_69_2, ty_szOf_4, good_44, ty_shapeT_4, ty_fieldOff_69_0, ty_szOf_22, ty_shapeT_22, ty_fieldOff_47_1, ty_shapeT_47, ev_buildSlice (len := 1) ty_descOf_22 ty_szOf_47 ty_zeroCells_47 ⟨rfl, by decide, by decide⟩, ev_append ty_appInfo_22, ev_appNew_sl ty_descOf_22, keep_44_2, hlt, hget, Int.natCast_nonneg, hw, e1, hld, hop, hpos, encL_len, hlim, hlv, lens_valK, hown, hin, hwl, hl0, e5, snoc_val0]
      rw [exL_head]
      simp only [go_sem, Nat.reduceLT, reduceIte, reduceCtorEq, Nat.reduceEqDiff, apply_ite (Option.map (outOf _)), Nat.reduceBEq, Nat.reduceAdd, Nat.reduceSub, Nat.reduceLeDiff, Nat.reduceMul, ty_shapeT_69, ty_zeroCells_69, ev_build ty_zeroCells_69 ty_placesOf_69, ty_szOf_69, ty_fieldOff_69_1, ty_szOf_3, ty_shapeT_3, ev_len_sl ty_descOf_41, ev_indexAddr ty_descOf_41, ty_szOf_45, ty_shapeT_45, ty_zeroCells_45, good_73, good_74, ev_build ty_zeroCells_47 ty_placesOf_47, ty_zeroCells_47, ty_szOf_47, ty_fieldOff_69_2, ty_szOf_4, good_44, ty_shapeT_4, ty_fieldOff_69_0, ty_szOf_22, ty_shapeT_22, ty_fieldOff_47_1, ty_shapeT_47, ev_buildSlice (len := 1) ty_descOf_22 ty_szOf_47 ty_zeroCells_47 ⟨rfl, by decide, by decide⟩, ev_append ty_appInfo_22, ev_appNew_sl ty_descOf_22, keep_44_2]
theorem u2_zero (l : List Tok) (kind : Int) (i : Nat) (e : Nat) (acc : List Val) (t : Tok) (hi : l[i]? = some t) (hl : l.length ≤ 100000000) (h : Ne.isLast kind t = false) (h0 : Ne.opens t ≠ 0) :
    Ends (exL K 44 ulp2 (u2H l kind ((0 : Nat) : Int) i e acc)) fun o S => ∃ a b, Ret2 a b true o S := by
  have hil : i < l.length := (List.getElem?_eq_some_iff.1 hi).1
  have hlt : decide ((i : Int) < (l.length : Int)) = true := decide_eq_true (by omega)
  have hget := tok_at l i t hi
  have hw : IntKind.i64.wrap ((i : Int) + 1) = ((i + 1 : Nat) : Int) := wrap_nat i (by omega)
  have hld := last_den t kind
  have hop := open_den t
  have hpos : decide (0 < Ne.opens t) = true := decide_eq_true (opens_posT h0)
  have hl0 : (((0 : Nat) : Int) == 0) = true := by decide
  unfold ulp2 Ret2
  conv in loopAt _ _ => whnf
  rw [exL_loop]
  unfold Ne.isLast at h
  cases e1 : decide (0 < kind)
  · simp only [go_sem, Nat.reduceLT, reduceIte, reduceCtorEq, Nat.reduceEqDiff, apply_ite (Option.map (outOf _)), Nat.reduceBEq, Nat.reduceAdd, Nat.reduceSub, Nat.reduceLeDiff, Nat.reduceMul, ty_shapeT_69, ty_zeroCells_69, ev_build ty_zeroCells_69 ty_placesOf_69, ty_szOf_69, ty_fieldOff_69_1, ty_szOf_3, ty_shapeT_3, ev_len_sl ty_descOf_41, ev_indexAddr ty_descOf_41, ty_szOf_45, ty_shapeT_45, ty_zeroCells_45, good_73, good_74, ev_build ty_zeroCells_47 ty_placesOf_47, ty_zeroCells_47, ty_szOf_47, ty_fieldOff_69_2, ty_szOf_4, good_44, ty_shapeT_4, ty_fieldOff_69_0, ty_szOf_22, ty_shapeT_22, ty_fieldOff_47_1, ty_shapeT_47, ev_buildSlice (len := 1) ty_descOf_22 ty_szOf_47 ty_zeroCells_47 ⟨rfl, by decide, by decide⟩, ev_append ty_appInfo_22, ev_appNew_sl ty_descOf_22, keep_44_2, hlt, hget, Int.natCast_nonneg, hw, e1, hld, hop, hpos, hl0, ends_some]
    exact ⟨_, _, rfl⟩
  · rw [e1, Bool.true_and] at h
    rw [h] at hld
    simp only [go_sem, Nat.reduceLT, reduceIte, reduceCtorEq, Nat.reduceEqDiff, apply_ite (Option.map (outOf _)), Nat.reduceBEq, Nat.reduceAdd, Nat.reduceSub, Nat.reduceLeDiff, Nat.reduceMul, ty_shapeT_69, ty_zeroCells_69, ev_build ty_zeroCells_69 ty_placesOf_69, ty_szOf_69, ty_fieldOff_69_1, ty_szOf_3, ty_shapeT_3, ev_len_sl ty_descOf_41, ev_indexAddr ty_descOf_41, ty_szOf_45, ty_shapeT_45, ty_zeroCells_45, good_73, good_74, ev_build ty_zeroCells_47 ty_placesOf_47, ty_zeroCells_47, ty_szOf_47, ty_fieldOff_69_2, ty_szOf_4, good_44, ty_shapeT_4, ty_fieldOff_69_0, ty_szOf_22, ty_shapeT_22, ty_fieldOff_47_1, ty_shapeT_47, ev_buildSlice (len := 1) ty_descOf_22 ty_szOf_47 ty_zeroCells_47 ⟨rfl, by decide, by decide⟩, ev_append ty_appInfo_22, ev_appNew_sl ty_descOf_22, keep_44_2, hlt, hget, Int.natCast_nonneg, hw, e1, hld, hop, hpos, hl0, ends_some]
    exact ⟨_, _, rfl⟩
theorem u2_bad (l : List Tok) (kind : Int) (n : Nat) (i : Nat) (e : Nat) (acc : List Val) (t : Tok) (hi : l[i]? = some t) (hl : l.length ≤ 100000000) (hn : n < 1000) (h : Ne.isLast kind t = false) (h0 : Ne.opens t ≠ 0) (x : List (List PV)) (j : Int)
    (hin : den K 44 [L (l.map Tok.enc), I ((i + 1 : Nat) : Int), I (Ne.opens t), I n] [] = some (.ret (.agg [.pv (.sl x), .pv (.int .i64 j), .pv (.bool true)]) [])) :
    Ends (exL K 44 ulp2 (u2H l kind ((n + 1 : Nat) : Int) i e acc)) fun o S => ∃ a b, Ret2 a b true o S := by
  have hil : i < l.length := (List.getElem?_eq_some_iff.1 hi).1
  have hlt : decide ((i : Int) < (l.length : Int)) = true := decide_eq_true (by omega)
  have hget := tok_at l i t hi
  have hw : IntKind.i64.wrap ((i : Int) + 1) = ((i + 1 : Nat) : Int) := wrap_nat i (by omega)
  have hld := last_den t kind
  have hop := open_den t
  have hpos : decide (0 < Ne.opens t) = true := decide_eq_true (opens_posT h0)
  have hl0 : (((n + 1 : Nat) : Int) == 0) = false := by rw [beq_eq_false_iff_ne]; omega
  have hwl : IntKind.i64.wrap (((n + 1 : Nat) : Int) - 1) = (n : Int) := by rw [IntWalk.i64_in _ (by omega)]; omega
  unfold ulp2 Ret2
  conv in loopAt _ _ => whnf
  rw [exL_loop]
  unfold Ne.isLast at h
  cases e1 : decide (0 < kind)
  · simp only [go_sem, Nat.reduceLT, reduceIte, reduceCtorEq, Nat.reduceEqDiff, apply_ite (Option.map (outOf _)), Nat.reduceBEq, Nat.reduceAdd, Nat.reduceSub, Nat.reduceLeDiff, Nat.reduceMul, ty_shapeT_69, ty_zeroCells_69, ev_build ty_zeroCells_69 ty_placesOf_69, ty_szOf_69, ty_fieldOff_69_1, ty_szOf_3, ty_shapeT_3, ev_len_sl ty_descOf_41, ev_indexAddr ty_descOf_41, ty_szOf_45, ty_shapeT_45, ty_zeroCells_45, good_73, good_74, ev_build ty_zeroCells_47 ty_placesOf_47, ty_zeroCells_47, ty_szOf_47, ty_fieldOff_69_2, ty_szOf_4, good_44, ty_shapeT_4, ty_fieldOff_69_0, ty_szOf_22, ty_shapeT_22, ty_fieldOff_47_1, ty_shapeT_47, ev_buildSlice (len := 1) ty_descOf_22 ty_szOf_47 ty_zeroCells_47 ⟨rfl, by decide, by decide⟩, ev_append ty_appInfo_22, ev_appNew_sl ty_descOf_22, keep_44_2, hlt, hget, Int.natCast_nonneg, hw, e1, hld, hop, hpos, hl0, hwl, hin, ends_some]
    exact ⟨_, _, rfl⟩
  · rw [e1, Bool.true_and] at h
    rw [h] at hld
    simp only [go_sem, Nat.reduceLT, reduceIte, reduceCtorEq, Nat.reduceEqDiff, apply_ite (Option.map (outOf _)), Nat.reduceBEq, Nat.reduceAdd, Nat.reduceSub, Nat.reduceLeDiff, Nat.reduceMul, ty_shapeT_69, ty_zeroCells_69, ev_build ty_zeroCells_69 ty_placesOf_69, ty_szOf_69, ty_fieldOff_69_1, ty_szOf_3, ty_shapeT_3, ev_len_sl ty_descOf_41, ev_indexAddr ty_descOf_41, ty_szOf_45, ty_shapeT_45, ty_zeroCells_45, good_73, good_74, ev_build ty_zeroCells_47 ty_placesOf_47, ty_zeroCells_47, ty_szOf_47, ty_fieldOff_69_2, ty_szOf_4, good_44, ty_shapeT_4, ty_fieldOff_69_0, ty_szOf_22, ty_shapeT_22, ty_fieldOff_47_1, ty_shapeT_47, ev_buildSlice (len := 1) ty_descOf_22 ty_szOf_47 ty_zeroCells_47 ⟨rfl, by decide, by decide⟩, ev_append ty_appInfo_22, ev_appNew_sl ty_descOf_22, keep_44_2, hlt, hget, Int.natCast_nonneg, hw, e1, hld, hop, hpos, hl0, hwl, hin, ends_some]
    exact ⟨_, _, rfl⟩
def ULoop2 (l : List Tok) (kind : Int) (left : Nat) (i : Nat) (acc : List Val) (o : Out) (S : St) : Prop :=
  match Ne.until_ kind left (l.drop i) with
  | some (vs, rest) => ∃ j : Nat, l.drop j = rest ∧ j ≤ l.length ∧ i ≤ j ∧ (Ret2 (encL (acc ++ vs)) (j : Int) false o S ∨
      (o = .exit 0 ∧ S.nt = 76 ∧ S.sl 8 = .c (.loc 8 0) ∧ S.sl 9 = .c (.loc 9 0) ∧ S.bx 8 = some [.own 0 [], .pv (.int .i64 0), .pv (.bool false)] ∧ ∃ e, S.bx 9 = some [.own e (encL (acc ++ vs)), .pv (.int .i64 j), .pv (.bool false)]))
  | none => ∃ a b, Ret2 a b true o S
def UDen2 (l : List Tok) (kind : Int) (left : Nat) (i : Nat) : Prop :=
  match Ne.until_ kind left (l.drop i) with
  | some (vs, rest) => ∃ j : Nat, l.drop j = rest ∧ j ≤ l.length ∧ i ≤ j ∧ den K 44 [L (l.map Tok.enc), I (i : Int), I kind, I left] [] = some (.ret (.agg [.pv (.sl (encL vs)), .pv (.int .i64 j), .pv (.bool false)]) [])
  | none => ∃ a b, den K 44 [L (l.map Tok.enc), I (i : Int), I kind, I left] [] = some (.ret (.agg [.pv (.sl a), .pv (.int .i64 b), .pv (.bool true)]) [])
theorem u2_den {l : List Tok} {kind : Int} {left i : Nat}
    (h : Ends (exL K 44 ulp2 (u2H l kind left i 0 [])) (ULoop2 l kind left i [])) : UDen2 l kind left i := by
  have hr : Tryz.f44.results = #[.cell 8 69] := rfl
  unfold ulp2 at h
  conv at h in loopAt _ _ => whnf
  obtain ⟨o, S', w, hq⟩ := h
  unfold ULoop2 at hq
  unfold UDen2
  cases hu : Ne.until_ kind left (l.drop i) with
  | some x =>
    obtain ⟨vs, rest⟩ := x
    rw [hu] at hq
    obtain ⟨j, q1, q2, q3, hq⟩ := hq
    refine ⟨j, q1, q2, q3, ?_⟩
    rw [List.nil_append] at hq
    refine den_run rfl rfl Tryz.func44 rfl Tryz.ntmps44 ⟨by simp, by simp [LK]⟩ ?_
    simp only [go_sem, Nat.reduceLT, reduceIte, reduceCtorEq, Nat.reduceEqDiff, apply_ite (Option.map (outOf _)), Nat.reduceBEq, Nat.reduceAdd, Nat.reduceSub, Nat.reduceLeDiff, Nat.reduceMul, ty_shapeT_69, ty_zeroCells_69, ev_build ty_zeroCells_69 ty_placesOf_69, ty_szOf_69, ty_fieldOff_69_1, ty_szOf_3, ty_shapeT_3, ev_len_sl ty_descOf_41, ev_indexAddr ty_descOf_41, ty_szOf_45, ty_shapeT_45, ty_zeroCells_45, good_73, good_74, ev_build ty_zeroCells_47 ty_placesOf_47, ty_zeroCells_47, ty_szOf_47, ty_fieldOff_69_2, ty_szOf_4, good_44, ty_shapeT_4, ty_fieldOff_69_0, ty_szOf_22, ty_shapeT_22, ty_fieldOff_47_1, ty_shapeT_47, ev_buildSlice (len := 1) ty_descOf_22 ty_szOf_47 ty_zeroCells_47 ⟨rfl, by decide, by decide⟩, ev_append ty_appInfo_22, ev_appNew_sl ty_descOf_22, keep_44_2]
    rw [exL_head]
    simp only [go_sem, Nat.reduceLT, reduceIte, reduceCtorEq, Nat.reduceEqDiff, apply_ite (Option.map (outOf _)), Nat.reduceBEq, Nat.reduceAdd, Nat.reduceSub, Nat.reduceLeDiff, Nat.reduceMul, ty_shapeT_69, ty_zeroCells_69, ev_build ty_zeroCells_69 ty_placesOf_69, ty_szOf_69, ty_fieldOff_69_1, ty_szOf_3, ty_shapeT_3, ev_len_sl ty_descOf_41, ev_indexAddr ty_descOf_41, ty_szOf_45, ty_shapeT_45, ty_zeroCells_45, good_73, good_74, ev_build ty_zeroCells_47 ty_placesOf_47, ty_zeroCells_47, ty_szOf_47, ty_fieldOff_69_2, ty_szOf_4, good_44, ty_shapeT_4, ty_fieldOff_69_0, ty_szOf_22, ty_shapeT_22, ty_fieldOff_47_1, ty_shapeT_47, ev_buildSlice (len := 1) ty_descOf_22 ty_szOf_47 ty_zeroCells_47 ⟨rfl, by decide, by decide⟩, ev_append ty_appInfo_22, ev_appNew_sl ty_descOf_22, keep_44_2]
    erw [w]
    rcases hq with ⟨rfl, h1, h2⟩ | ⟨rfl, hn, h8, h9, b8, e, b9⟩
    · simp only [go_sem, Nat.reduceLT, reduceIte, reduceCtorEq, Nat.reduceEqDiff, apply_ite (Option.map (outOf _)), Nat.reduceBEq, Nat.reduceAdd, Nat.reduceSub, Nat.reduceLeDiff, Nat.reduceMul, ty_shapeT_69, ty_zeroCells_69, ev_build ty_zeroCells_69 ty_placesOf_69, ty_szOf_69, ty_fieldOff_69_1, ty_szOf_3, ty_shapeT_3, ev_len_sl ty_descOf_41, ev_indexAddr ty_descOf_41, ty_szOf_45, ty_shapeT_45, ty_zeroCells_45, good_73, good_74, ev_build ty_zeroCells_47 ty_placesOf_47, ty_zeroCells_47, ty_szOf_47, ty_fieldOff_69_2, ty_szOf_4, good_44, ty_shapeT_4, ty_fieldOff_69_0, ty_szOf_22, ty_shapeT_22, ty_fieldOff_47_1, ty_shapeT_47, ev_buildSlice (len := 1) ty_descOf_22 ty_szOf_47 ty_zeroCells_47 ⟨rfl, by decide, by decide⟩, ev_append ty_appInfo_22, ev_appNew_sl ty_descOf_22, keep_44_2, hr, h1, h2]
    · simp only [go_sem, Nat.reduceLT, reduceIte, reduceCtorEq, Nat.reduceEqDiff, apply_ite (Option.map (outOf _)), Nat.reduceBEq, Nat.reduceAdd, Nat.reduceSub, Nat.reduceLeDiff, Nat.reduceMul, ty_shapeT_69, ty_zeroCells_69, ev_build ty_zeroCells_69 ty_placesOf_69, ty_szOf_69, ty_fieldOff_69_1, ty_szOf_3, ty_shapeT_3, ev_len_sl ty_descOf_41, ev_indexAddr ty_descOf_41, ty_szOf_45, ty_shapeT_45, ty_zeroCells_45, good_73, good_74, ev_build ty_zeroCells_47 ty_placesOf_47, ty_zeroCells_47, ty_szOf_47, ty_fieldOff_69_2, ty_szOf_4, good_44, ty_shapeT_4, ty_fieldOff_69_0, ty_szOf_22, ty_shapeT_22, ty_fieldOff_47_1, ty_shapeT_47, ev_buildSlice (len := 1) ty_descOf_22 ty_szOf_47 ty_zeroCells_47 ⟨rfl, by decide, by decide⟩, ev_append ty_appInfo_22, ev_appNew_sl ty_descOf_22, keep_44_2, hr, hn, h8, h9, b8, b9]
  | none =>
    rw [hu] at hq
    obtain ⟨a, b, rfl, h1, h2⟩ := hq
    refine ⟨a, b, ?_⟩
    refine den_run rfl rfl Tryz.func44 rfl Tryz.ntmps44 ⟨by simp, by simp [LK]⟩ ?_
    simp only [go_sem, Nat.reduceLT, reduceIte, reduceCtorEq, Nat.reduceEqDiff, apply_ite (Option.map (outOf _)), Nat.reduceBEq, Nat.reduceAdd, Nat.reduceSub, Nat.reduceLeDiff, Nat.reduceMul, ty_shapeT_69, ty_zeroCells_69, ev_build ty_zeroCells_69 ty_placesOf_69, ty_szOf_69, ty_fieldOff_69_1, ty_szOf_3, ty_shapeT_3, ev_len_sl ty_descOf_41, ev_indexAddr ty_descOf_41, ty_szOf_45, ty_shapeT_45, ty_zeroCells_45, good_73, good_74, ev_build ty_zeroCells_47 ty_placesOf_47, ty_zeroCells_47, ty_szOf_47, ty_fieldOff_69_2, ty_szOf_4, good_44, ty_shapeT_4, ty_fieldOff_69_0, ty_szOf_22, ty_shapeT_22, ty_fieldOff_47_1, ty_shapeT_47, ev_buildSlice (len := 1) ty_descOf_22 ty_szOf_47 ty_zeroCells_47 ⟨rfl, by decide, by decide⟩, ev_append ty_appInfo_22, ev_appNew_sl ty_descOf_22, keep_44_2]
    rw [exL_head]
    simp only [go_sem, Nat.reduceLT, reduceIte, reduceCtorEq, Nat.reduceEqDiff, apply_ite (Option.map (outOf _)), Nat.reduceBEq, Nat.reduceAdd, Nat.reduceSub, Nat.reduceLeDiff, Nat.reduceMul, ty_shapeT_69, ty_zeroCells_69, ev_build ty_zeroCells_69 ty_placesOf_69, ty_szOf_69, ty_fieldOff_69_1, ty_szOf_3, ty_shapeT_3, ev_len_sl ty_descOf_41, ev_indexAddr ty_descOf_41, ty_szOf_45, ty_shapeT_45, ty_zeroCells_45, good_73, good_74, ev_build ty_zeroCells_47 ty_placesOf_47, ty_zeroCells_47, ty_szOf_47, ty_fieldOff_69_2, ty_szOf_4, good_44, ty_shapeT_4, ty_fieldOff_69_0, ty_szOf_22, ty_shapeT_22, ty_fieldOff_47_1, ty_shapeT_47, ev_buildSlice (len := 1) ty_descOf_22 ty_szOf_47 ty_zeroCells_47 ⟨rfl, by decide, by decide⟩, ev_append ty_appInfo_22, ev_appNew_sl ty_descOf_22, keep_44_2]
    erw [w]
    simp only [go_sem, Nat.reduceLT, reduceIte, reduceCtorEq, Nat.reduceEqDiff, apply_ite (Option.map (outOf _)), Nat.reduceBEq, Nat.reduceAdd, Nat.reduceSub, Nat.reduceLeDiff, Nat.reduceMul, ty_shapeT_69, ty_zeroCells_69, ev_build ty_zeroCells_69 ty_placesOf_69, ty_szOf_69, ty_fieldOff_69_1, ty_szOf_3, ty_shapeT_3, ev_len_sl ty_descOf_41, ev_indexAddr ty_descOf_41, ty_szOf_45, ty_shapeT_45, ty_zeroCells_45, good_73, good_74, ev_build ty_zeroCells_47 ty_placesOf_47, ty_zeroCells_47, ty_szOf_47, ty_fieldOff_69_2, ty_szOf_4, good_44, ty_shapeT_4, ty_fieldOff_69_0, ty_szOf_22, ty_shapeT_22, ty_fieldOff_47_1, ty_shapeT_47, ev_buildSlice (len := 1) ty_descOf_22 ty_szOf_47 ty_zeroCells_47 ⟨rfl, by decide, by decide⟩, ev_append ty_appInfo_22, ev_appNew_sl ty_descOf_22, keep_44_2, hr, h1, h2]
end Go.Abs
namespace Go.Abs
open Go Go.Proofs
set_option maxRecDepth 10000
attribute [local go_sem] exL_seq exL_region exL_cond exL_block exL_scope exL_ret exL_skip exL_exit runRegion runOps stepOp guardA absOp takeOver opd avOf cvOf St.degAt St.put okPV okVal okAV absBin intBin strBin boolBin setBoxes if_true Bool.false_eq_true if_false Option.map_some Option.map_none Option.bind_some Option.bind_none thenO outOf upd List.toList_toArray isOwn steal appArgs inApps AV.deg CV.deg AV.gv AV.isIter absNext some_bne List.length_nil List.length_cons List.filterMap_cons List.filterMap_nil beq_iff_eq List.getElem?_cons_zero List.getElem?_cons_succ Option.getD_some K_hook hookB Bool.false_and Bool.and_false Bool.and_self K_P K_own absCall doCall getBoxes lend back idx dedup AV.ren CV.ren TV.ren AV.ptrs CV.ptrs zipBox AV.flat CV.flat absLoad absStore cellsOfAV setAt newBox markB bldTypes absFieldAddr absField absExtract absAssert noAssert absMkIface ifcOf CV.pv? content pushHead ownT fillCells reps pvs chunks enterSt leave resOf resVars resVar outBoxes lentOnly TV.deg TV.av LK CV.plain CV.noBld nilBin absUn bound List.map_cons List.map_nil List.all_cons List.all_nil List.any_cons List.any_nil List.contains_cons List.contains_nil List.elem_cons List.elem_nil List.cons_append List.nil_append List.append_nil List.flatMap_cons List.flatMap_nil List.zip_cons_cons List.zip_nil_left List.zip_nil_right List.take_succ_cons List.take_zero List.take_nil List.drop_succ_cons List.drop_zero List.drop_nil List.isEmpty_nil List.isEmpty_cons Bool.and_true Bool.true_and Bool.or_true Bool.true_or Bool.or_false Bool.false_or Bool.not_true Bool.not_false Nat.add_zero Nat.zero_add Option.isNone_none Option.isNone_some Option.getD_none true_and and_true not_true_eq_false not_false_eq_true decide_true decide_false Nat.le_refl and_self Bool.not_eq_true Nat.sub_self or_true true_or Option.some.injEq List.length_map List.nil_eq and_false false_and AV.live CV.live CV.liveIn K_keep firstReg Option.orElse_some Option.orElse_none head keepSlots keepBoxes Int.lt_irrefl List.length_append ite_self memOK logOps opKey lentBoxes Key.clash Key.sees Key.writes Nat.lt_irrefl gt_iff_lt nobox_at bot_at false_or or_false beq_self_eq_true Bool.true_beq Bool.false_beq
abbrev U (c : UInt8) : AV := .c (.pv (.int .u8 c.toNat))
theorem digit_eq (c : UInt8) : Tk.digit c = (decide ((48 : Int) ≤ (c.toNat : Int)) && decide ((c.toNat : Int) ≤ 57)) := by
  unfold Tk.digit; rw [← Bool.decide_and]; exact decide_eq_decide.2 (by omega)
theorem begins_eq (c : UInt8) : Tk.begins c = ((decide ((97 : Int) ≤ (c.toNat : Int)) && decide ((c.toNat : Int) ≤ 122)) || (decide ((65 : Int) ≤ (c.toNat : Int)) && decide ((c.toNat : Int) ≤ 90)) || ((c.toNat : Int) == 95) || decide ((128 : Int) ≤ (c.toNat : Int))) := by
  have e : ((c.toNat : Int) == 95) = decide ((c.toNat : Int) = 95) := by
    by_cases h : (c.toNat : Int) = 95 <;> simp [h]
  rw [e]
  unfold Tk.begins
  rw [← Bool.decide_and, ← Bool.decide_and, ← Bool.decide_or, ← Bool.decide_or, ← Bool.decide_or]
  exact decide_eq_decide.2 (by omega)
theorem u8_beq (c d : UInt8) : ((c.toNat : Int) == (d.toNat : Int)) = (c == d) := by
  by_cases e : c = d
  · subst e; simp
  · have : c.toNat ≠ d.toNat := fun h2 => e (UInt8.toNat_inj.1 h2)
    rw [beq_eq_false_iff_ne.2 e, beq_eq_false_iff_ne.2 (by omega)]
theorem digit_den (c : UInt8) : den K 71 [U c] [] = some (.ret (B (Tk.digit c)) []) := by
  refine den_run rfl rfl Tryz.func71 rfl Tryz.ntmps71 ⟨by simp, by simp [LK]⟩ ?_
  have hr : Tryz.f71.results = #[.tmp 2] := rfl
  rw [digit_eq]
  cases b1 : decide ((48 : Int) ≤ (c.toNat : Int)) <;> cases b2 : decide ((c.toNat : Int) ≤ 57) <;> simp only [go_sem, Nat.reduceLT, reduceIte, reduceCtorEq, Nat.reduceEqDiff, apply_ite (Option.map (outOf _)), Nat.reduceBEq, Nat.reduceAdd, Nat.reduceSub, Nat.reduceLeDiff, Nat.reduceMul, nobox_at, hr, b1, b2]
set_option maxHeartbeats 8000000 in
theorem begins_den (c : UInt8) : den K 86 [U c] [] = some (.ret (B (Tk.begins c)) []) := by
  refine den_run rfl rfl Tryz.func86 rfl Tryz.ntmps86 ⟨by simp, by simp [LK]⟩ ?_
  have hr : Tryz.f86.results = #[.tmp 2] := rfl
  rw [begins_eq]
  cases b1 : decide ((97 : Int) ≤ (c.toNat : Int)) <;> cases b2 : decide ((c.toNat : Int) ≤ 122) <;> cases b3 : decide ((65 : Int) ≤ (c.toNat : Int)) <;> cases b4 : decide ((c.toNat : Int) ≤ 90) <;> cases b5 : ((c.toNat : Int) == 95) <;> cases b6 : decide ((128 : Int) ≤ (c.toNat : Int)) <;> simp only [go_sem, Nat.reduceLT, reduceIte, reduceCtorEq, Nat.reduceEqDiff, apply_ite (Option.map (outOf _)), Nat.reduceBEq, Nat.reduceAdd, Nat.reduceSub, Nat.reduceLeDiff, Nat.reduceMul, nobox_at, hr, b1, b2, b3, b4, b5, b6]
theorem within_den (c : UInt8) : den K 70 [U c] [] = some (.ret (B (Tk.within c)) []) := by
  have d1 := begins_den c
  have d2 := digit_den c
  have e45 : ((c.toNat : Int) == 45) = (c == 45) := u8_beq c 45
  refine den_run rfl rfl Tryz.func70 rfl Tryz.ntmps70 ⟨by simp, by simp [LK]⟩ ?_
  have hr : Tryz.f70.results = #[.tmp 2] := rfl
  unfold Tk.within
  cases b1 : Tk.begins c <;> cases b2 : Tk.digit c <;> cases b3 : (c == 45) <;> rw [b1] at d1 <;> rw [b2] at d2 <;> rw [b3] at e45 <;> simp only [go_sem, Nat.reduceLT, reduceIte, reduceCtorEq, Nat.reduceEqDiff, apply_ite (Option.map (outOf _)), Nat.reduceBEq, Nat.reduceAdd, Nat.reduceSub, Nat.reduceLeDiff, Nat.reduceMul, good_86, good_71, hr, d1, d2, e45]
theorem at0_drop (s : List UInt8) (i : Nat) : (s[i]? = none ∧ Tk.at0 (s.drop i) = 0 ∧ s.length ≤ i) ∨ (i < s.length ∧ s[i]? = some (Tk.at0 (s.drop i))) := by
  by_cases h : i < s.length
  · right
    refine ⟨h, ?_⟩
    rw [List.drop_eq_getElem_cons h, Tk.at0_cons, List.getElem?_eq_getElem h]
  · left
    refine ⟨List.getElem?_eq_none (by omega), ?_, by omega⟩
    rw [List.drop_eq_nil_of_le (by omega)]; rfl
theorem at_den (s : List UInt8) (i : Nat) (hs : s.length < 1000000000000) : den K 61 [T s, I i] [] = some (.ret (U (Tk.at0 (s.drop i))) []) := by
  refine den_run rfl rfl Tryz.func61 rfl Tryz.ntmps61 ⟨by simp, by simp [LK]⟩ ?_
  have hr : Tryz.f61.results = #[.tmp 4] := rfl
  rcases at0_drop s i with ⟨h1, h2, h3⟩ | ⟨h1, h2⟩
  · have hlt : decide ((i : Int) < (s.length : Int)) = false := decide_eq_false (by omega)
    rw [h2]
    simp only [go_sem, Nat.reduceLT, reduceIte, reduceCtorEq, Nat.reduceEqDiff, apply_ite (Option.map (outOf _)), Nat.reduceBEq, Nat.reduceAdd, Nat.reduceSub, Nat.reduceLeDiff, Nat.reduceMul, ev_len_str ty_descOf_65, ev_index ty_descOf_65, hr, hlt]
    rfl
  · have hlt : decide ((i : Int) < (s.length : Int)) = true := decide_eq_true (by omega)
    simp only [go_sem, Nat.reduceLT, reduceIte, reduceCtorEq, Nat.reduceEqDiff, apply_ite (Option.map (outOf _)), Nat.reduceBEq, Nat.reduceAdd, Nat.reduceSub, Nat.reduceLeDiff, Nat.reduceMul, ev_len_str ty_descOf_65, ev_index ty_descOf_65, hr, hlt, Int.natCast_nonneg, Int.toNat_natCast, h2]
abbrev FN (f : Nat) : AV := .c (.fn f [])
abbrev runH (s : List UInt8) (from_ : Nat) (f n : Nat) : St := { sl := upd (upd (upd (upd bot 7 (I n)) 2 (FN f)) 1 (I from_)) 0 (T s), bx := upd nobox 100000 none, nt := 26 }
theorem run_loop (s : List UInt8) (hs : s.length < 1000000000000) (p : UInt8 → Bool) (f : Nat) (hg : K.good f = true) (hown : K.ownRet f = false) (hf : ∀ c, den K f [U c] [] = some (.ret (B (p c)) [])) (from_ : Nat) : ∀ (rest : List UInt8) (n : Nat), s.drop (from_ + n) = rest → from_ + n ≤ s.length →
    Ends (exL K 68 (.loop (loopAt Tryz.f68 2)) (runH s from_ f n)) fun o S => o = .exit 0 ∧ S.sl 7 = I (n + Tk.run p rest : Nat) ∧ S.nt = 26 := by
  intro rest
  induction rest with
  | nil =>
    intro n hd hn
    have hin : from_ + n = s.length := by
      have := List.drop_eq_nil_iff.1 hd
      omega
    have w1 : IntKind.i64.wrap ((from_ : Int) + (n : Int)) = ((from_ + n : Nat) : Int) := by rw [IntWalk.i64_in _ (by omega)]; rfl
    have hlt : decide (((from_ + n : Nat) : Int) < (s.length : Int)) = false := decide_eq_false (by omega)
    conv in loopAt _ _ => whnf
    rw [exL_loop]
    simp only [go_sem, Nat.reduceLT, reduceIte, reduceCtorEq, Nat.reduceEqDiff, apply_ite (Option.map (outOf _)), Nat.reduceBEq, Nat.reduceAdd, Nat.reduceSub, Nat.reduceLeDiff, Nat.reduceMul, ev_len_str ty_descOf_65, ev_index ty_descOf_65, keep_68_2, ends_some, w1, hlt, Tk.run_nil]
  | cons c rest ih =>
    intro n hd hn
    obtain ⟨g1, g2, g3⟩ := drop_cons hd
    have w1 : IntKind.i64.wrap ((from_ : Int) + (n : Int)) = ((from_ + n : Nat) : Int) := by rw [IntWalk.i64_in _ (by omega)]; rfl
    have hlt : decide (((from_ + n : Nat) : Int) < (s.length : Int)) = true := decide_eq_true (by omega)
    have hc := hf c
    have ih' := ih (n + 1) g2 (by omega)
    conv at ih' in loopAt _ _ => whnf
    conv in loopAt _ _ => whnf
    rw [exL_loop]
    cases hp : p c
    · rw [hp] at hc
      have hv : Tk.run p (c :: rest) = 0 := by rw [Tk.run, if_neg (by simp [hp])]
      simp only [go_sem, Nat.reduceLT, reduceIte, reduceCtorEq, Nat.reduceEqDiff, apply_ite (Option.map (outOf _)), Nat.reduceBEq, Nat.reduceAdd, Nat.reduceSub, Nat.reduceLeDiff, Nat.reduceMul, ev_len_str ty_descOf_65, ev_index ty_descOf_65, keep_68_2, ends_some, w1, hlt, hg, hown, hc, Int.natCast_nonneg, Int.toNat_natCast, g1, hv]
    · rw [hp] at hc
      have hv : n + 1 + Tk.run p rest = n + Tk.run p (c :: rest) := by rw [Tk.run, if_pos hp]; omega
      rw [hv] at ih'
      simp only [go_sem, Nat.reduceLT, reduceIte, reduceCtorEq, Nat.reduceEqDiff, apply_ite (Option.map (outOf _)), Nat.reduceBEq, Nat.reduceAdd, Nat.reduceSub, Nat.reduceLeDiff, Nat.reduceMul, ev_len_str ty_descOf_65, ev_index ty_descOf_65, keep_68_2, w1, hlt, hg, hown, hc, Int.natCast_nonneg, Int.toNat_natCast, g1, wrap_nat n (by omega)]
      rw [exL_head]
      simp only [go_sem, Nat.reduceLT, reduceIte, reduceCtorEq, Nat.reduceEqDiff, apply_ite (Option.map (outOf _)), Nat.reduceBEq, Nat.reduceAdd, Nat.reduceSub, Nat.reduceLeDiff, Nat.reduceMul, ev_len_str ty_descOf_65, ev_index ty_descOf_65, keep_68_2]
      exact ih'
theorem run_den (s : List UInt8) (hs : s.length < 1000000000000) (p : UInt8 → Bool) (f : Nat) (hg : K.good f = true) (hown : K.ownRet f = false) (hf : ∀ c, den K f [U c] [] = some (.ret (B (p c)) [])) (from_ : Nat) (h : from_ ≤ s.length) : den K 68 [T s, I from_, FN f] [] = some (.ret (I (Tk.run p (s.drop from_) : Nat)) []) := by
  refine den_run rfl rfl Tryz.func68 rfl Tryz.ntmps68 ⟨by simp, by simp [LK]⟩ ?_
  have hr : Tryz.f68.results = #[.tmp 6] := rfl
  have hnext := run_loop s hs p f hg hown hf from_ (s.drop from_) 0 rfl (by omega)
  conv at hnext in loopAt _ _ => whnf
  obtain ⟨o, S', e, rfl, h7, hn⟩ := hnext
  rw [Nat.zero_add] at h7
  simp only [go_sem, Nat.reduceLT, reduceIte, reduceCtorEq, Nat.reduceEqDiff, apply_ite (Option.map (outOf _)), Nat.reduceBEq, Nat.reduceAdd, Nat.reduceSub, Nat.reduceLeDiff, Nat.reduceMul, ev_len_str ty_descOf_65, ev_index ty_descOf_65, keep_68_2]
  rw [exL_head]
  simp only [go_sem, Nat.reduceLT, reduceIte, reduceCtorEq, Nat.reduceEqDiff, apply_ite (Option.map (outOf _)), Nat.reduceBEq, Nat.reduceAdd, Nat.reduceSub, Nat.reduceLeDiff, Nat.reduceMul, ev_len_str ty_descOf_65, ev_index ty_descOf_65, keep_68_2]
  erw [e]
  simp only [go_sem, Nat.reduceLT, reduceIte, reduceCtorEq, Nat.reduceEqDiff, apply_ite (Option.map (outOf _)), Nat.reduceBEq, Nat.reduceAdd, Nat.reduceSub, Nat.reduceLeDiff, Nat.reduceMul, ev_len_str ty_descOf_65, ev_index ty_descOf_65, keep_68_2, hr, h7, hn]
end Go.Abs
namespace Go.Abs
open Go Go.Proofs
set_option maxRecDepth 10000
theorem name_den (s : List UInt8) (hs : s.length < 4000000000) (i : Nat) (h : i ≤ s.length) : den K 62 [T s, I i] [] = some (.ret (I (Tk.name (s.drop i) : Nat)) []) := by
  have d1 := at_den s i (by omega)
  have d2 := at_den s (i + 1) (by omega)
  have ht : (s.drop i).tail = s.drop (i + 1) := List.tail_drop
  have hrun := run_den s (by omega) Tk.within 70 good_70 rfl within_den i h
  unfold Tk.name Tk.nameB
  rw [ht]
  generalize Tk.at0 (s.drop i) = c at d1
  generalize Tk.at0 (s.drop (i + 1)) = d at d2
  have b1 := begins_den c
  have b2 := begins_den d
  have e1 : ((c.toNat : Int) == 45) = (c == 45) := u8_beq c 45
  have e2 : ((d.toNat : Int) == 45) = (d == 45) := u8_beq d 45
  refine den_run rfl rfl Tryz.func62 rfl Tryz.ntmps62 ⟨by simp, by simp [LK]⟩ ?_
  have hr : Tryz.f62.results = #[.tmp 4] := rfl
  cases h1 : Tk.begins c
  · rw [h1] at b1
    cases h2 : (c == 45)
    · rw [h2] at e1
      simp only [exL_seq, exL_region, exL_cond, exL_block, exL_scope, exL_ret, exL_skip, exL_exit, runRegion, runOps, stepOp, guardA, absOp, takeOver, opd, avOf, cvOf, St.degAt, St.put, okPV, okVal, okAV, absBin, intBin, strBin, boolBin, setBoxes, if_true, Bool.false_eq_true, if_false, Option.map_some, Option.map_none, Option.bind_some, Option.bind_none, thenO, outOf, upd, List.toList_toArray, isOwn, steal, appArgs, inApps, AV.deg, CV.deg, AV.gv, AV.isIter, absNext, some_bne, Nat.reduceLT, reduceIte, reduceCtorEq, Nat.reduceEqDiff, List.length_nil, List.length_cons, apply_ite (Option.map (outOf _)), List.filterMap_cons, List.filterMap_nil, beq_iff_eq, List.getElem?_cons_zero, List.getElem?_cons_succ, Option.getD_some, K_hook, hookB, Nat.reduceBEq, Bool.false_and, Bool.and_false, Bool.and_self, K_P, K_own, absCall, doCall, getBoxes, lend, back, idx, dedup, AV.ren, CV.ren, TV.ren, AV.ptrs, CV.ptrs, zipBox, AV.flat, CV.flat, absLoad, absStore, cellsOfAV, setAt, newBox, markB, bldTypes, absFieldAddr, absField, absExtract, absAssert, noAssert, absMkIface, ifcOf, CV.pv?, content, pushHead, ownT, fillCells, reps, pvs, chunks, enterSt, leave, resOf, resVars, resVar, outBoxes, lentOnly, TV.deg, TV.av, LK, CV.plain, CV.noBld, nilBin, absUn, bound, List.map_cons, List.map_nil, List.all_cons, List.all_nil, List.any_cons, List.any_nil, List.contains_cons, List.contains_nil, List.elem_cons, List.elem_nil, List.cons_append, List.nil_append, List.append_nil, List.flatMap_cons, List.flatMap_nil, List.zip_cons_cons, List.zip_nil_left, List.zip_nil_right, List.take_succ_cons, List.take_zero, List.take_nil, List.drop_succ_cons, List.drop_zero, List.drop_nil, List.isEmpty_nil, List.isEmpty_cons, Bool.and_true, Bool.true_and, Bool.or_true, Bool.true_or, Bool.or_false, Bool.false_or, Bool.not_true, Bool.not_false, Nat.reduceAdd, Nat.reduceSub, Nat.reduceLeDiff, Nat.add_zero, Nat.zero_add, Nat.reduceMul, Option.isNone_none, Option.isNone_some, Option.getD_none, true_and, and_true, not_true_eq_false, not_false_eq_true, decide_true, decide_false, List.toList_toArray, Nat.le_refl, and_self, Bool.not_eq_true, Nat.sub_self, or_true, true_or, Option.some.injEq, List.length_map, List.nil_eq, and_false, false_and, AV.live, CV.live, CV.liveIn, K_keep, firstReg, Option.orElse_some, Option.orElse_none, head, keepSlots, keepBoxes, Int.lt_irrefl, List.length_append, ite_self, memOK, logOps, opKey, lentBoxes, Key.clash, Key.sees, Key.writes, Nat.lt_irrefl, gt_iff_lt, nobox_at, bot_at, false_or, or_false, beq_self_eq_true, Bool.true_beq, Bool.false_beq, good_61, good_86, good_68, hr, d1, d2, b1, e1, wrap_nat i (by omega)]
      rfl
    · rw [h2] at e1
      cases h3 : Tk.begins d
      · rw [h3] at b2
        cases h4 : (d == 45)
        · rw [h4] at e2
          simp only [exL_seq, exL_region, exL_cond, exL_block, exL_scope, exL_ret, exL_skip, exL_exit, runRegion, runOps, stepOp, guardA, absOp, takeOver, opd, avOf, cvOf, St.degAt, St.put, okPV, okVal, okAV, absBin, intBin, strBin, boolBin, setBoxes, if_true, Bool.false_eq_true, if_false, Option.map_some, Option.map_none, Option.bind_some, Option.bind_none, thenO, outOf, upd, List.toList_toArray, isOwn, steal, appArgs, inApps, AV.deg, CV.deg, AV.gv, AV.isIter, absNext, some_bne, Nat.reduceLT, reduceIte, reduceCtorEq, Nat.reduceEqDiff, List.length_nil, List.length_cons, apply_ite (Option.map (outOf _)), List.filterMap_cons, List.filterMap_nil, beq_iff_eq, List.getElem?_cons_zero, List.getElem?_cons_succ, Option.getD_some, K_hook, hookB, Nat.reduceBEq, Bool.false_and, Bool.and_false, Bool.and_self, K_P, K_own, absCall, doCall, getBoxes, lend, back, idx, dedup, AV.ren, CV.ren, TV.ren, AV.ptrs, CV.ptrs, zipBox, AV.flat, CV.flat, absLoad, absStore, cellsOfAV, setAt, newBox, markB, bldTypes, absFieldAddr, absField, absExtract, absAssert, noAssert, absMkIface, ifcOf, CV.pv?, content, pushHead, ownT, fillCells, reps, pvs, chunks, enterSt, leave, resOf, resVars, resVar, outBoxes, lentOnly, TV.deg, TV.av, LK, CV.plain, CV.noBld, nilBin, absUn, bound, List.map_cons, List.map_nil, List.all_cons, List.all_nil, List.any_cons, List.any_nil, List.contains_cons, List.contains_nil, List.elem_cons, List.elem_nil, List.cons_append, List.nil_append, List.append_nil, List.flatMap_cons, List.flatMap_nil, List.zip_cons_cons, List.zip_nil_left, List.zip_nil_right, List.take_succ_cons, List.take_zero, List.take_nil, List.drop_succ_cons, List.drop_zero, List.drop_nil, List.isEmpty_nil, List.isEmpty_cons, Bool.and_true, Bool.true_and, Bool.or_true, Bool.true_or, Bool.or_false, Bool.false_or, Bool.not_true, Bool.not_false, Nat.reduceAdd, Nat.reduceSub, Nat.reduceLeDiff, Nat.add_zero, Nat.zero_add, Nat.reduceMul, Option.isNone_none, Option.isNone_some, Option.getD_none, true_and, and_true, not_true_eq_false, not_false_eq_true, decide_true, decide_false, List.toList_toArray, Nat.le_refl, and_self, Bool.not_eq_true, Nat.sub_self, or_true, true_or, Option.some.injEq, List.length_map, List.nil_eq, and_false, false_and, AV.live, CV.live, CV.liveIn, K_keep, firstReg, Option.orElse_some, Option.orElse_none, head, keepSlots, keepBoxes, Int.lt_irrefl, List.length_append, ite_self, memOK, logOps, opKey, lentBoxes, Key.clash, Key.sees, Key.writes, Nat.lt_irrefl, gt_iff_lt, nobox_at, bot_at, false_or, or_false, beq_self_eq_true, Bool.true_beq, Bool.false_beq, good_61, good_86, good_68, hr, d1, d2, b1, b2, e1, e2, wrap_nat i (by omega)]
          rfl
        · rw [h4] at e2
          simp only [exL_seq, exL_region, exL_cond, exL_block, exL_scope, exL_ret, exL_skip, exL_exit, runRegion, runOps, stepOp, guardA, absOp, takeOver, opd, avOf, cvOf, St.degAt, St.put, okPV, okVal, okAV, absBin, intBin, strBin, boolBin, setBoxes, if_true, Bool.false_eq_true, if_false, Option.map_some, Option.map_none, Option.bind_some, Option.bind_none, thenO, outOf, upd, List.toList_toArray, isOwn, steal, appArgs, inApps, AV.deg, CV.deg, AV.gv, AV.isIter, absNext, some_bne, Nat.reduceLT, reduceIte, reduceCtorEq, Nat.reduceEqDiff, List.length_nil, List.length_cons, apply_ite (Option.map (outOf _)), List.filterMap_cons, List.filterMap_nil, beq_iff_eq, List.getElem?_cons_zero, List.getElem?_cons_succ, Option.getD_some, K_hook, hookB, Nat.reduceBEq, Bool.false_and, Bool.and_false, Bool.and_self, K_P, K_own, absCall, doCall, getBoxes, lend, back, idx, dedup, AV.ren, CV.ren, TV.ren, AV.ptrs, CV.ptrs, zipBox, AV.flat, CV.flat, absLoad, absStore, cellsOfAV, setAt, newBox, markB, bldTypes, absFieldAddr, absField, absExtract, absAssert, noAssert, absMkIface, ifcOf, CV.pv?, content, pushHead, ownT, fillCells, reps, pvs, chunks, enterSt, leave, resOf, resVars, resVar, outBoxes, lentOnly, TV.deg, TV.av, LK, CV.plain, CV.noBld, nilBin, absUn, bound, List.map_cons, List.map_nil, List.all_cons, List.all_nil, List.any_cons, List.any_nil, List.contains_cons, List.contains_nil, List.elem_cons, List.elem_nil, List.cons_append, List.nil_append, List.append_nil, List.flatMap_cons, List.flatMap_nil, List.zip_cons_cons, List.zip_nil_left, List.zip_nil_right, List.take_succ_cons, List.take_zero, List.take_nil, List.drop_succ_cons, List.drop_zero, List.drop_nil, List.isEmpty_nil, List.isEmpty_cons, Bool.and_true, Bool.true_and, Bool.or_true, Bool.true_or, Bool.or_false, Bool.false_or, Bool.not_true, Bool.not_false, Nat.reduceAdd, Nat.reduceSub, Nat.reduceLeDiff, Nat.add_zero, Nat.zero_add, Nat.reduceMul, Option.isNone_none, Option.isNone_some, Option.getD_none, true_and, and_true, not_true_eq_false, not_false_eq_true, decide_true, decide_false, List.toList_toArray, Nat.le_refl, and_self, Bool.not_eq_true, Nat.sub_self, or_true, true_or, Option.some.injEq, List.length_map, List.nil_eq, and_false, false_and, AV.live, CV.live, CV.liveIn, K_keep, firstReg, Option.orElse_some, Option.orElse_none, head, keepSlots, keepBoxes, Int.lt_irrefl, List.length_append, ite_self, memOK, logOps, opKey, lentBoxes, Key.clash, Key.sees, Key.writes, Nat.lt_irrefl, gt_iff_lt, nobox_at, bot_at, false_or, or_false, beq_self_eq_true, Bool.true_beq, Bool.false_beq, good_61, good_86, good_68, hr, d1, d2, b1, b2, e1, e2, hrun, wrap_nat i (by omega)]
      · rw [h3] at b2
        simp only [exL_seq, exL_region, exL_cond, exL_block, exL_scope, exL_ret, exL_skip, exL_exit, runRegion, runOps, stepOp, guardA, absOp, takeOver, opd, avOf, cvOf, St.degAt, St.put, okPV, okVal, okAV, absBin, intBin, strBin, boolBin, setBoxes, if_true, Bool.false_eq_true, if_false, Option.map_some, Option.map_none, Option.bind_some, Option.bind_none, thenO, outOf, upd, List.toList_toArray, isOwn, steal, appArgs, inApps, AV.deg, CV.deg, AV.gv, AV.isIter, absNext, some_bne, Nat.reduceLT, reduceIte, reduceCtorEq, Nat.reduceEqDiff, List.length_nil, List.length_cons, apply_ite (Option.map (outOf _)), List.filterMap_cons, List.filterMap_nil, beq_iff_eq, List.getElem?_cons_zero, List.getElem?_cons_succ, Option.getD_some, K_hook, hookB, Nat.reduceBEq, Bool.false_and, Bool.and_false, Bool.and_self, K_P, K_own, absCall, doCall, getBoxes, lend, back, idx, dedup, AV.ren, CV.ren, TV.ren, AV.ptrs, CV.ptrs, zipBox, AV.flat, CV.flat, absLoad, absStore, cellsOfAV, setAt, newBox, markB, bldTypes, absFieldAddr, absField, absExtract, absAssert, noAssert, absMkIface, ifcOf, CV.pv?, content, pushHead, ownT, fillCells, reps, pvs, chunks, enterSt, leave, resOf, resVars, resVar, outBoxes, lentOnly, TV.deg, TV.av, LK, CV.plain, CV.noBld, nilBin, absUn, bound, List.map_cons, List.map_nil, List.all_cons, List.all_nil, List.any_cons, List.any_nil, List.contains_cons, List.contains_nil, List.elem_cons, List.elem_nil, List.cons_append, List.nil_append, List.append_nil, List.flatMap_cons, List.flatMap_nil, List.zip_cons_cons, List.zip_nil_left, List.zip_nil_right, List.take_succ_cons, List.take_zero, List.take_nil, List.drop_succ_cons, List.drop_zero, List.drop_nil, List.isEmpty_nil, List.isEmpty_cons, Bool.and_true, Bool.true_and, Bool.or_true, Bool.true_or, Bool.or_false, Bool.false_or, Bool.not_true, Bool.not_false, Nat.reduceAdd, Nat.reduceSub, Nat.reduceLeDiff, Nat.add_zero, Nat.zero_add, Nat.reduceMul, Option.isNone_none, Option.isNone_some, Option.getD_none, true_and, and_true, not_true_eq_false, not_false_eq_true, decide_true, decide_false, List.toList_toArray, Nat.le_refl, and_self, Bool.not_eq_true, Nat.sub_self, or_true, true_or, Option.some.injEq, List.length_map, List.nil_eq, and_false, false_and, AV.live, CV.live, CV.liveIn, K_keep, firstReg, Option.orElse_some, Option.orElse_none, head, keepSlots, keepBoxes, Int.lt_irrefl, List.length_append, ite_self, memOK, logOps, opKey, lentBoxes, Key.clash, Key.sees, Key.writes, Nat.lt_irrefl, gt_iff_lt, nobox_at, bot_at, false_or, or_false, beq_self_eq_true, Bool.true_beq, Bool.false_beq, good_61, good_86, good_68, hr, d1, d2, b1, b2, e1, hrun, wrap_nat i (by omega)]
  · rw [h1] at b1
    simp only [exL_seq, exL_region, exL_cond, exL_block, exL_scope, exL_ret, exL_skip, exL_exit, runRegion, runOps, stepOp, guardA, absOp, takeOver, opd, avOf, cvOf, St.degAt, St.put, okPV, okVal, okAV, absBin, intBin, strBin, boolBin, setBoxes, if_true, Bool.false_eq_true, if_false, Option.map_some, Option.map_none, Option.bind_some, Option.bind_none, thenO, outOf, upd, List.toList_toArray, isOwn, steal, appArgs, inApps, AV.deg, CV.deg, AV.gv, AV.isIter, absNext, some_bne, Nat.reduceLT, reduceIte, reduceCtorEq, Nat.reduceEqDiff, List.length_nil, List.length_cons, apply_ite (Option.map (outOf _)), List.filterMap_cons, List.filterMap_nil, beq_iff_eq, List.getElem?_cons_zero, List.getElem?_cons_succ, Option.getD_some, K_hook, hookB, Nat.reduceBEq, Bool.false_and, Bool.and_false, Bool.and_self, K_P, K_own, absCall, doCall, getBoxes, lend, back, idx, dedup, AV.ren, CV.ren, TV.ren, AV.ptrs, CV.ptrs, zipBox, AV.flat, CV.flat, absLoad, absStore, cellsOfAV, setAt, newBox, markB, bldTypes, absFieldAddr, absField, absExtract, absAssert, noAssert, absMkIface, ifcOf, CV.pv?, content, pushHead, ownT, fillCells, reps, pvs, chunks, enterSt, leave, resOf, resVars, resVar, outBoxes, lentOnly, TV.deg, TV.av, LK, CV.plain, CV.noBld, nilBin, absUn, bound, List.map_cons, List.map_nil, List.all_cons, List.all_nil, List.any_cons, List.any_nil, List.contains_cons, List.contains_nil, List.elem_cons, List.elem_nil, List.cons_append, List.nil_append, List.append_nil, List.flatMap_cons, List.flatMap_nil, List.zip_cons_cons, List.zip_nil_left, List.zip_nil_right, List.take_succ_cons, List.take_zero, List.take_nil, List.drop_succ_cons, List.drop_zero, List.drop_nil, List.isEmpty_nil, List.isEmpty_cons, Bool.and_true, Bool.true_and, Bool.or_true, Bool.true_or, Bool.or_false, Bool.false_or, Bool.not_true, Bool.not_false, Nat.reduceAdd, Nat.reduceSub, Nat.reduceLeDiff, Nat.add_zero, Nat.zero_add, Nat.reduceMul, Option.isNone_none, Option.isNone_some, Option.getD_none, true_and, and_true, not_true_eq_false, not_false_eq_true, decide_true, decide_false, List.toList_toArray, Nat.le_refl, and_self, Bool.not_eq_true, Nat.sub_self, or_true, true_or, Option.some.injEq, List.length_map, List.nil_eq, and_false, false_and, AV.live, CV.live, CV.liveIn, K_keep, firstReg, Option.orElse_some, Option.orElse_none, head, keepSlots, keepBoxes, Int.lt_irrefl, List.length_append, ite_self, memOK, logOps, opKey, lentBoxes, Key.clash, Key.sees, Key.writes, Nat.lt_irrefl, gt_iff_lt, nobox_at, bot_at, false_or, or_false, beq_self_eq_true, Bool.true_beq, Bool.false_beq, good_61, good_86, good_68, hr, d1, d2, b1, hrun, wrap_nat i (by omega)]
inductive TS where
  | nils
  | live
  | wr (l : List Tok)
def TS.toks : TS → List Tok
  | .wr l => l
  | _ => []
def TS.cell : TS → CV
  | .nils => .nils
  | .live => .own 0 []
  | .wr l => .own 45 (l.map Tok.enc)
abbrev scan (s : List UInt8) (x : TS) : List CV := [.pv (.str s), x.cell]
theorem lens_tok (a b c : PV) : lens 3 [[a, b, c]] = true := rfl
theorem lens_toks (l : List Tok) : lens 3 (l.map Tok.enc) = true := by simp [lens, Tok.enc]
theorem skip_den (s : List UInt8) (x : TS) (n : Nat) (h : n ≤ s.length) : den K 89 [P0, I n] [scan s x] = some (.ret (.tup []) [scan (s.drop n) x]) := by
  refine den_run rfl rfl Tryz.func89 rfl Tryz.ntmps89 ⟨by simp, by simp [LK]⟩ ?_
  have hr : Tryz.f89.results = #[] := rfl
  have hb : ((0 : Int) ≤ (n : Int) ∧ (n : Int) ≤ (s.length : Int)) = True := eq_true (by omega)
  have hd : (s.take s.length).drop n = s.drop n := by rw [List.take_length]
  cases x <;> simp only [TS.cell, scan, exL_seq, exL_region, exL_cond, exL_block, exL_scope, exL_ret, exL_skip, exL_exit, runRegion, runOps, stepOp, guardA, absOp, takeOver, opd, avOf, cvOf, St.degAt, St.put, okPV, okVal, okAV, absBin, intBin, strBin, boolBin, setBoxes, if_true, Bool.false_eq_true, if_false, Option.map_some, Option.map_none, Option.bind_some, Option.bind_none, thenO, outOf, upd, List.toList_toArray, isOwn, steal, appArgs, inApps, AV.deg, CV.deg, AV.gv, AV.isIter, absNext, some_bne, Nat.reduceLT, reduceIte, reduceCtorEq, Nat.reduceEqDiff, List.length_nil, List.length_cons, apply_ite (Option.map (outOf _)), List.filterMap_cons, List.filterMap_nil, beq_iff_eq, List.getElem?_cons_zero, List.getElem?_cons_succ, Option.getD_some, K_hook, hookB, Nat.reduceBEq, Bool.false_and, Bool.and_false, Bool.and_self, K_P, K_own, absCall, doCall, getBoxes, lend, back, idx, dedup, AV.ren, CV.ren, TV.ren, AV.ptrs, CV.ptrs, zipBox, AV.flat, CV.flat, absLoad, absStore, cellsOfAV, setAt, newBox, markB, bldTypes, absFieldAddr, absField, absExtract, absAssert, noAssert, absMkIface, ifcOf, CV.pv?, content, pushHead, ownT, fillCells, reps, pvs, chunks, enterSt, leave, resOf, resVars, resVar, outBoxes, lentOnly, TV.deg, TV.av, LK, CV.plain, CV.noBld, nilBin, absUn, bound, List.map_cons, List.map_nil, List.all_cons, List.all_nil, List.any_cons, List.any_nil, List.contains_cons, List.contains_nil, List.elem_cons, List.elem_nil, List.cons_append, List.nil_append, List.append_nil, List.flatMap_cons, List.flatMap_nil, List.zip_cons_cons, List.zip_nil_left, List.zip_nil_right, List.take_succ_cons, List.take_zero, List.take_nil, List.drop_succ_cons, List.drop_zero, List.drop_nil, List.isEmpty_nil, List.isEmpty_cons, Bool.and_true, Bool.true_and, Bool.or_true, Bool.true_or, Bool.or_false, Bool.false_or, Bool.not_true, Bool.not_false, Nat.reduceAdd, Nat.reduceSub, Nat.reduceLeDiff, Nat.add_zero, Nat.zero_add, Nat.reduceMul, Option.isNone_none, Option.isNone_some, Option.getD_none, true_and, and_true, not_true_eq_false, not_false_eq_true, decide_true, decide_false, List.toList_toArray, Nat.le_refl, and_self, Bool.not_eq_true, Nat.sub_self, or_true, true_or, Option.some.injEq, List.length_map, List.nil_eq, and_false, false_and, AV.live, CV.live, CV.liveIn, K_keep, firstReg, Option.orElse_some, Option.orElse_none, head, keepSlots, keepBoxes, Int.lt_irrefl, List.length_append, ite_self, memOK, logOps, opKey, lentBoxes, Key.clash, Key.sees, Key.writes, Nat.lt_irrefl, gt_iff_lt, nobox_at, bot_at, false_or, or_false, beq_self_eq_true, Bool.true_beq, Bool.false_beq, ty_fieldOff_67_0, ty_szOf_65, ty_shapeT_65, ev_slice_str ty_descOf_65, hr, hb, Int.toNat_natCast, hd]
theorem put_den (s : List UInt8) (x : TS) (n : Nat) (kind : Int) (text : List UInt8) (v : Int) (h : n ≤ s.length) (hx : x.toks.length < 4000000000) :
    den K 67 [P0, I n, I kind, T text, I v] [scan s x] = some (.ret (.tup []) [scan (s.drop n) (.wr (x.toks ++ [⟨kind, text, v⟩]))]) := by
  refine den_run rfl rfl Tryz.func67 rfl Tryz.ntmps67 ⟨by simp, by simp [LK]⟩ ?_
  have hr : Tryz.f67.results = #[] := rfl
  have hsk := skip_den s (.wr (x.toks ++ [⟨kind, text, v⟩])) n h
  have hl : x.toks.length + 1 < appLim := by simp [appLim]; omega
  cases x <;> simp only [TS.cell, TS.toks, scan, List.map_append, List.map_cons, List.map_nil, Tok.enc, List.nil_append, List.length_nil] at hsk hl ⊢ <;>
    simp only [TS.cell, TS.toks, exL_seq, exL_region, exL_cond, exL_block, exL_scope, exL_ret, exL_skip, exL_exit, runRegion, runOps, stepOp, guardA, absOp, takeOver, opd, avOf, cvOf, St.degAt, St.put, okPV, okVal, okAV, absBin, intBin, strBin, boolBin, setBoxes, if_true, Bool.false_eq_true, if_false, Option.map_some, Option.map_none, Option.bind_some, Option.bind_none, thenO, outOf, upd, List.toList_toArray, isOwn, steal, appArgs, inApps, AV.deg, CV.deg, AV.gv, AV.isIter, absNext, some_bne, Nat.reduceLT, reduceIte, reduceCtorEq, Nat.reduceEqDiff, List.length_nil, List.length_cons, apply_ite (Option.map (outOf _)), List.filterMap_cons, List.filterMap_nil, beq_iff_eq, List.getElem?_cons_zero, List.getElem?_cons_succ, Option.getD_some, K_hook, hookB, Nat.reduceBEq, Bool.false_and, Bool.and_false, Bool.and_self, K_P, K_own, absCall, doCall, getBoxes, lend, back, idx, dedup, AV.ren, CV.ren, TV.ren, AV.ptrs, CV.ptrs, zipBox, AV.flat, CV.flat, absLoad, absStore, cellsOfAV, setAt, newBox, markB, bldTypes, absFieldAddr, absField, absExtract, absAssert, noAssert, absMkIface, ifcOf, CV.pv?, content, pushHead, ownT, fillCells, reps, pvs, chunks, enterSt, leave, resOf, resVars, resVar, outBoxes, lentOnly, TV.deg, TV.av, LK, CV.plain, CV.noBld, nilBin, absUn, bound, List.map_cons, List.map_nil, List.all_cons, List.all_nil, List.any_cons, List.any_nil, List.contains_cons, List.contains_nil, List.elem_cons, List.elem_nil, List.cons_append, List.nil_append, List.append_nil, List.flatMap_cons, List.flatMap_nil, List.zip_cons_cons, List.zip_nil_left, List.zip_nil_right, List.take_succ_cons, List.take_zero, List.take_nil, List.drop_succ_cons, List.drop_zero, List.drop_nil, List.isEmpty_nil, List.isEmpty_cons, Bool.and_true, Bool.true_and, Bool.or_true, Bool.true_or, Bool.or_false, Bool.false_or, Bool.not_true, Bool.not_false, Nat.reduceAdd, Nat.reduceSub, Nat.reduceLeDiff, Nat.add_zero, Nat.zero_add, Nat.reduceMul, Option.isNone_none, Option.isNone_some, Option.getD_none, true_and, and_true, not_true_eq_false, not_false_eq_true, decide_true, decide_false, List.toList_toArray, Nat.le_refl, and_self, Bool.not_eq_true, Nat.sub_self, or_true, true_or, Option.some.injEq, List.length_map, List.nil_eq, and_false, false_and, AV.live, CV.live, CV.liveIn, K_keep, firstReg, Option.orElse_some, Option.orElse_none, head, keepSlots, keepBoxes, Int.lt_irrefl, List.length_append, ite_self, memOK, logOps, opKey, lentBoxes, Key.clash, Key.sees, Key.writes, Nat.lt_irrefl, gt_iff_lt, nobox_at, bot_at, false_or, or_false, beq_self_eq_true, Bool.true_beq, Bool.false_beq, ty_fieldOff_67_1, ty_szOf_41, ty_shapeT_41, ev_build ty_zeroCells_45 ty_placesOf_45, ev_buildSlice (len := 1) ty_descOf_41 ty_szOf_45 ty_zeroCells_45 ⟨rfl, by decide, by decide⟩, ev_append ty_appInfo_41, ev_appNew_sl ty_descOf_41, good_89, hr, hsk, hl, lens_nil, lens_tok, lens_toks, Tok.enc]
end Go.Abs
