/-
  WHAT THE FUNCTIONS COMPUTE, layer 2: blocks' last tokens; values told flat; depth.
  WHAT THE FUNCTIONS COMPUTE, layer 2: are values the same?
  WHAT THE FUNCTIONS COMPUTE, layer 2: depth; are values the same?
-/
import Derived.Test.YtegabgmehebimaaDoorQI
import Derived.Test.YtegabgmehebimaaDoorQE
import Derived.Test.YtegabgmehebimaaDoorQM
set_option linter.unusedSimpArgs false
set_option linter.unusedVariables false
namespace Go.Abs
open Go Go.Proofs
set_option maxRecDepth 10000
attribute [local go_sem] exL_seq exL_region exL_cond exL_block exL_scope exL_ret exL_skip exL_exit runRegion runOps stepOp guardA absOp takeOver opd avOf cvOf St.degAt St.put okPV okVal okAV absBin intBin strBin boolBin setBoxes if_true Bool.false_eq_true if_false Option.map_some Option.map_none Option.bind_some Option.bind_none thenO outOf upd List.toList_toArray isOwn steal appArgs inApps AV.deg CV.deg AV.gv AV.isIter absNext some_bne List.length_nil List.length_cons List.filterMap_cons List.filterMap_nil beq_iff_eq List.getElem?_cons_zero List.getElem?_cons_succ Option.getD_some K_hook hookB Bool.false_and Bool.and_false Bool.and_self K_P K_own absCall doCall getBoxes lend back idx dedup AV.ren CV.ren TV.ren AV.ptrs CV.ptrs zipBox AV.flat CV.flat absLoad absStore cellsOfAV setAt newBox markB bldTypes absFieldAddr absField absExtract absAssert noAssert absMkIface ifcOf CV.pv? content pushHead ownT fillCells reps pvs chunks enterSt leave resOf resVars resVar outBoxes lentOnly TV.deg TV.av LK CV.plain CV.noBld nilBin absUn bound List.map_cons List.map_nil List.all_cons List.all_nil List.any_cons List.any_nil List.contains_cons List.contains_nil List.elem_cons List.elem_nil List.cons_append List.nil_append List.append_nil List.flatMap_cons List.flatMap_nil List.zip_cons_cons List.zip_nil_left List.zip_nil_right List.take_succ_cons List.take_zero List.take_nil List.drop_succ_cons List.drop_zero List.drop_nil List.isEmpty_nil List.isEmpty_cons Bool.and_true Bool.true_and Bool.or_true Bool.true_or Bool.or_false Bool.false_or Bool.not_true Bool.not_false Nat.add_zero Nat.zero_add Option.isNone_none Option.isNone_some Option.getD_none true_and and_true not_true_eq_false not_false_eq_true decide_true decide_false Nat.le_refl and_self Bool.not_eq_true Nat.sub_self or_true true_or Option.some.injEq List.length_map List.nil_eq and_false false_and AV.live CV.live CV.liveIn K_keep firstReg Option.orElse_some Option.orElse_none head keepSlots keepBoxes Int.lt_irrefl List.length_append ite_self memOK logOps opKey lentBoxes Key.clash Key.sees Key.writes Nat.lt_irrefl gt_iff_lt nobox_at bot_at false_or or_false beq_self_eq_true Bool.true_beq Bool.false_beq

theorem lens_valsK (l : List Val) : lens 5 (encL l) = true := by
  rw [encL_map]
  simp only [lens, List.all_map, List.all_eq_true, Function.comp_apply, beq_iff_eq]
  intro v _
  exact enc_len v
theorem lens_toksK (l : List Tok) : lens 3 (l.map Tok.enc) = true := by simp [lens, Tok.enc]
theorem lens_tokK (a b c : PV) : lens 3 [[a, b, c]] = true := rfl
theorem lens_valK (a b c d e : PV) : lens 5 [[a, b, c, d, e]] = true := rfl

theorem val_at (l : List Val) (i : Nat) (k : Int) (t : Tok) (l' : List Val) (h : l[i]? = some (.mk k t l')) : (encL l)[(i : Int).toNat]? = some [.int .i64 k, .int .i64 t.kind, .str t.text, .int .i64 t.n, .sl (encL l')] := encL_get l i _ h

theorem size_mem : ∀ {l : List Val} {k : Int} {t : Tok} {l' : List Val}, Val.mk k t l' ∈ l → Ne.size l' < Ne.size l
  | v :: l, k, t, l', h => by
    rw [Ne.size]
    rcases List.mem_cons.1 h with rfl | h
    · rw [Ne.sizeV]; omega
    · have := size_mem h; omega

theorem ind_list {Q : List Val → Prop} (h : ∀ l, (∀ k t l', Val.mk k t l' ∈ l → Q l') → Q l) (l : List Val) : Q l := by
  have key : ∀ (m : Nat) (l : List Val), Ne.size l ≤ m → Q l := by
    intro m
    induction m with
    | zero =>
      intro l hl
      refine h l fun k t l' hm => ?_
      have := size_mem hm; omega
    | succ m ih =>
      intro l hl
      refine h l fun k t l' hm => ih l' ?_
      have := size_mem hm; omega
  exact key _ l (Nat.le_refl _)

/-! ### the last token of a kind -/

theorem pairs_den : den K 30 [] [] = some (.ret (.c (.cmap pairsE)) []) := prim_run (F := pPairs) rfl rfl

theorem delim_den (s : List UInt8) : den K 31 [T s] [] = some (.ret (.agg [.pv (.int .i64 7), .pv (.str s), .pv (.int .i64 0)]) []) := by
  refine den_run rfl Tryd.func31 rfl Tryd.ntmps31 ⟨by simp, by simp [LK]⟩ ?_
  have hr : Tryd.f31.results = #[.cell 2 38] := rfl
  simp only [go_sem, Nat.reduceLT, reduceIte, reduceCtorEq, Nat.reduceEqDiff, apply_ite (Option.map (outOf _)), Nat.reduceBEq, Nat.reduceAdd, Nat.reduceSub, Nat.reduceLeDiff, Nat.reduceMul, ty_shapeT_38, ty_zeroCells_38, ev_build ty_zeroCells_38 ty_placesOf_38, ty_szOf_38, hr]

abbrev closeCv (k : Int) : List CV := [.pv (.int .i64 7), .pv (.str [Ne.closeC k]), .pv (.int .i64 0)]

theorem closing_den (k : Int) : den K 32 [I k] [] = some (.ret (.agg (closeCv k)) []) := by
  refine den_run rfl Tryd.func32 rfl Tryd.ntmps32 ⟨by simp, by simp [LK]⟩ ?_
  have hr : Tryd.f32.results = #[.cell 2 38] := rfl
  have hp := pairs_den
  have d1 := delim_den [41]
  have d2 := delim_den [93]
  have d3 := delim_den [125]
  by_cases h2 : k = 2
  · subst h2
    simp only [go_sem, Nat.reduceLT, reduceIte, reduceCtorEq, Nat.reduceEqDiff, apply_ite (Option.map (outOf _)), Nat.reduceBEq, Nat.reduceAdd, Nat.reduceSub, Nat.reduceLeDiff, Nat.reduceMul, ty_shapeT_38, ty_zeroCells_38, good_30, ty_zeroCells_56, ty_szOf_56, ty_fieldOff_56_1, ty_szOf_9, ty_shapeT_9, good_31, ty_szOf_38, K_ownP, hr, hp, NR.look_2, d1, d2, d3]
    rfl
  by_cases h3 : k = 3
  · subst h3
    simp only [go_sem, Nat.reduceLT, reduceIte, reduceCtorEq, Nat.reduceEqDiff, apply_ite (Option.map (outOf _)), Nat.reduceBEq, Nat.reduceAdd, Nat.reduceSub, Nat.reduceLeDiff, Nat.reduceMul, ty_shapeT_38, ty_zeroCells_38, good_30, ty_zeroCells_56, ty_szOf_56, ty_fieldOff_56_1, ty_szOf_9, ty_shapeT_9, good_31, ty_szOf_38, K_ownP, hr, hp, NR.look_3, d1, d2, d3]
    rfl
  by_cases h4 : k = 4
  · subst h4
    simp only [go_sem, Nat.reduceLT, reduceIte, reduceCtorEq, Nat.reduceEqDiff, apply_ite (Option.map (outOf _)), Nat.reduceBEq, Nat.reduceAdd, Nat.reduceSub, Nat.reduceLeDiff, Nat.reduceMul, ty_shapeT_38, ty_zeroCells_38, good_30, ty_zeroCells_56, ty_szOf_56, ty_fieldOff_56_1, ty_szOf_9, ty_shapeT_9, good_31, ty_szOf_38, K_ownP, hr, hp, NR.look_4, d1, d2, d3]
    rfl
  have hl := NR.look_no k h2 h3 h4
  have hv : Ne.closeC k = 41 := by simp [Ne.closeC, h3, h4]
  rw [closeCv, hv]
  simp only [go_sem, Nat.reduceLT, reduceIte, reduceCtorEq, Nat.reduceEqDiff, apply_ite (Option.map (outOf _)), Nat.reduceBEq, Nat.reduceAdd, Nat.reduceSub, Nat.reduceLeDiff, Nat.reduceMul, ty_shapeT_38, ty_zeroCells_38, good_30, ty_zeroCells_56, ty_szOf_56, ty_fieldOff_56_1, ty_szOf_9, ty_shapeT_9, good_31, ty_szOf_38, K_ownP, hr, hp, hl, d1, d2, d3]

/-! ### told flat -/

abbrev flatH (l : List Val) (i : Nat) (e : Nat) (acc : List Tok) : St :=
  { sl := upd (upd (upd (upd bot 10 (I i)) 9 (I l.length)) 8 (L (encL l))) 3 (.c (.own e (acc.map Tok.enc))), bx := nobox, nt := 60 }
noncomputable def flp : Code := .loop (loopAt Tryd.f15 3)

def FlatDen (l : List Val) : Prop := Ne.size l ≤ 1000000 → den K 15 [L (encL l)] [] = some (.ret (L ((Ne.flat l).map Tok.enc)) [])

theorem snoc_tok (acc : List Tok) (t : Tok) : acc.map Tok.enc ++ [[.int .i64 t.kind, .str t.text, .int .i64 t.n]] = (acc ++ [t]).map Tok.enc := by simp [Tok.enc]
theorem snoc_del (acc : List Tok) (c : UInt8) : acc.map Tok.enc ++ [[.int .i64 7, .str [c], .int .i64 0]] = (acc ++ [Tok.mk 7 [c] 0]).map Tok.enc := by simp [Tok.enc]
theorem app_toks (a b : List Tok) : a.map Tok.enc ++ b.map Tok.enc = (a ++ b).map Tok.enc := by simp

set_option maxHeartbeats 4000000 in
theorem flat_step (l : List Val) (i : Nat) (e : Nat) (acc : List Tok) (he : e = 38 ∨ acc = []) (k : Int) (t : Tok) (l' : List Val) (hi : l[i]? = some (.mk k t l')) (hlen : l.length ≤ 1000000) (hacc : acc.length ≤ 3000000) (hs : (Ne.flat l').length ≤ 3000000)
    (hf : den K 15 [L (encL l')] [] = some (.ret (L ((Ne.flat l').map Tok.enc)) [])) :
    ∃ e', (e' = 38 ∨ acc ++ Ne.flatV (.mk k t l') = []) ∧ exL K 15 flp (flatH l i e acc) = exL K 15 flp (flatH l (i + 1) e' (acc ++ Ne.flatV (.mk k t l'))) := by
  have hil : i < l.length := (List.getElem?_eq_some_iff.1 hi).1
  have hlt : decide ((i : Int) < (l.length : Int)) = true := decide_eq_true (by omega)
  have hget := val_at l i k t l' hi
  have hw : IntKind.i64.wrap ((i : Int) + 1) = ((i + 1 : Nat) : Int) := wrap_nat i (by omega)
  have hp := pairs_den
  have hc := closing_den k
  have hown : e = 38 ∨ (acc.map Tok.enc).isEmpty = true := by
    rcases he with rfl | rfl
    · exact .inl rfl
    · exact .inr rfl
  have hlim1 : acc.length + 1 < appLim := by unfold appLim; omega
  have hlim2 : acc.length + 1 + (Ne.flat l').length < appLim := by unfold appLim; omega
  have hlim3 : acc.length + 1 + (Ne.flat l').length + 1 < appLim := by unfold appLim; omega
  unfold flp
  conv in loopAt _ _ => whnf
  conv in loopAt _ _ => whnf
  conv in exL _ _ _ (flatH l i e acc) => rw [exL_loop]
  by_cases h1 : k = 1
  · subst h1
    have hl := NR.look_no 1 (by decide) (by decide) (by decide)
    refine ⟨38, .inl rfl, ?_⟩
    have hv : Ne.flatV (.mk 1 t l') = [t] := by rw [Ne.flatV, if_pos rfl]
    rw [hv]
    simp only [go_sem, Nat.reduceLT, reduceIte, reduceCtorEq, Nat.reduceEqDiff, apply_ite (Option.map (outOf _)), Nat.reduceBEq, Nat.reduceAdd, Nat.reduceSub, Nat.reduceLeDiff, Nat.reduceMul, ev_len_sl ty_descOf_23, ev_indexAddr ty_descOf_23, ty_szOf_40, ty_shapeT_40, ty_zeroCells_40, good_30, ty_fieldOff_40_0, ty_szOf_3, ty_shapeT_3, ty_zeroCells_56, ty_szOf_56, ty_fieldOff_40_1, ty_szOf_38, ty_shapeT_38, ev_buildSlice (len := 1) ty_descOf_22 ty_szOf_38 ty_zeroCells_38 ⟨rfl, by decide, by decide⟩, ev_append ty_appInfo_22, ev_appNew_sl ty_descOf_22, ty_fieldOff_56_0, ty_szOf_9, ty_shapeT_9, good_31, ty_fieldOff_40_2, ty_szOf_23, ty_shapeT_23, good_15, good_32, keep_15_3, K_ownP, hlt, hget, Int.natCast_nonneg, hp, hl, hf, hc, lens_toksK, lens_tokK, hlim1, hlim2, hlim3, hown, snoc_tok, snoc_del, app_toks, hw]
    rw [reach_if]
    rotate_left
    · kernel_rfl
    simp only [go_sem, Nat.reduceLT, reduceIte, reduceCtorEq, Nat.reduceEqDiff, apply_ite (Option.map (outOf _)), Nat.reduceBEq, Nat.reduceAdd, Nat.reduceSub, Nat.reduceLeDiff, Nat.reduceMul, ev_len_sl ty_descOf_23, ev_indexAddr ty_descOf_23, ty_szOf_40, ty_shapeT_40, ty_zeroCells_40, good_30, ty_fieldOff_40_0, ty_szOf_3, ty_shapeT_3, ty_zeroCells_56, ty_szOf_56, ty_fieldOff_40_1, ty_szOf_38, ty_shapeT_38, ev_buildSlice (len := 1) ty_descOf_22 ty_szOf_38 ty_zeroCells_38 ⟨rfl, by decide, by decide⟩, ev_append ty_appInfo_22, ev_appNew_sl ty_descOf_22, ty_fieldOff_56_0, ty_szOf_9, ty_shapeT_9, good_31, ty_fieldOff_40_2, ty_szOf_23, ty_shapeT_23, good_15, good_32, keep_15_3, K_ownP, hlt, hget, Int.natCast_nonneg, hp, hl, hf, hc, lens_toksK, lens_tokK, hlim1, hlim2, hlim3, hown, snoc_tok, snoc_del, app_toks, hw]
    rw [exL_head]
    simp only [go_sem, Nat.reduceLT, reduceIte, reduceCtorEq, Nat.reduceEqDiff, apply_ite (Option.map (outOf _)), Nat.reduceBEq, Nat.reduceAdd, Nat.reduceSub, Nat.reduceLeDiff, Nat.reduceMul, ev_len_sl ty_descOf_23, ev_indexAddr ty_descOf_23, ty_szOf_40, ty_shapeT_40, ty_zeroCells_40, good_30, ty_fieldOff_40_0, ty_szOf_3, ty_shapeT_3, ty_zeroCells_56, ty_szOf_56, ty_fieldOff_40_1, ty_szOf_38, ty_shapeT_38, ev_buildSlice (len := 1) ty_descOf_22 ty_szOf_38 ty_zeroCells_38 ⟨rfl, by decide, by decide⟩, ev_append ty_appInfo_22, ev_appNew_sl ty_descOf_22, ty_fieldOff_56_0, ty_szOf_9, ty_shapeT_9, good_31, ty_fieldOff_40_2, ty_szOf_23, ty_shapeT_23, good_15, good_32, keep_15_3]
  by_cases h5 : k = 5
  · subst h5
    have hl := NR.look_no 5 (by decide) (by decide) (by decide)
    have n1 : ((5 : Int) = 1) = False := by decide
    refine ⟨38, .inl rfl, ?_⟩
    have hv : Ne.flatV (.mk 5 t l') = t :: (Ne.flat l' ++ [Ne.closeT 5]) := by rw [Ne.flatV, if_neg (by decide), if_pos rfl]
    rw [hv]
    have ha : acc ++ t :: (Ne.flat l' ++ [Ne.closeT 5]) = acc ++ [t] ++ Ne.flat l' ++ [Tok.mk 7 [Ne.closeC 5] 0] := by simp [Ne.closeT]
    rw [ha]
    simp only [go_sem, Nat.reduceLT, reduceIte, reduceCtorEq, Nat.reduceEqDiff, apply_ite (Option.map (outOf _)), Nat.reduceBEq, Nat.reduceAdd, Nat.reduceSub, Nat.reduceLeDiff, Nat.reduceMul, ev_len_sl ty_descOf_23, ev_indexAddr ty_descOf_23, ty_szOf_40, ty_shapeT_40, ty_zeroCells_40, good_30, ty_fieldOff_40_0, ty_szOf_3, ty_shapeT_3, ty_zeroCells_56, ty_szOf_56, ty_fieldOff_40_1, ty_szOf_38, ty_shapeT_38, ev_buildSlice (len := 1) ty_descOf_22 ty_szOf_38 ty_zeroCells_38 ⟨rfl, by decide, by decide⟩, ev_append ty_appInfo_22, ev_appNew_sl ty_descOf_22, ty_fieldOff_56_0, ty_szOf_9, ty_shapeT_9, good_31, ty_fieldOff_40_2, ty_szOf_23, ty_shapeT_23, good_15, good_32, keep_15_3, K_ownP, hlt, hget, Int.natCast_nonneg, hp, hl, hf, hc, lens_toksK, lens_tokK, hlim1, hlim2, hlim3, hown, snoc_tok, snoc_del, app_toks, hw, n1]
    rw [reach_if]
    rotate_left
    · kernel_rfl
    simp only [go_sem, Nat.reduceLT, reduceIte, reduceCtorEq, Nat.reduceEqDiff, apply_ite (Option.map (outOf _)), Nat.reduceBEq, Nat.reduceAdd, Nat.reduceSub, Nat.reduceLeDiff, Nat.reduceMul, ev_len_sl ty_descOf_23, ev_indexAddr ty_descOf_23, ty_szOf_40, ty_shapeT_40, ty_zeroCells_40, good_30, ty_fieldOff_40_0, ty_szOf_3, ty_shapeT_3, ty_zeroCells_56, ty_szOf_56, ty_fieldOff_40_1, ty_szOf_38, ty_shapeT_38, ev_buildSlice (len := 1) ty_descOf_22 ty_szOf_38 ty_zeroCells_38 ⟨rfl, by decide, by decide⟩, ev_append ty_appInfo_22, ev_appNew_sl ty_descOf_22, ty_fieldOff_56_0, ty_szOf_9, ty_shapeT_9, good_31, ty_fieldOff_40_2, ty_szOf_23, ty_shapeT_23, good_15, good_32, keep_15_3, K_ownP, hlt, hget, Int.natCast_nonneg, hp, hl, hf, hc, lens_toksK, lens_tokK, hlim1, hlim2, hlim3, hown, snoc_tok, snoc_del, app_toks, hw, n1]
    rw [exL_head]
    simp only [go_sem, Nat.reduceLT, reduceIte, reduceCtorEq, Nat.reduceEqDiff, apply_ite (Option.map (outOf _)), Nat.reduceBEq, Nat.reduceAdd, Nat.reduceSub, Nat.reduceLeDiff, Nat.reduceMul, ev_len_sl ty_descOf_23, ev_indexAddr ty_descOf_23, ty_szOf_40, ty_shapeT_40, ty_zeroCells_40, good_30, ty_fieldOff_40_0, ty_szOf_3, ty_shapeT_3, ty_zeroCells_56, ty_szOf_56, ty_fieldOff_40_1, ty_szOf_38, ty_shapeT_38, ev_buildSlice (len := 1) ty_descOf_22 ty_szOf_38 ty_zeroCells_38 ⟨rfl, by decide, by decide⟩, ev_append ty_appInfo_22, ev_appNew_sl ty_descOf_22, ty_fieldOff_56_0, ty_szOf_9, ty_shapeT_9, good_31, ty_fieldOff_40_2, ty_szOf_23, ty_shapeT_23, good_15, good_32, keep_15_3]
  by_cases h2 : k = 2
  · subst h2
    have hl := NR.look_2
    have n1 : ((2 : Int) = 1) = False := by decide
    have n5 : ((2 : Int) = 5) = False := by decide
    have hd := delim_den [40]
    refine ⟨38, .inl rfl, ?_⟩
    have hv : Ne.flatV (.mk 2 t l') = Ne.openT 2 :: (Ne.flat l' ++ [Ne.closeT 2]) := by rw [Ne.flatV, if_neg (by decide), if_neg (by decide), if_pos (by decide)]
    rw [hv]
    have ha : acc ++ Ne.openT 2 :: (Ne.flat l' ++ [Ne.closeT 2]) = acc ++ [Tok.mk 7 [40] 0] ++ Ne.flat l' ++ [Tok.mk 7 [Ne.closeC 2] 0] := by simp [Ne.closeT, Ne.openT, Ne.openC]
    rw [ha]
    simp only [go_sem, Nat.reduceLT, reduceIte, reduceCtorEq, Nat.reduceEqDiff, apply_ite (Option.map (outOf _)), Nat.reduceBEq, Nat.reduceAdd, Nat.reduceSub, Nat.reduceLeDiff, Nat.reduceMul, ev_len_sl ty_descOf_23, ev_indexAddr ty_descOf_23, ty_szOf_40, ty_shapeT_40, ty_zeroCells_40, good_30, ty_fieldOff_40_0, ty_szOf_3, ty_shapeT_3, ty_zeroCells_56, ty_szOf_56, ty_fieldOff_40_1, ty_szOf_38, ty_shapeT_38, ev_buildSlice (len := 1) ty_descOf_22 ty_szOf_38 ty_zeroCells_38 ⟨rfl, by decide, by decide⟩, ev_append ty_appInfo_22, ev_appNew_sl ty_descOf_22, ty_fieldOff_56_0, ty_szOf_9, ty_shapeT_9, good_31, ty_fieldOff_40_2, ty_szOf_23, ty_shapeT_23, good_15, good_32, keep_15_3, K_ownP, hlt, hget, Int.natCast_nonneg, hp, hl, hf, hc, lens_toksK, lens_tokK, hlim1, hlim2, hlim3, hown, snoc_tok, snoc_del, app_toks, hw, hd, n1, n5]
    rw [reach_if]
    rotate_left
    · kernel_rfl
    simp only [go_sem, Nat.reduceLT, reduceIte, reduceCtorEq, Nat.reduceEqDiff, apply_ite (Option.map (outOf _)), Nat.reduceBEq, Nat.reduceAdd, Nat.reduceSub, Nat.reduceLeDiff, Nat.reduceMul, ev_len_sl ty_descOf_23, ev_indexAddr ty_descOf_23, ty_szOf_40, ty_shapeT_40, ty_zeroCells_40, good_30, ty_fieldOff_40_0, ty_szOf_3, ty_shapeT_3, ty_zeroCells_56, ty_szOf_56, ty_fieldOff_40_1, ty_szOf_38, ty_shapeT_38, ev_buildSlice (len := 1) ty_descOf_22 ty_szOf_38 ty_zeroCells_38 ⟨rfl, by decide, by decide⟩, ev_append ty_appInfo_22, ev_appNew_sl ty_descOf_22, ty_fieldOff_56_0, ty_szOf_9, ty_shapeT_9, good_31, ty_fieldOff_40_2, ty_szOf_23, ty_shapeT_23, good_15, good_32, keep_15_3, K_ownP, hlt, hget, Int.natCast_nonneg, hp, hl, hf, hc, lens_toksK, lens_tokK, hlim1, hlim2, hlim3, hown, snoc_tok, snoc_del, app_toks, hw, hd, n1, n5]
    rw [exL_head]
    simp only [go_sem, Nat.reduceLT, reduceIte, reduceCtorEq, Nat.reduceEqDiff, apply_ite (Option.map (outOf _)), Nat.reduceBEq, Nat.reduceAdd, Nat.reduceSub, Nat.reduceLeDiff, Nat.reduceMul, ev_len_sl ty_descOf_23, ev_indexAddr ty_descOf_23, ty_szOf_40, ty_shapeT_40, ty_zeroCells_40, good_30, ty_fieldOff_40_0, ty_szOf_3, ty_shapeT_3, ty_zeroCells_56, ty_szOf_56, ty_fieldOff_40_1, ty_szOf_38, ty_shapeT_38, ev_buildSlice (len := 1) ty_descOf_22 ty_szOf_38 ty_zeroCells_38 ⟨rfl, by decide, by decide⟩, ev_append ty_appInfo_22, ev_appNew_sl ty_descOf_22, ty_fieldOff_56_0, ty_szOf_9, ty_shapeT_9, good_31, ty_fieldOff_40_2, ty_szOf_23, ty_shapeT_23, good_15, good_32, keep_15_3]
  by_cases h3 : k = 3
  · subst h3
    have hl := NR.look_3
    have n1 : ((3 : Int) = 1) = False := by decide
    have n5 : ((3 : Int) = 5) = False := by decide
    have hd := delim_den [91]
    refine ⟨38, .inl rfl, ?_⟩
    have hv : Ne.flatV (.mk 3 t l') = Ne.openT 3 :: (Ne.flat l' ++ [Ne.closeT 3]) := by rw [Ne.flatV, if_neg (by decide), if_neg (by decide), if_pos (by decide)]
    rw [hv]
    have ha : acc ++ Ne.openT 3 :: (Ne.flat l' ++ [Ne.closeT 3]) = acc ++ [Tok.mk 7 [91] 0] ++ Ne.flat l' ++ [Tok.mk 7 [Ne.closeC 3] 0] := by simp [Ne.closeT, Ne.openT, Ne.openC]
    rw [ha]
    simp only [go_sem, Nat.reduceLT, reduceIte, reduceCtorEq, Nat.reduceEqDiff, apply_ite (Option.map (outOf _)), Nat.reduceBEq, Nat.reduceAdd, Nat.reduceSub, Nat.reduceLeDiff, Nat.reduceMul, ev_len_sl ty_descOf_23, ev_indexAddr ty_descOf_23, ty_szOf_40, ty_shapeT_40, ty_zeroCells_40, good_30, ty_fieldOff_40_0, ty_szOf_3, ty_shapeT_3, ty_zeroCells_56, ty_szOf_56, ty_fieldOff_40_1, ty_szOf_38, ty_shapeT_38, ev_buildSlice (len := 1) ty_descOf_22 ty_szOf_38 ty_zeroCells_38 ⟨rfl, by decide, by decide⟩, ev_append ty_appInfo_22, ev_appNew_sl ty_descOf_22, ty_fieldOff_56_0, ty_szOf_9, ty_shapeT_9, good_31, ty_fieldOff_40_2, ty_szOf_23, ty_shapeT_23, good_15, good_32, keep_15_3, K_ownP, hlt, hget, Int.natCast_nonneg, hp, hl, hf, hc, lens_toksK, lens_tokK, hlim1, hlim2, hlim3, hown, snoc_tok, snoc_del, app_toks, hw, hd, n1, n5]
    rw [reach_if]
    rotate_left
    · kernel_rfl
    simp only [go_sem, Nat.reduceLT, reduceIte, reduceCtorEq, Nat.reduceEqDiff, apply_ite (Option.map (outOf _)), Nat.reduceBEq, Nat.reduceAdd, Nat.reduceSub, Nat.reduceLeDiff, Nat.reduceMul, ev_len_sl ty_descOf_23, ev_indexAddr ty_descOf_23, ty_szOf_40, ty_shapeT_40, ty_zeroCells_40, good_30, ty_fieldOff_40_0, ty_szOf_3, ty_shapeT_3, ty_zeroCells_56, ty_szOf_56, ty_fieldOff_40_1, ty_szOf_38, ty_shapeT_38, ev_buildSlice (len := 1) ty_descOf_22 ty_szOf_38 ty_zeroCells_38 ⟨rfl, by decide, by decide⟩, ev_append ty_appInfo_22, ev_appNew_sl ty_descOf_22, ty_fieldOff_56_0, ty_szOf_9, ty_shapeT_9, good_31, ty_fieldOff_40_2, ty_szOf_23, ty_shapeT_23, good_15, good_32, keep_15_3, K_ownP, hlt, hget, Int.natCast_nonneg, hp, hl, hf, hc, lens_toksK, lens_tokK, hlim1, hlim2, hlim3, hown, snoc_tok, snoc_del, app_toks, hw, hd, n1, n5]
    rw [exL_head]
    simp only [go_sem, Nat.reduceLT, reduceIte, reduceCtorEq, Nat.reduceEqDiff, apply_ite (Option.map (outOf _)), Nat.reduceBEq, Nat.reduceAdd, Nat.reduceSub, Nat.reduceLeDiff, Nat.reduceMul, ev_len_sl ty_descOf_23, ev_indexAddr ty_descOf_23, ty_szOf_40, ty_shapeT_40, ty_zeroCells_40, good_30, ty_fieldOff_40_0, ty_szOf_3, ty_shapeT_3, ty_zeroCells_56, ty_szOf_56, ty_fieldOff_40_1, ty_szOf_38, ty_shapeT_38, ev_buildSlice (len := 1) ty_descOf_22 ty_szOf_38 ty_zeroCells_38 ⟨rfl, by decide, by decide⟩, ev_append ty_appInfo_22, ev_appNew_sl ty_descOf_22, ty_fieldOff_56_0, ty_szOf_9, ty_shapeT_9, good_31, ty_fieldOff_40_2, ty_szOf_23, ty_shapeT_23, good_15, good_32, keep_15_3]
  by_cases h4 : k = 4
  · subst h4
    have hl := NR.look_4
    have n1 : ((4 : Int) = 1) = False := by decide
    have n5 : ((4 : Int) = 5) = False := by decide
    have hd := delim_den [123]
    refine ⟨38, .inl rfl, ?_⟩
    have hv : Ne.flatV (.mk 4 t l') = Ne.openT 4 :: (Ne.flat l' ++ [Ne.closeT 4]) := by rw [Ne.flatV, if_neg (by decide), if_neg (by decide), if_pos (by decide)]
    rw [hv]
    have ha : acc ++ Ne.openT 4 :: (Ne.flat l' ++ [Ne.closeT 4]) = acc ++ [Tok.mk 7 [123] 0] ++ Ne.flat l' ++ [Tok.mk 7 [Ne.closeC 4] 0] := by simp [Ne.closeT, Ne.openT, Ne.openC]
    rw [ha]
    simp only [go_sem, Nat.reduceLT, reduceIte, reduceCtorEq, Nat.reduceEqDiff, apply_ite (Option.map (outOf _)), Nat.reduceBEq, Nat.reduceAdd, Nat.reduceSub, Nat.reduceLeDiff, Nat.reduceMul, ev_len_sl ty_descOf_23, ev_indexAddr ty_descOf_23, ty_szOf_40, ty_shapeT_40, ty_zeroCells_40, good_30, ty_fieldOff_40_0, ty_szOf_3, ty_shapeT_3, ty_zeroCells_56, ty_szOf_56, ty_fieldOff_40_1, ty_szOf_38, ty_shapeT_38, ev_buildSlice (len := 1) ty_descOf_22 ty_szOf_38 ty_zeroCells_38 ⟨rfl, by decide, by decide⟩, ev_append ty_appInfo_22, ev_appNew_sl ty_descOf_22, ty_fieldOff_56_0, ty_szOf_9, ty_shapeT_9, good_31, ty_fieldOff_40_2, ty_szOf_23, ty_shapeT_23, good_15, good_32, keep_15_3, K_ownP, hlt, hget, Int.natCast_nonneg, hp, hl, hf, hc, lens_toksK, lens_tokK, hlim1, hlim2, hlim3, hown, snoc_tok, snoc_del, app_toks, hw, hd, n1, n5]
    rw [reach_if]
    rotate_left
    · kernel_rfl
    simp only [go_sem, Nat.reduceLT, reduceIte, reduceCtorEq, Nat.reduceEqDiff, apply_ite (Option.map (outOf _)), Nat.reduceBEq, Nat.reduceAdd, Nat.reduceSub, Nat.reduceLeDiff, Nat.reduceMul, ev_len_sl ty_descOf_23, ev_indexAddr ty_descOf_23, ty_szOf_40, ty_shapeT_40, ty_zeroCells_40, good_30, ty_fieldOff_40_0, ty_szOf_3, ty_shapeT_3, ty_zeroCells_56, ty_szOf_56, ty_fieldOff_40_1, ty_szOf_38, ty_shapeT_38, ev_buildSlice (len := 1) ty_descOf_22 ty_szOf_38 ty_zeroCells_38 ⟨rfl, by decide, by decide⟩, ev_append ty_appInfo_22, ev_appNew_sl ty_descOf_22, ty_fieldOff_56_0, ty_szOf_9, ty_shapeT_9, good_31, ty_fieldOff_40_2, ty_szOf_23, ty_shapeT_23, good_15, good_32, keep_15_3, K_ownP, hlt, hget, Int.natCast_nonneg, hp, hl, hf, hc, lens_toksK, lens_tokK, hlim1, hlim2, hlim3, hown, snoc_tok, snoc_del, app_toks, hw, hd, n1, n5]
    rw [exL_head]
    simp only [go_sem, Nat.reduceLT, reduceIte, reduceCtorEq, Nat.reduceEqDiff, apply_ite (Option.map (outOf _)), Nat.reduceBEq, Nat.reduceAdd, Nat.reduceSub, Nat.reduceLeDiff, Nat.reduceMul, ev_len_sl ty_descOf_23, ev_indexAddr ty_descOf_23, ty_szOf_40, ty_shapeT_40, ty_zeroCells_40, good_30, ty_fieldOff_40_0, ty_szOf_3, ty_shapeT_3, ty_zeroCells_56, ty_szOf_56, ty_fieldOff_40_1, ty_szOf_38, ty_shapeT_38, ev_buildSlice (len := 1) ty_descOf_22 ty_szOf_38 ty_zeroCells_38 ⟨rfl, by decide, by decide⟩, ev_append ty_appInfo_22, ev_appNew_sl ty_descOf_22, ty_fieldOff_56_0, ty_szOf_9, ty_shapeT_9, good_31, ty_fieldOff_40_2, ty_szOf_23, ty_shapeT_23, good_15, good_32, keep_15_3]
  have hl := NR.look_no k h2 h3 h4
  have e1 : (k == 1) = false := by rw [beq_eq_false_iff_ne]; exact h1
  have e5 : (k == 5) = false := by rw [beq_eq_false_iff_ne]; exact h5
  have hv : Ne.flatV (.mk k t l') = [] := by rw [Ne.flatV, if_neg h1, if_neg h5, if_neg (by omega)]
  rw [hv, List.append_nil]
  refine ⟨e, he, ?_⟩
  simp only [go_sem, Nat.reduceLT, reduceIte, reduceCtorEq, Nat.reduceEqDiff, apply_ite (Option.map (outOf _)), Nat.reduceBEq, Nat.reduceAdd, Nat.reduceSub, Nat.reduceLeDiff, Nat.reduceMul, ev_len_sl ty_descOf_23, ev_indexAddr ty_descOf_23, ty_szOf_40, ty_shapeT_40, ty_zeroCells_40, good_30, ty_fieldOff_40_0, ty_szOf_3, ty_shapeT_3, ty_zeroCells_56, ty_szOf_56, ty_fieldOff_40_1, ty_szOf_38, ty_shapeT_38, ev_buildSlice (len := 1) ty_descOf_22 ty_szOf_38 ty_zeroCells_38 ⟨rfl, by decide, by decide⟩, ev_append ty_appInfo_22, ev_appNew_sl ty_descOf_22, ty_fieldOff_56_0, ty_szOf_9, ty_shapeT_9, good_31, ty_fieldOff_40_2, ty_szOf_23, ty_shapeT_23, good_15, good_32, keep_15_3, K_ownP, hlt, hget, Int.natCast_nonneg, hp, hl, hf, hc, lens_toksK, lens_tokK, hlim1, hlim2, hlim3, hown, snoc_tok, snoc_del, app_toks, hw, e1, e5]
  rw [reach_if]
  rotate_left
  · kernel_rfl
  simp only [go_sem, Nat.reduceLT, reduceIte, reduceCtorEq, Nat.reduceEqDiff, apply_ite (Option.map (outOf _)), Nat.reduceBEq, Nat.reduceAdd, Nat.reduceSub, Nat.reduceLeDiff, Nat.reduceMul, ev_len_sl ty_descOf_23, ev_indexAddr ty_descOf_23, ty_szOf_40, ty_shapeT_40, ty_zeroCells_40, good_30, ty_fieldOff_40_0, ty_szOf_3, ty_shapeT_3, ty_zeroCells_56, ty_szOf_56, ty_fieldOff_40_1, ty_szOf_38, ty_shapeT_38, ev_buildSlice (len := 1) ty_descOf_22 ty_szOf_38 ty_zeroCells_38 ⟨rfl, by decide, by decide⟩, ev_append ty_appInfo_22, ev_appNew_sl ty_descOf_22, ty_fieldOff_56_0, ty_szOf_9, ty_shapeT_9, good_31, ty_fieldOff_40_2, ty_szOf_23, ty_shapeT_23, good_15, good_32, keep_15_3, K_ownP, hlt, hget, Int.natCast_nonneg, hp, hl, hf, hc, lens_toksK, lens_tokK, hlim1, hlim2, hlim3, hown, snoc_tok, snoc_del, app_toks, hw, e1, e5]
  rw [exL_head]
  simp only [go_sem, Nat.reduceLT, reduceIte, reduceCtorEq, Nat.reduceEqDiff, apply_ite (Option.map (outOf _)), Nat.reduceBEq, Nat.reduceAdd, Nat.reduceSub, Nat.reduceLeDiff, Nat.reduceMul, ev_len_sl ty_descOf_23, ev_indexAddr ty_descOf_23, ty_szOf_40, ty_shapeT_40, ty_zeroCells_40, good_30, ty_fieldOff_40_0, ty_szOf_3, ty_shapeT_3, ty_zeroCells_56, ty_szOf_56, ty_fieldOff_40_1, ty_szOf_38, ty_shapeT_38, ev_buildSlice (len := 1) ty_descOf_22 ty_szOf_38 ty_zeroCells_38 ⟨rfl, by decide, by decide⟩, ev_append ty_appInfo_22, ev_appNew_sl ty_descOf_22, ty_fieldOff_56_0, ty_szOf_9, ty_shapeT_9, good_31, ty_fieldOff_40_2, ty_szOf_23, ty_shapeT_23, good_15, good_32, keep_15_3]

theorem flat_loop (l : List Val) (hl : Ne.size l ≤ 1000000) (hin : ∀ k t l', Val.mk k t l' ∈ l → FlatDen l') : ∀ (rest : List Val) (i e : Nat) (acc : List Tok), l.drop i = rest → i ≤ l.length → (e = 38 ∨ acc = []) → acc.length + (Ne.flat rest).length ≤ 3000000 →
    Ends (exL K 15 flp (flatH l i e acc)) fun o S => o = .exit 0 ∧ S.nt = 60 ∧ ∃ e', S.sl 3 = .c (.own e' ((acc ++ Ne.flat rest).map Tok.enc))
  | [], i, e, acc, hd, hi, he, hacc => by
    have hin : i = l.length := by
      have := List.drop_eq_nil_iff.1 hd
      omega
    subst hin
    have hv : acc ++ Ne.flat [] = acc := by rw [Ne.flat, List.append_nil]
    rw [hv]
    unfold flp
    conv in loopAt _ _ => whnf
    rw [exL_loop]
    simp only [go_sem, Nat.reduceLT, reduceIte, reduceCtorEq, Nat.reduceEqDiff, apply_ite (Option.map (outOf _)), Nat.reduceBEq, Nat.reduceAdd, Nat.reduceSub, Nat.reduceLeDiff, Nat.reduceMul, ev_len_sl ty_descOf_23, ev_indexAddr ty_descOf_23, ty_szOf_40, ty_shapeT_40, ty_zeroCells_40, good_30, ty_fieldOff_40_0, ty_szOf_3, ty_shapeT_3, ty_zeroCells_56, ty_szOf_56, ty_fieldOff_40_1, ty_szOf_38, ty_shapeT_38, ev_buildSlice (len := 1) ty_descOf_22 ty_szOf_38 ty_zeroCells_38 ⟨rfl, by decide, by decide⟩, ev_append ty_appInfo_22, ev_appNew_sl ty_descOf_22, ty_fieldOff_56_0, ty_szOf_9, ty_shapeT_9, good_31, ty_fieldOff_40_2, ty_szOf_23, ty_shapeT_23, good_15, good_32, keep_15_3, ends_some]
    exact ⟨e, rfl⟩
  | .mk k t l' :: rest, i, e, acc, hd, hi, he, hacc => by
    obtain ⟨g1, g2, g3⟩ := drop_cons hd
    have hmem : Val.mk k t l' ∈ l := List.mem_of_getElem? g1
    have hsz := size_mem hmem
    have hfl := Ne.flat_size l'
    have hll : l.length ≤ 1000000 := Nat.le_trans (Ne.length_size l) hl
    have hsum : (Ne.flat (.mk k t l' :: rest)).length = (Ne.flatV (.mk k t l')).length + (Ne.flat rest).length := by rw [Ne.flat, List.length_append]
    rw [hsum] at hacc
    have ha3 : acc.length ≤ 3000000 := by omega
    have hs3 : (Ne.flat l').length ≤ 3000000 := by omega
    have hs1 : Ne.size l' ≤ 1000000 := by omega
    obtain ⟨e', he', hstep⟩ := flat_step l i e acc he k t l' g1 hll ha3 hs3 (hin k t l' hmem hs1)
    rw [hstep]
    have hlen2 : (acc ++ Ne.flatV (.mk k t l')).length + (Ne.flat rest).length ≤ 3000000 := by rw [List.length_append]; omega
    have hi2 : i + 1 ≤ l.length := by omega
    have ih := flat_loop l hl hin rest (i + 1) e' (acc ++ Ne.flatV (.mk k t l')) g2 hi2 he' hlen2
    rw [List.append_assoc] at ih
    have hv : Ne.flat (.mk k t l' :: rest) = Ne.flatV (.mk k t l') ++ Ne.flat rest := by rw [Ne.flat]
    rw [hv]
    exact ih

theorem Flat_den (l : List Val) : FlatDen l := by
  refine ind_list (fun l hin hs => ?_) l
  have hfl := Ne.flat_size l
  have hacc0 : ([] : List Tok).length + (Ne.flat l).length ≤ 3000000 := by rw [List.length_nil]; omega
  have h := flat_loop l hs hin l 0 0 [] rfl (Nat.zero_le _) (Or.inr rfl) hacc0
  unfold flp at h
  conv at h in loopAt _ _ => whnf
  obtain ⟨o, S', w, rfl, hn, e', h3⟩ := h
  rw [List.nil_append] at h3
  refine den_run rfl Tryd.func15 rfl Tryd.ntmps15 ⟨by simp, by simp [LK]⟩ ?_
  have hr : Tryd.f15.results = #[.tmp 2] := rfl
  simp only [go_sem, Nat.reduceLT, reduceIte, reduceCtorEq, Nat.reduceEqDiff, apply_ite (Option.map (outOf _)), Nat.reduceBEq, Nat.reduceAdd, Nat.reduceSub, Nat.reduceLeDiff, Nat.reduceMul, ev_len_sl ty_descOf_23, ev_indexAddr ty_descOf_23, ty_szOf_40, ty_shapeT_40, ty_zeroCells_40, good_30, ty_fieldOff_40_0, ty_szOf_3, ty_shapeT_3, ty_zeroCells_56, ty_szOf_56, ty_fieldOff_40_1, ty_szOf_38, ty_shapeT_38, ev_buildSlice (len := 1) ty_descOf_22 ty_szOf_38 ty_zeroCells_38 ⟨rfl, by decide, by decide⟩, ev_append ty_appInfo_22, ev_appNew_sl ty_descOf_22, ty_fieldOff_56_0, ty_szOf_9, ty_shapeT_9, good_31, ty_fieldOff_40_2, ty_szOf_23, ty_shapeT_23, good_15, good_32, keep_15_3, encL_len]
  rw [exL_head]
  simp only [go_sem, Nat.reduceLT, reduceIte, reduceCtorEq, Nat.reduceEqDiff, apply_ite (Option.map (outOf _)), Nat.reduceBEq, Nat.reduceAdd, Nat.reduceSub, Nat.reduceLeDiff, Nat.reduceMul, ev_len_sl ty_descOf_23, ev_indexAddr ty_descOf_23, ty_szOf_40, ty_shapeT_40, ty_zeroCells_40, good_30, ty_fieldOff_40_0, ty_szOf_3, ty_shapeT_3, ty_zeroCells_56, ty_szOf_56, ty_fieldOff_40_1, ty_szOf_38, ty_shapeT_38, ev_buildSlice (len := 1) ty_descOf_22 ty_szOf_38 ty_zeroCells_38 ⟨rfl, by decide, by decide⟩, ev_append ty_appInfo_22, ev_appNew_sl ty_descOf_22, ty_fieldOff_56_0, ty_szOf_9, ty_shapeT_9, good_31, ty_fieldOff_40_2, ty_szOf_23, ty_shapeT_23, good_15, good_32, keep_15_3]
  erw [w]
  simp only [go_sem, Nat.reduceLT, reduceIte, reduceCtorEq, Nat.reduceEqDiff, apply_ite (Option.map (outOf _)), Nat.reduceBEq, Nat.reduceAdd, Nat.reduceSub, Nat.reduceLeDiff, Nat.reduceMul, ev_len_sl ty_descOf_23, ev_indexAddr ty_descOf_23, ty_szOf_40, ty_shapeT_40, ty_zeroCells_40, good_30, ty_fieldOff_40_0, ty_szOf_3, ty_shapeT_3, ty_zeroCells_56, ty_szOf_56, ty_fieldOff_40_1, ty_szOf_38, ty_shapeT_38, ev_buildSlice (len := 1) ty_descOf_22 ty_szOf_38 ty_zeroCells_38 ⟨rfl, by decide, by decide⟩, ev_append ty_appInfo_22, ev_appNew_sl ty_descOf_22, ty_fieldOff_56_0, ty_szOf_9, ty_shapeT_9, good_31, ty_fieldOff_40_2, ty_szOf_23, ty_shapeT_23, good_15, good_32, keep_15_3, hr, hn, h3]
end Go.Abs

namespace Go.Abs
open Go Go.Proofs
set_option maxRecDepth 10000
attribute [local go_sem] exL_seq exL_region exL_cond exL_block exL_scope exL_ret exL_skip exL_exit runRegion runOps stepOp guardA absOp takeOver opd avOf cvOf St.degAt St.put okPV okVal okAV absBin intBin strBin boolBin setBoxes if_true Bool.false_eq_true if_false Option.map_some Option.map_none Option.bind_some Option.bind_none thenO outOf upd List.toList_toArray isOwn steal appArgs inApps AV.deg CV.deg AV.gv AV.isIter absNext some_bne List.length_nil List.length_cons List.filterMap_cons List.filterMap_nil beq_iff_eq List.getElem?_cons_zero List.getElem?_cons_succ Option.getD_some K_hook hookB Bool.false_and Bool.and_false Bool.and_self K_P K_own absCall doCall getBoxes lend back idx dedup AV.ren CV.ren TV.ren AV.ptrs CV.ptrs zipBox AV.flat CV.flat absLoad absStore cellsOfAV setAt newBox markB bldTypes absFieldAddr absField absExtract absAssert noAssert absMkIface ifcOf CV.pv? content pushHead ownT fillCells reps pvs chunks enterSt leave resOf resVars resVar outBoxes lentOnly TV.deg TV.av LK CV.plain CV.noBld nilBin absUn bound List.map_cons List.map_nil List.all_cons List.all_nil List.any_cons List.any_nil List.contains_cons List.contains_nil List.elem_cons List.elem_nil List.cons_append List.nil_append List.append_nil List.flatMap_cons List.flatMap_nil List.zip_cons_cons List.zip_nil_left List.zip_nil_right List.take_succ_cons List.take_zero List.take_nil List.drop_succ_cons List.drop_zero List.drop_nil List.isEmpty_nil List.isEmpty_cons Bool.and_true Bool.true_and Bool.or_true Bool.true_or Bool.or_false Bool.false_or Bool.not_true Bool.not_false Nat.add_zero Nat.zero_add Option.isNone_none Option.isNone_some Option.getD_none true_and and_true not_true_eq_false not_false_eq_true decide_true decide_false Nat.le_refl and_self Bool.not_eq_true Nat.sub_self or_true true_or Option.some.injEq List.length_map List.nil_eq and_false false_and AV.live CV.live CV.liveIn K_keep firstReg Option.orElse_some Option.orElse_none head keepSlots keepBoxes Int.lt_irrefl List.length_append ite_self memOK logOps opKey lentBoxes Key.clash Key.sees Key.writes Nat.lt_irrefl gt_iff_lt nobox_at bot_at false_or or_false beq_self_eq_true Bool.true_beq Bool.false_beq

abbrev FV (f : Nat) : AV := .c (.fn f [])
abbrev valCv (k : Int) (t : Tok) (l : List Val) : List CV := [.pv (.int .i64 k), .pv (.int .i64 t.kind), .pv (.str t.text), .pv (.int .i64 t.n), .pv (.sl (encL l))]
def VSameDen (a b : List Val) : Prop := den K 22 [L (encL a), L (encL b)] [] = some (.ret (B (Ne.same a b)) [])
def VSame2Den (a b : List Val) : Prop := den K 13 [L (encL a), L (encL b)] [] = some (.ret (B (Ne.same a b)) [])

theorem same1_den (k k' : Int) (t t' : Tok) (l l' : List Val) (h : VSameDen l l') : den K 39 [.agg (valCv k t l), .agg (valCv k' t' l')] [] = some (.ret (B (Ne.sameV (.mk k t l) (.mk k' t' l'))) []) := by
  have hr : Tryd.f39.results = #[.tmp 4] := rfl
  have heq := tok_eq t.kind t'.kind t.n t'.n t.text t'.text
  rw [tok_beq] at heq
  unfold VSameDen at h
  rw [Ne.sameV]
  refine den_run rfl Tryd.func39 rfl Tryd.ntmps39 ⟨by simp, by simp [LK]⟩ ?_
  cases b1 : (k == k')
  · simp only [go_sem, Nat.reduceLT, reduceIte, reduceCtorEq, Nat.reduceEqDiff, apply_ite (Option.map (outOf _)), Nat.reduceBEq, Nat.reduceAdd, Nat.reduceSub, Nat.reduceLeDiff, Nat.reduceMul, ty_fieldOff_40_0, ty_szOf_3, ty_shapeT_3, ty_fieldOff_40_1, ty_szOf_38, ty_shapeT_38, ty_fieldOff_40_2, ty_szOf_23, ty_shapeT_23, good_22, hr, b1]
  · cases b2 : decide (t = t')
    · rw [b2] at heq
      simp only [go_sem, Nat.reduceLT, reduceIte, reduceCtorEq, Nat.reduceEqDiff, apply_ite (Option.map (outOf _)), Nat.reduceBEq, Nat.reduceAdd, Nat.reduceSub, Nat.reduceLeDiff, Nat.reduceMul, ty_fieldOff_40_0, ty_szOf_3, ty_shapeT_3, ty_fieldOff_40_1, ty_szOf_38, ty_shapeT_38, ty_fieldOff_40_2, ty_szOf_23, ty_shapeT_23, good_22, hr, b1, heq]
    · rw [b2] at heq
      simp only [go_sem, Nat.reduceLT, reduceIte, reduceCtorEq, Nat.reduceEqDiff, apply_ite (Option.map (outOf _)), Nat.reduceBEq, Nat.reduceAdd, Nat.reduceSub, Nat.reduceLeDiff, Nat.reduceMul, ty_fieldOff_40_0, ty_szOf_3, ty_shapeT_3, ty_fieldOff_40_1, ty_szOf_38, ty_shapeT_38, ty_fieldOff_40_2, ty_szOf_23, ty_shapeT_23, good_22, hr, b1, heq, h]

abbrev eqH (a b : List Val) (i : Nat) : St :=
  { sl := upd (upd (upd (upd (upd bot 17 (I i)) 16 (I a.length)) 15 (L (encL a))) 2 (FV 39)) 1 (L (encL b)), bx := upd nobox 100000 none, nt := 32 }

theorem eq_loop (a b : List Val) (hab : a.length = b.length) (ha : a.length ≤ 1000000) (hin : ∀ k t l' m, Val.mk k t l' ∈ a → (∃ k' t', Val.mk k' t' m ∈ b) → VSameDen l' m) : ∀ (ra rb : List Val) (i : Nat), a.drop i = ra → b.drop i = rb → i ≤ a.length →
    Ends (exL K 38 (.loop (loopAt Tryd.f38 4)) (eqH a b i)) fun o S => (Ne.same ra rb = true ∧ o = .exit 0 ∧ S.nt = 32) ∨ (Ne.same ra rb = false ∧ o = .ret ∧ S.sl 6 = B false)
  | [], rb, i, hda, hdb, hi => by
    have hin : i = a.length := by
      have := List.drop_eq_nil_iff.1 hda
      omega
    obtain rfl : rb = [] := by rw [← hdb, hin, hab, List.drop_length]
    subst hin
    conv in loopAt _ _ => whnf
    rw [exL_loop]
    simp only [go_sem, Nat.reduceLT, reduceIte, reduceCtorEq, Nat.reduceEqDiff, apply_ite (Option.map (outOf _)), Nat.reduceBEq, Nat.reduceAdd, Nat.reduceSub, Nat.reduceLeDiff, Nat.reduceMul, ev_len_sl ty_descOf_23, ev_indexAddr ty_descOf_23, ty_szOf_40, ty_shapeT_40, ty_zeroCells_40, keep_38_4, ends_some, Ne.same]
  | .mk k t l' :: ra, rb, i, hda, hdb, hi => by
    obtain ⟨g1, g2, g3⟩ := drop_cons hda
    cases rb with
    | nil =>
      have := List.drop_eq_nil_iff.1 hdb
      omega
    | cons y rb =>
      obtain ⟨k', t', m⟩ := y
      obtain ⟨k1, k2, k3⟩ := drop_cons hdb
      have hlt : decide ((i : Int) < (a.length : Int)) = true := decide_eq_true (by omega)
      have ga := val_at a i k t l' g1
      have gb := val_at b i k' t' m k1
      have hsd := same1_den k k' t t' l' m (hin k t l' m (List.mem_of_getElem? g1) ⟨k', t', List.mem_of_getElem? k1⟩)
      have ih := eq_loop a b hab ha hin ra rb (i + 1) g2 k2 (by omega)
      conv at ih in loopAt _ _ => whnf
      conv in loopAt _ _ => whnf
      rw [exL_loop]
      rw [Ne.same]
      cases hxy : Ne.sameV (.mk k t l') (.mk k' t' m)
      · rw [hxy] at hsd
        rw [Bool.false_and]
        simp only [go_sem, Nat.reduceLT, reduceIte, reduceCtorEq, Nat.reduceEqDiff, apply_ite (Option.map (outOf _)), Nat.reduceBEq, Nat.reduceAdd, Nat.reduceSub, Nat.reduceLeDiff, Nat.reduceMul, ev_len_sl ty_descOf_23, ev_indexAddr ty_descOf_23, ty_szOf_40, ty_shapeT_40, ty_zeroCells_40, keep_38_4, good_39, hlt, ga, gb, hsd, Int.natCast_nonneg, wrap_nat i (by omega), ends_some]
      · rw [hxy] at hsd
        rw [Bool.true_and]
        simp only [go_sem, Nat.reduceLT, reduceIte, reduceCtorEq, Nat.reduceEqDiff, apply_ite (Option.map (outOf _)), Nat.reduceBEq, Nat.reduceAdd, Nat.reduceSub, Nat.reduceLeDiff, Nat.reduceMul, ev_len_sl ty_descOf_23, ev_indexAddr ty_descOf_23, ty_szOf_40, ty_shapeT_40, ty_zeroCells_40, keep_38_4, good_39, hlt, ga, gb, hsd, Int.natCast_nonneg, wrap_nat i (by omega)]
        rw [exL_head]
        simp only [go_sem, Nat.reduceLT, reduceIte, reduceCtorEq, Nat.reduceEqDiff, apply_ite (Option.map (outOf _)), Nat.reduceBEq, Nat.reduceAdd, Nat.reduceSub, Nat.reduceLeDiff, Nat.reduceMul, ev_len_sl ty_descOf_23, ev_indexAddr ty_descOf_23, ty_szOf_40, ty_shapeT_40, ty_zeroCells_40, keep_38_4]
        exact ih

theorem same_len : ∀ {a b : List Val}, a.length ≠ b.length → Ne.same a b = false
  | [], [], h => absurd rfl h
  | [], _ :: _, _ => rfl
  | _ :: _, [], _ => rfl
  | x :: a, y :: b, h => by
    rw [Ne.same, same_len (a := a) (b := b) (by simpa using h), Bool.and_false]

theorem EqualFunc_den (a b : List Val) (ha : a.length ≤ 1000000) (hb : b.length ≤ 1000000) (hin : ∀ k t l' m, Val.mk k t l' ∈ a → (∃ k' t', Val.mk k' t' m ∈ b) → VSameDen l' m) :
    den K 38 [L (encL a), L (encL b), FV 39] [] = some (.ret (B (Ne.same a b)) []) := by
  refine den_run rfl Tryd.func38 rfl Tryd.ntmps38 ⟨by simp, by simp [LK]⟩ ?_
  have hr : Tryd.f38.results = #[.tmp 6] := rfl
  by_cases hab : a.length = b.length
  · have e0 : ((a.length : Int) != (b.length : Int)) = false := by simp [hab]
    have h := eq_loop a b hab ha hin a b 0 rfl rfl (by omega)
    conv at h in loopAt _ _ => whnf
    obtain ⟨o, S', w, hq⟩ := h
    simp only [go_sem, Nat.reduceLT, reduceIte, reduceCtorEq, Nat.reduceEqDiff, apply_ite (Option.map (outOf _)), Nat.reduceBEq, Nat.reduceAdd, Nat.reduceSub, Nat.reduceLeDiff, Nat.reduceMul, ev_len_sl ty_descOf_23, ev_indexAddr ty_descOf_23, ty_szOf_40, ty_shapeT_40, ty_zeroCells_40, keep_38_4, encL_len, e0]
    rw [exL_head]
    simp only [go_sem, Nat.reduceLT, reduceIte, reduceCtorEq, Nat.reduceEqDiff, apply_ite (Option.map (outOf _)), Nat.reduceBEq, Nat.reduceAdd, Nat.reduceSub, Nat.reduceLeDiff, Nat.reduceMul, ev_len_sl ty_descOf_23, ev_indexAddr ty_descOf_23, ty_szOf_40, ty_shapeT_40, ty_zeroCells_40, keep_38_4]
    erw [w]
    rcases hq with ⟨hv, rfl, hn⟩ | ⟨hv, rfl, h6⟩
    · simp only [go_sem, Nat.reduceLT, reduceIte, reduceCtorEq, Nat.reduceEqDiff, apply_ite (Option.map (outOf _)), Nat.reduceBEq, Nat.reduceAdd, Nat.reduceSub, Nat.reduceLeDiff, Nat.reduceMul, ev_len_sl ty_descOf_23, ev_indexAddr ty_descOf_23, ty_szOf_40, ty_shapeT_40, ty_zeroCells_40, keep_38_4, hr, hv, hn]
    · simp only [go_sem, Nat.reduceLT, reduceIte, reduceCtorEq, Nat.reduceEqDiff, apply_ite (Option.map (outOf _)), Nat.reduceBEq, Nat.reduceAdd, Nat.reduceSub, Nat.reduceLeDiff, Nat.reduceMul, ev_len_sl ty_descOf_23, ev_indexAddr ty_descOf_23, ty_szOf_40, ty_shapeT_40, ty_zeroCells_40, keep_38_4, hr, hv, h6]
  · have e0 : ((a.length : Int) != (b.length : Int)) = true := by rw [bne_iff_ne]; omega
    have hv := same_len hab
    simp only [go_sem, Nat.reduceLT, reduceIte, reduceCtorEq, Nat.reduceEqDiff, apply_ite (Option.map (outOf _)), Nat.reduceBEq, Nat.reduceAdd, Nat.reduceSub, Nat.reduceLeDiff, Nat.reduceMul, ev_len_sl ty_descOf_23, ev_indexAddr ty_descOf_23, ty_szOf_40, ty_shapeT_40, ty_zeroCells_40, keep_38_4, encL_len, e0, hr, hv]

theorem VSame_den (a : List Val) : Ne.size a ≤ 1000000 → ∀ b, Ne.size b ≤ 1000000 → VSameDen a b := by
  refine ind_list (Q := fun a => Ne.size a ≤ 1000000 → ∀ b, Ne.size b ≤ 1000000 → VSameDen a b) (fun a hin ha b hb => ?_) a
  have h := EqualFunc_den a b (Nat.le_trans (Ne.length_size a) ha) (Nat.le_trans (Ne.length_size b) hb) (fun k t l' m hm ⟨k', t', hm'⟩ => hin k t l' hm (by have := size_mem hm; omega) m (by have := size_mem hm'; omega))
  unfold VSameDen
  refine den_run rfl Tryd.func22 rfl Tryd.ntmps22 ⟨by simp, by simp [LK]⟩ ?_
  have hr : Tryd.f22.results = #[.tmp 4] := rfl
  simp only [go_sem, Nat.reduceLT, reduceIte, reduceCtorEq, Nat.reduceEqDiff, apply_ite (Option.map (outOf _)), Nat.reduceBEq, Nat.reduceAdd, Nat.reduceSub, Nat.reduceLeDiff, Nat.reduceMul, good_38, hr, h]

/-! ### the document's -/

abbrev same2H (a b : List Val) (i : Nat) : St := { sl := upd (upd (upd bot 5 (I i)) 1 (L (encL b))) 0 (L (encL a)), bx := nobox, nt := 55 }

set_option maxHeartbeats 8000000 in
theorem same2_loop (a b : List Val) (hab : a.length = b.length) (ha : a.length ≤ 1000000) (hin : ∀ k t l' m, Val.mk k t l' ∈ a → (∃ k' t', Val.mk k' t' m ∈ b) → VSame2Den l' m) : ∀ (ra rb : List Val) (i : Nat), a.drop i = ra → b.drop i = rb → i ≤ a.length →
    Ends (exL K 13 (.loop (loopAt Tryd.f13 4)) (same2H a b i)) fun o S => (Ne.same ra rb = true ∧ o = .exit 0 ∧ S.nt = 55) ∨ (Ne.same ra rb = false ∧ o = .ret ∧ S.sl 4 = B false)
  | [], rb, i, hda, hdb, hi => by
    have hin : i = a.length := by
      have := List.drop_eq_nil_iff.1 hda
      omega
    obtain rfl : rb = [] := by rw [← hdb, hin, hab, List.drop_length]
    subst hin
    conv in loopAt _ _ => whnf
    rw [exL_loop]
    simp only [go_sem, Nat.reduceLT, reduceIte, reduceCtorEq, Nat.reduceEqDiff, apply_ite (Option.map (outOf _)), Nat.reduceBEq, Nat.reduceAdd, Nat.reduceSub, Nat.reduceLeDiff, Nat.reduceMul, ev_len_sl ty_descOf_23, ev_indexAddr ty_descOf_23, ty_szOf_40, ty_fieldOff_40_0, ty_szOf_3, ty_shapeT_3, ty_fieldOff_40_1, ty_szOf_38, ty_shapeT_38, ty_fieldOff_40_2, ty_szOf_23, ty_shapeT_23, good_13, keep_13_4, ends_some, Ne.same, encL_len]
  | .mk k t l' :: ra, rb, i, hda, hdb, hi => by
    obtain ⟨g1, g2, g3⟩ := drop_cons hda
    cases rb with
    | nil =>
      have := List.drop_eq_nil_iff.1 hdb
      omega
    | cons y rb =>
      obtain ⟨k', t', m⟩ := y
      obtain ⟨k1, k2, k3⟩ := drop_cons hdb
      have hlt : decide ((i : Int) < (a.length : Int)) = true := decide_eq_true (by omega)
      have ga := val_at a i k t l' g1
      have gb := val_at b i k' t' m k1
      have hsd := hin k t l' m (List.mem_of_getElem? g1) ⟨k', t', List.mem_of_getElem? k1⟩
      unfold VSame2Den at hsd
      have heq := tok_eq t.kind t'.kind t.n t'.n t.text t'.text
      rw [tok_beq] at heq
      have ih := same2_loop a b hab ha hin ra rb (i + 1) g2 k2 (by omega)
      conv at ih in loopAt _ _ => whnf
      conv in loopAt _ _ => whnf
      rw [exL_loop]
      rw [Ne.same, Ne.sameV]
      cases b1 : (k == k')
      · have e1 : (k != k') = true := by rw [bne, b1]; rfl
        simp only [go_sem, Nat.reduceLT, reduceIte, reduceCtorEq, Nat.reduceEqDiff, apply_ite (Option.map (outOf _)), Nat.reduceBEq, Nat.reduceAdd, Nat.reduceSub, Nat.reduceLeDiff, Nat.reduceMul, ev_len_sl ty_descOf_23, ev_indexAddr ty_descOf_23, ty_szOf_40, ty_fieldOff_40_0, ty_szOf_3, ty_shapeT_3, ty_fieldOff_40_1, ty_szOf_38, ty_shapeT_38, ty_fieldOff_40_2, ty_szOf_23, ty_shapeT_23, good_13, keep_13_4, encL_len, hlt, ga, gb, e1, Int.natCast_nonneg, ends_some]
      · have e1 : (k != k') = false := by rw [bne, b1]; rfl
        cases b2 : decide (t = t')
        · rw [b2] at heq
          simp only [go_sem, Nat.reduceLT, reduceIte, reduceCtorEq, Nat.reduceEqDiff, apply_ite (Option.map (outOf _)), Nat.reduceBEq, Nat.reduceAdd, Nat.reduceSub, Nat.reduceLeDiff, Nat.reduceMul, ev_len_sl ty_descOf_23, ev_indexAddr ty_descOf_23, ty_szOf_40, ty_fieldOff_40_0, ty_szOf_3, ty_shapeT_3, ty_fieldOff_40_1, ty_szOf_38, ty_shapeT_38, ty_fieldOff_40_2, ty_szOf_23, ty_shapeT_23, good_13, keep_13_4, encL_len, hlt, ga, gb, Int.natCast_nonneg, e1, heq, ends_some]
        · rw [b2] at heq
          cases b3 : Ne.same l' m
          · rw [b3] at hsd
            simp only [go_sem, Nat.reduceLT, reduceIte, reduceCtorEq, Nat.reduceEqDiff, apply_ite (Option.map (outOf _)), Nat.reduceBEq, Nat.reduceAdd, Nat.reduceSub, Nat.reduceLeDiff, Nat.reduceMul, ev_len_sl ty_descOf_23, ev_indexAddr ty_descOf_23, ty_szOf_40, ty_fieldOff_40_0, ty_szOf_3, ty_shapeT_3, ty_fieldOff_40_1, ty_szOf_38, ty_shapeT_38, ty_fieldOff_40_2, ty_szOf_23, ty_shapeT_23, good_13, keep_13_4, encL_len, hlt, ga, gb, Int.natCast_nonneg, e1, heq, hsd, ends_some]
          · rw [b3] at hsd
            simp only [go_sem, Nat.reduceLT, reduceIte, reduceCtorEq, Nat.reduceEqDiff, apply_ite (Option.map (outOf _)), Nat.reduceBEq, Nat.reduceAdd, Nat.reduceSub, Nat.reduceLeDiff, Nat.reduceMul, ev_len_sl ty_descOf_23, ev_indexAddr ty_descOf_23, ty_szOf_40, ty_fieldOff_40_0, ty_szOf_3, ty_shapeT_3, ty_fieldOff_40_1, ty_szOf_38, ty_shapeT_38, ty_fieldOff_40_2, ty_szOf_23, ty_shapeT_23, good_13, keep_13_4, encL_len, hlt, ga, gb, Int.natCast_nonneg, e1, heq, hsd, wrap_nat i (by omega)]
            rw [exL_head]
            simp only [go_sem, Nat.reduceLT, reduceIte, reduceCtorEq, Nat.reduceEqDiff, apply_ite (Option.map (outOf _)), Nat.reduceBEq, Nat.reduceAdd, Nat.reduceSub, Nat.reduceLeDiff, Nat.reduceMul, ev_len_sl ty_descOf_23, ev_indexAddr ty_descOf_23, ty_szOf_40, ty_fieldOff_40_0, ty_szOf_3, ty_shapeT_3, ty_fieldOff_40_1, ty_szOf_38, ty_shapeT_38, ty_fieldOff_40_2, ty_szOf_23, ty_shapeT_23, good_13, keep_13_4]
            exact ih

theorem VSame2_den (a : List Val) : Ne.size a ≤ 1000000 → ∀ b, Ne.size b ≤ 1000000 → VSame2Den a b := by
  refine ind_list (Q := fun a => Ne.size a ≤ 1000000 → ∀ b, Ne.size b ≤ 1000000 → VSame2Den a b) (fun a hin ha b hb => ?_) a
  have h : ∀ hab : a.length = b.length, _ := fun hab => same2_loop a b hab (Nat.le_trans (Ne.length_size a) ha) (fun k t l' m hm ⟨k', t', hm'⟩ => hin k t l' hm (by have := size_mem hm; omega) m (by have := size_mem hm'; omega)) a b 0 rfl rfl (by omega)
  unfold VSame2Den
  refine den_run rfl Tryd.func13 rfl Tryd.ntmps13 ⟨by simp, by simp [LK]⟩ ?_
  have hr : Tryd.f13.results = #[.tmp 4] := rfl
  by_cases hab : a.length = b.length
  · have e0 : ((a.length : Int) != (b.length : Int)) = false := by simp [hab]
    have h := h hab
    conv at h in loopAt _ _ => whnf
    obtain ⟨o, S', w, hq⟩ := h
    simp only [go_sem, Nat.reduceLT, reduceIte, reduceCtorEq, Nat.reduceEqDiff, apply_ite (Option.map (outOf _)), Nat.reduceBEq, Nat.reduceAdd, Nat.reduceSub, Nat.reduceLeDiff, Nat.reduceMul, ev_len_sl ty_descOf_23, ev_indexAddr ty_descOf_23, ty_szOf_40, ty_fieldOff_40_0, ty_szOf_3, ty_shapeT_3, ty_fieldOff_40_1, ty_szOf_38, ty_shapeT_38, ty_fieldOff_40_2, ty_szOf_23, ty_shapeT_23, good_13, keep_13_4, encL_len, e0]
    rw [exL_head]
    simp only [go_sem, Nat.reduceLT, reduceIte, reduceCtorEq, Nat.reduceEqDiff, apply_ite (Option.map (outOf _)), Nat.reduceBEq, Nat.reduceAdd, Nat.reduceSub, Nat.reduceLeDiff, Nat.reduceMul, ev_len_sl ty_descOf_23, ev_indexAddr ty_descOf_23, ty_szOf_40, ty_fieldOff_40_0, ty_szOf_3, ty_shapeT_3, ty_fieldOff_40_1, ty_szOf_38, ty_shapeT_38, ty_fieldOff_40_2, ty_szOf_23, ty_shapeT_23, good_13, keep_13_4]
    erw [w]
    rcases hq with ⟨hv, rfl, hn⟩ | ⟨hv, rfl, h6⟩
    · simp only [go_sem, Nat.reduceLT, reduceIte, reduceCtorEq, Nat.reduceEqDiff, apply_ite (Option.map (outOf _)), Nat.reduceBEq, Nat.reduceAdd, Nat.reduceSub, Nat.reduceLeDiff, Nat.reduceMul, ev_len_sl ty_descOf_23, ev_indexAddr ty_descOf_23, ty_szOf_40, ty_fieldOff_40_0, ty_szOf_3, ty_shapeT_3, ty_fieldOff_40_1, ty_szOf_38, ty_shapeT_38, ty_fieldOff_40_2, ty_szOf_23, ty_shapeT_23, good_13, keep_13_4, hr, hv, hn]
    · simp only [go_sem, Nat.reduceLT, reduceIte, reduceCtorEq, Nat.reduceEqDiff, apply_ite (Option.map (outOf _)), Nat.reduceBEq, Nat.reduceAdd, Nat.reduceSub, Nat.reduceLeDiff, Nat.reduceMul, ev_len_sl ty_descOf_23, ev_indexAddr ty_descOf_23, ty_szOf_40, ty_fieldOff_40_0, ty_szOf_3, ty_shapeT_3, ty_fieldOff_40_1, ty_szOf_38, ty_shapeT_38, ty_fieldOff_40_2, ty_szOf_23, ty_shapeT_23, good_13, keep_13_4, hr, hv, h6]
  · have e0 : ((a.length : Int) != (b.length : Int)) = true := by rw [bne_iff_ne]; omega
    have hv := same_len hab
    simp only [go_sem, Nat.reduceLT, reduceIte, reduceCtorEq, Nat.reduceEqDiff, apply_ite (Option.map (outOf _)), Nat.reduceBEq, Nat.reduceAdd, Nat.reduceSub, Nat.reduceLeDiff, Nat.reduceMul, ev_len_sl ty_descOf_23, ev_indexAddr ty_descOf_23, ty_szOf_40, ty_fieldOff_40_0, ty_szOf_3, ty_shapeT_3, ty_fieldOff_40_1, ty_szOf_38, ty_shapeT_38, ty_fieldOff_40_2, ty_szOf_23, ty_shapeT_23, good_13, keep_13_4, encL_len, e0, hr, hv]
end Go.Abs

namespace Go.Abs
open Go Go.Proofs
set_option maxRecDepth 10000
attribute [local go_sem] exL_seq exL_region exL_cond exL_block exL_scope exL_ret exL_skip exL_exit runRegion runOps stepOp guardA absOp takeOver opd avOf cvOf St.degAt St.put okPV okVal okAV absBin intBin strBin boolBin setBoxes if_true Bool.false_eq_true if_false Option.map_some Option.map_none Option.bind_some Option.bind_none thenO outOf upd List.toList_toArray isOwn steal appArgs inApps AV.deg CV.deg AV.gv AV.isIter absNext some_bne List.length_nil List.length_cons List.filterMap_cons List.filterMap_nil beq_iff_eq List.getElem?_cons_zero List.getElem?_cons_succ Option.getD_some K_hook hookB Bool.false_and Bool.and_false Bool.and_self K_P K_own absCall doCall getBoxes lend back idx dedup AV.ren CV.ren TV.ren AV.ptrs CV.ptrs zipBox AV.flat CV.flat absLoad absStore cellsOfAV setAt newBox markB bldTypes absFieldAddr absField absExtract absAssert noAssert absMkIface ifcOf CV.pv? content pushHead ownT fillCells reps pvs chunks enterSt leave resOf resVars resVar outBoxes lentOnly TV.deg TV.av LK CV.plain CV.noBld nilBin absUn bound List.map_cons List.map_nil List.all_cons List.all_nil List.any_cons List.any_nil List.contains_cons List.contains_nil List.elem_cons List.elem_nil List.cons_append List.nil_append List.append_nil List.flatMap_cons List.flatMap_nil List.zip_cons_cons List.zip_nil_left List.zip_nil_right List.take_succ_cons List.take_zero List.take_nil List.drop_succ_cons List.drop_zero List.drop_nil List.isEmpty_nil List.isEmpty_cons Bool.and_true Bool.true_and Bool.or_true Bool.true_or Bool.or_false Bool.false_or Bool.not_true Bool.not_false Nat.add_zero Nat.zero_add Option.isNone_none Option.isNone_some Option.getD_none true_and and_true not_true_eq_false not_false_eq_true decide_true decide_false Nat.le_refl and_self Bool.not_eq_true Nat.sub_self or_true true_or Option.some.injEq List.length_map List.nil_eq and_false false_and AV.live CV.live CV.liveIn K_keep firstReg Option.orElse_some Option.orElse_none head keepSlots keepBoxes Int.lt_irrefl List.length_append ite_self memOK logOps opKey lentBoxes Key.clash Key.sees Key.writes Nat.lt_irrefl gt_iff_lt nobox_at bot_at false_or or_false beq_self_eq_true Bool.true_beq Bool.false_beq

/-! ### depth -/

theorem max_two (a b : Int) : absMax [I a, I b] = some (.int .i64 (max a b)) := by
  simp only [absMax, allInts, if_true, Option.map_some, List.foldl_cons, List.foldl_nil]
  rw [Int.max_def]
  congr 2
  split <;> split <;> omega

def DepthDen (l : List Val) : Prop := Ne.size l ≤ 1000000 → den K 17 [L (encL l)] [] = some (.ret (I (Ne.depth l)) [])
def Depth2Den (l : List Val) : Prop := Ne.size l ≤ 1000000 → den K 18 [L (encL l)] [] = some (.ret (I (Ne.depth l)) [])

abbrev depthH (l : List Val) (i : Nat) (n : Nat) : St := { sl := upd (upd (upd (upd bot 8 (I i)) 7 (I l.length)) 6 (L (encL l))) 3 (I n), bx := nobox, nt := 28 }
abbrev depth2H (l : List Val) (i : Nat) (n : Nat) : St := { sl := upd (upd (upd bot 4 (I i)) 3 (I n)) 0 (L (encL l)), bx := nobox, nt := 35 }

theorem max_nat (a b : Nat) : max (a : Int) (b : Int) = ((max a b : Nat) : Int) := by omega

theorem depth_loop (l : List Val) (hl : l.length ≤ 1000000) (hin : ∀ k t l', Val.mk k t l' ∈ l → den K 17 [L (encL l')] [] = some (.ret (I (Ne.depth l')) []) ∧ Ne.depth l' ≤ 1000000) : ∀ (rest : List Val) (i n : Nat), l.drop i = rest → i ≤ l.length →
    Ends (exL K 17 (.loop (loopAt Tryd.f17 3)) (depthH l i n)) fun o S => o = .exit 0 ∧ S.nt = 28 ∧ S.sl 3 = I (max n (Ne.depth rest) : Nat)
  | [], i, n, hd, hi => by
    have hin : i = l.length := by
      have := List.drop_eq_nil_iff.1 hd
      omega
    subst hin
    have hv : max n (Ne.depth []) = n := by rw [Ne.depth]; omega
    rw [hv]
    conv in loopAt _ _ => whnf
    rw [exL_loop]
    simp only [go_sem, Nat.reduceLT, reduceIte, reduceCtorEq, Nat.reduceEqDiff, apply_ite (Option.map (outOf _)), Nat.reduceBEq, Nat.reduceAdd, Nat.reduceSub, Nat.reduceLeDiff, Nat.reduceMul, ev_len_sl ty_descOf_23, ev_indexAddr ty_descOf_23, ty_szOf_40, ty_shapeT_40, ty_zeroCells_40, ty_fieldOff_40_0, ty_szOf_3, ty_shapeT_3, ty_fieldOff_40_2, ty_szOf_23, ty_shapeT_23, good_17, keep_17_3, ends_some]
  | .mk k t l' :: rest, i, n, hd, hi => by
    obtain ⟨g1, g2, g3⟩ := drop_cons hd
    have hmem : Val.mk k t l' ∈ l := List.mem_of_getElem? g1
    obtain ⟨hf, hb⟩ := hin k t l' hmem
    have hlt : decide ((i : Int) < (l.length : Int)) = true := decide_eq_true (by omega)
    have hget := val_at l i k t l' g1
    have hw : IntKind.i64.wrap ((i : Int) + 1) = ((i + 1 : Nat) : Int) := wrap_nat i (by omega)
    have hw2 : IntKind.i64.wrap (1 + (Ne.depth l' : Int)) = ((Ne.depth l' + 1 : Nat) : Int) := by rw [IntWalk.i64_in _ (by omega)]; omega
    conv in loopAt _ _ => whnf
    rw [exL_loop]
    by_cases hk : 2 ≤ k ∧ k ≤ 5
    · have e1 : decide (2 ≤ k) = true := decide_eq_true hk.1
      have e2 : decide (k ≤ 5) = true := decide_eq_true hk.2
      have hv : max n (Ne.depth (.mk k t l' :: rest)) = max (max n (Ne.depth l' + 1)) (Ne.depth rest) := by rw [Ne.depth, Ne.depthV, if_pos hk]; omega
      rw [hv]
      have ih := depth_loop l hl hin rest (i + 1) (max n (Ne.depth l' + 1)) g2 (by omega)
      conv at ih in loopAt _ _ => whnf
      simp only [go_sem, Nat.reduceLT, reduceIte, reduceCtorEq, Nat.reduceEqDiff, apply_ite (Option.map (outOf _)), Nat.reduceBEq, Nat.reduceAdd, Nat.reduceSub, Nat.reduceLeDiff, Nat.reduceMul, ev_len_sl ty_descOf_23, ev_indexAddr ty_descOf_23, ty_szOf_40, ty_shapeT_40, ty_zeroCells_40, ty_fieldOff_40_0, ty_szOf_3, ty_shapeT_3, ty_fieldOff_40_2, ty_szOf_23, ty_shapeT_23, good_17, keep_17_3, hlt, hget, Int.natCast_nonneg, e1, e2, hf, hw, hw2, max_two, max_nat]
      rw [exL_head]
      simp only [go_sem, Nat.reduceLT, reduceIte, reduceCtorEq, Nat.reduceEqDiff, apply_ite (Option.map (outOf _)), Nat.reduceBEq, Nat.reduceAdd, Nat.reduceSub, Nat.reduceLeDiff, Nat.reduceMul, ev_len_sl ty_descOf_23, ev_indexAddr ty_descOf_23, ty_szOf_40, ty_shapeT_40, ty_zeroCells_40, ty_fieldOff_40_0, ty_szOf_3, ty_shapeT_3, ty_fieldOff_40_2, ty_szOf_23, ty_shapeT_23, good_17, keep_17_3]
      exact ih
    · have hv : max n (Ne.depth (.mk k t l' :: rest)) = max n (Ne.depth rest) := by rw [Ne.depth, Ne.depthV, if_neg hk]; omega
      rw [hv]
      have ih := depth_loop l hl hin rest (i + 1) n g2 (by omega)
      conv at ih in loopAt _ _ => whnf
      cases e1 : decide (2 ≤ k)
      · simp only [go_sem, Nat.reduceLT, reduceIte, reduceCtorEq, Nat.reduceEqDiff, apply_ite (Option.map (outOf _)), Nat.reduceBEq, Nat.reduceAdd, Nat.reduceSub, Nat.reduceLeDiff, Nat.reduceMul, ev_len_sl ty_descOf_23, ev_indexAddr ty_descOf_23, ty_szOf_40, ty_shapeT_40, ty_zeroCells_40, ty_fieldOff_40_0, ty_szOf_3, ty_shapeT_3, ty_fieldOff_40_2, ty_szOf_23, ty_shapeT_23, good_17, keep_17_3, hlt, hget, Int.natCast_nonneg, e1, hw]
        rw [exL_head]
        simp only [go_sem, Nat.reduceLT, reduceIte, reduceCtorEq, Nat.reduceEqDiff, apply_ite (Option.map (outOf _)), Nat.reduceBEq, Nat.reduceAdd, Nat.reduceSub, Nat.reduceLeDiff, Nat.reduceMul, ev_len_sl ty_descOf_23, ev_indexAddr ty_descOf_23, ty_szOf_40, ty_shapeT_40, ty_zeroCells_40, ty_fieldOff_40_0, ty_szOf_3, ty_shapeT_3, ty_fieldOff_40_2, ty_szOf_23, ty_shapeT_23, good_17, keep_17_3]
        exact ih
      · have e2 : decide (k ≤ 5) = false := decide_eq_false (fun h => hk ⟨of_decide_eq_true e1, h⟩)
        simp only [go_sem, Nat.reduceLT, reduceIte, reduceCtorEq, Nat.reduceEqDiff, apply_ite (Option.map (outOf _)), Nat.reduceBEq, Nat.reduceAdd, Nat.reduceSub, Nat.reduceLeDiff, Nat.reduceMul, ev_len_sl ty_descOf_23, ev_indexAddr ty_descOf_23, ty_szOf_40, ty_shapeT_40, ty_zeroCells_40, ty_fieldOff_40_0, ty_szOf_3, ty_shapeT_3, ty_fieldOff_40_2, ty_szOf_23, ty_shapeT_23, good_17, keep_17_3, hlt, hget, Int.natCast_nonneg, e1, e2, hw]
        rw [exL_head]
        simp only [go_sem, Nat.reduceLT, reduceIte, reduceCtorEq, Nat.reduceEqDiff, apply_ite (Option.map (outOf _)), Nat.reduceBEq, Nat.reduceAdd, Nat.reduceSub, Nat.reduceLeDiff, Nat.reduceMul, ev_len_sl ty_descOf_23, ev_indexAddr ty_descOf_23, ty_szOf_40, ty_shapeT_40, ty_zeroCells_40, ty_fieldOff_40_0, ty_szOf_3, ty_shapeT_3, ty_fieldOff_40_2, ty_szOf_23, ty_shapeT_23, good_17, keep_17_3]
        exact ih

theorem Depth_den (l : List Val) : DepthDen l := by
  refine ind_list (fun l hin hs => ?_) l
  have hl : l.length ≤ 1000000 := Nat.le_trans (Ne.length_size l) hs
  have hloop := depth_loop l hl (fun k t l' hm => by
    have := size_mem hm
    exact ⟨hin k t l' hm (by omega), Nat.le_trans (Ne.depth_size l') (by omega)⟩) l 0 0 rfl (by omega)
  conv at hloop in loopAt _ _ => whnf
  obtain ⟨o, S', w, rfl, hn, h3⟩ := hloop
  have hv : max 0 (Ne.depth l) = Ne.depth l := by omega
  rw [hv] at h3
  refine den_run rfl Tryd.func17 rfl Tryd.ntmps17 ⟨by simp, by simp [LK]⟩ ?_
  have hr : Tryd.f17.results = #[.tmp 2] := rfl
  simp only [go_sem, Nat.reduceLT, reduceIte, reduceCtorEq, Nat.reduceEqDiff, apply_ite (Option.map (outOf _)), Nat.reduceBEq, Nat.reduceAdd, Nat.reduceSub, Nat.reduceLeDiff, Nat.reduceMul, ev_len_sl ty_descOf_23, ev_indexAddr ty_descOf_23, ty_szOf_40, ty_shapeT_40, ty_zeroCells_40, ty_fieldOff_40_0, ty_szOf_3, ty_shapeT_3, ty_fieldOff_40_2, ty_szOf_23, ty_shapeT_23, good_17, keep_17_3, encL_len]
  rw [exL_head]
  simp only [go_sem, Nat.reduceLT, reduceIte, reduceCtorEq, Nat.reduceEqDiff, apply_ite (Option.map (outOf _)), Nat.reduceBEq, Nat.reduceAdd, Nat.reduceSub, Nat.reduceLeDiff, Nat.reduceMul, ev_len_sl ty_descOf_23, ev_indexAddr ty_descOf_23, ty_szOf_40, ty_shapeT_40, ty_zeroCells_40, ty_fieldOff_40_0, ty_szOf_3, ty_shapeT_3, ty_fieldOff_40_2, ty_szOf_23, ty_shapeT_23, good_17, keep_17_3]
  erw [w]
  simp only [go_sem, Nat.reduceLT, reduceIte, reduceCtorEq, Nat.reduceEqDiff, apply_ite (Option.map (outOf _)), Nat.reduceBEq, Nat.reduceAdd, Nat.reduceSub, Nat.reduceLeDiff, Nat.reduceMul, ev_len_sl ty_descOf_23, ev_indexAddr ty_descOf_23, ty_szOf_40, ty_shapeT_40, ty_zeroCells_40, ty_fieldOff_40_0, ty_szOf_3, ty_shapeT_3, ty_fieldOff_40_2, ty_szOf_23, ty_shapeT_23, good_17, keep_17_3, hr, hn, h3]

theorem depth2_loop (l : List Val) (hl : l.length ≤ 1000000) (hin : ∀ k t l', Val.mk k t l' ∈ l → den K 18 [L (encL l')] [] = some (.ret (I (Ne.depth l')) []) ∧ Ne.depth l' ≤ 1000000) : ∀ (rest : List Val) (i n : Nat), l.drop i = rest → i ≤ l.length →
    Ends (exL K 18 (.loop (loopAt Tryd.f18 3)) (depth2H l i n)) fun o S => o = .exit 0 ∧ S.nt = 35 ∧ S.sl 3 = I (max n (Ne.depth rest) : Nat)
  | [], i, n, hd, hi => by
    have hin : i = l.length := by
      have := List.drop_eq_nil_iff.1 hd
      omega
    subst hin
    have hv : max n (Ne.depth []) = n := by rw [Ne.depth]; omega
    rw [hv]
    conv in loopAt _ _ => whnf
    rw [exL_loop]
    simp only [go_sem, Nat.reduceLT, reduceIte, reduceCtorEq, Nat.reduceEqDiff, apply_ite (Option.map (outOf _)), Nat.reduceBEq, Nat.reduceAdd, Nat.reduceSub, Nat.reduceLeDiff, Nat.reduceMul, ev_len_sl ty_descOf_23, ev_indexAddr ty_descOf_23, ty_szOf_40, ty_fieldOff_40_0, ty_szOf_3, ty_shapeT_3, ty_fieldOff_40_2, ty_szOf_23, ty_shapeT_23, good_18, keep_18_3, ends_some, encL_len]
  | .mk k t l' :: rest, i, n, hd, hi => by
    obtain ⟨g1, g2, g3⟩ := drop_cons hd
    have hmem : Val.mk k t l' ∈ l := List.mem_of_getElem? g1
    obtain ⟨hf, hb⟩ := hin k t l' hmem
    have hlt : decide ((i : Int) < (l.length : Int)) = true := decide_eq_true (by omega)
    have hget := val_at l i k t l' g1
    have hw : IntKind.i64.wrap ((i : Int) + 1) = ((i + 1 : Nat) : Int) := wrap_nat i (by omega)
    have hw2 : IntKind.i64.wrap ((Ne.depth l' : Int) + 1) = ((Ne.depth l' + 1 : Nat) : Int) := wrap_nat _ (by omega)
    conv in loopAt _ _ => whnf
    rw [exL_loop]
    by_cases hk : 2 ≤ k ∧ k ≤ 5
    · have e1 : decide (1 < k) = true := decide_eq_true (by omega)
      have e2 : decide (k ≤ 5) = true := decide_eq_true hk.2
      have hv : max n (Ne.depth (.mk k t l' :: rest)) = max (max n (Ne.depth l' + 1)) (Ne.depth rest) := by rw [Ne.depth, Ne.depthV, if_pos hk]; omega
      rw [hv]
      have ih := depth2_loop l hl hin rest (i + 1) (max n (Ne.depth l' + 1)) g2 (by omega)
      conv at ih in loopAt _ _ => whnf
      simp only [go_sem, Nat.reduceLT, reduceIte, reduceCtorEq, Nat.reduceEqDiff, apply_ite (Option.map (outOf _)), Nat.reduceBEq, Nat.reduceAdd, Nat.reduceSub, Nat.reduceLeDiff, Nat.reduceMul, ev_len_sl ty_descOf_23, ev_indexAddr ty_descOf_23, ty_szOf_40, ty_fieldOff_40_0, ty_szOf_3, ty_shapeT_3, ty_fieldOff_40_2, ty_szOf_23, ty_shapeT_23, good_18, keep_18_3, encL_len, hlt, hget, Int.natCast_nonneg, e1, e2, hf, hw, hw2, max_two, max_nat]
      rw [exL_head]
      simp only [go_sem, Nat.reduceLT, reduceIte, reduceCtorEq, Nat.reduceEqDiff, apply_ite (Option.map (outOf _)), Nat.reduceBEq, Nat.reduceAdd, Nat.reduceSub, Nat.reduceLeDiff, Nat.reduceMul, ev_len_sl ty_descOf_23, ev_indexAddr ty_descOf_23, ty_szOf_40, ty_fieldOff_40_0, ty_szOf_3, ty_shapeT_3, ty_fieldOff_40_2, ty_szOf_23, ty_shapeT_23, good_18, keep_18_3]
      exact ih
    · have hv : max n (Ne.depth (.mk k t l' :: rest)) = max n (Ne.depth rest) := by rw [Ne.depth, Ne.depthV, if_neg hk]; omega
      rw [hv]
      have ih := depth2_loop l hl hin rest (i + 1) n g2 (by omega)
      conv at ih in loopAt _ _ => whnf
      cases e1 : decide (1 < k)
      · simp only [go_sem, Nat.reduceLT, reduceIte, reduceCtorEq, Nat.reduceEqDiff, apply_ite (Option.map (outOf _)), Nat.reduceBEq, Nat.reduceAdd, Nat.reduceSub, Nat.reduceLeDiff, Nat.reduceMul, ev_len_sl ty_descOf_23, ev_indexAddr ty_descOf_23, ty_szOf_40, ty_fieldOff_40_0, ty_szOf_3, ty_shapeT_3, ty_fieldOff_40_2, ty_szOf_23, ty_shapeT_23, good_18, keep_18_3, encL_len, hlt, hget, Int.natCast_nonneg, e1, hw]
        rw [exL_head]
        simp only [go_sem, Nat.reduceLT, reduceIte, reduceCtorEq, Nat.reduceEqDiff, apply_ite (Option.map (outOf _)), Nat.reduceBEq, Nat.reduceAdd, Nat.reduceSub, Nat.reduceLeDiff, Nat.reduceMul, ev_len_sl ty_descOf_23, ev_indexAddr ty_descOf_23, ty_szOf_40, ty_fieldOff_40_0, ty_szOf_3, ty_shapeT_3, ty_fieldOff_40_2, ty_szOf_23, ty_shapeT_23, good_18, keep_18_3]
        exact ih
      · have e2 : decide (k ≤ 5) = false := decide_eq_false (fun h => hk ⟨by have := of_decide_eq_true e1; omega, h⟩)
        simp only [go_sem, Nat.reduceLT, reduceIte, reduceCtorEq, Nat.reduceEqDiff, apply_ite (Option.map (outOf _)), Nat.reduceBEq, Nat.reduceAdd, Nat.reduceSub, Nat.reduceLeDiff, Nat.reduceMul, ev_len_sl ty_descOf_23, ev_indexAddr ty_descOf_23, ty_szOf_40, ty_fieldOff_40_0, ty_szOf_3, ty_shapeT_3, ty_fieldOff_40_2, ty_szOf_23, ty_shapeT_23, good_18, keep_18_3, encL_len, hlt, hget, Int.natCast_nonneg, e1, e2, hw]
        rw [exL_head]
        simp only [go_sem, Nat.reduceLT, reduceIte, reduceCtorEq, Nat.reduceEqDiff, apply_ite (Option.map (outOf _)), Nat.reduceBEq, Nat.reduceAdd, Nat.reduceSub, Nat.reduceLeDiff, Nat.reduceMul, ev_len_sl ty_descOf_23, ev_indexAddr ty_descOf_23, ty_szOf_40, ty_fieldOff_40_0, ty_szOf_3, ty_shapeT_3, ty_fieldOff_40_2, ty_szOf_23, ty_shapeT_23, good_18, keep_18_3]
        exact ih

theorem Depth2_den (l : List Val) : Depth2Den l := by
  refine ind_list (fun l hin hs => ?_) l
  have hl : l.length ≤ 1000000 := Nat.le_trans (Ne.length_size l) hs
  have hloop := depth2_loop l hl (fun k t l' hm => by
    have := size_mem hm
    exact ⟨hin k t l' hm (by omega), Nat.le_trans (Ne.depth_size l') (by omega)⟩) l 0 0 rfl (by omega)
  conv at hloop in loopAt _ _ => whnf
  obtain ⟨o, S', w, rfl, hn, h3⟩ := hloop
  have hv : max 0 (Ne.depth l) = Ne.depth l := by omega
  rw [hv] at h3
  refine den_run rfl Tryd.func18 rfl Tryd.ntmps18 ⟨by simp, by simp [LK]⟩ ?_
  have hr : Tryd.f18.results = #[.tmp 2] := rfl
  simp only [go_sem, Nat.reduceLT, reduceIte, reduceCtorEq, Nat.reduceEqDiff, apply_ite (Option.map (outOf _)), Nat.reduceBEq, Nat.reduceAdd, Nat.reduceSub, Nat.reduceLeDiff, Nat.reduceMul, ev_len_sl ty_descOf_23, ev_indexAddr ty_descOf_23, ty_szOf_40, ty_fieldOff_40_0, ty_szOf_3, ty_shapeT_3, ty_fieldOff_40_2, ty_szOf_23, ty_shapeT_23, good_18, keep_18_3]
  rw [exL_head]
  simp only [go_sem, Nat.reduceLT, reduceIte, reduceCtorEq, Nat.reduceEqDiff, apply_ite (Option.map (outOf _)), Nat.reduceBEq, Nat.reduceAdd, Nat.reduceSub, Nat.reduceLeDiff, Nat.reduceMul, ev_len_sl ty_descOf_23, ev_indexAddr ty_descOf_23, ty_szOf_40, ty_fieldOff_40_0, ty_szOf_3, ty_shapeT_3, ty_fieldOff_40_2, ty_szOf_23, ty_shapeT_23, good_18, keep_18_3]
  erw [w]
  simp only [go_sem, Nat.reduceLT, reduceIte, reduceCtorEq, Nat.reduceEqDiff, apply_ite (Option.map (outOf _)), Nat.reduceBEq, Nat.reduceAdd, Nat.reduceSub, Nat.reduceLeDiff, Nat.reduceMul, ev_len_sl ty_descOf_23, ev_indexAddr ty_descOf_23, ty_szOf_40, ty_fieldOff_40_0, ty_szOf_3, ty_shapeT_3, ty_fieldOff_40_2, ty_szOf_23, ty_shapeT_23, good_18, keep_18_3, hr, hn, h3]
end Go.Abs
