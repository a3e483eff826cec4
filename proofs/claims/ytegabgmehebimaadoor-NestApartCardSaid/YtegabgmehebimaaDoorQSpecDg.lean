/-
  WHAT THE DOCUMENT'S ANSWER COMPUTES, layer 1: digits, a token's text.
-/
import Derived.Test.YtegabgmehebimaaDoorQI
set_option linter.unusedSimpArgs false
set_option linter.unusedVariables false
namespace Go.Abs
open Go Go.Proofs
set_option maxRecDepth 10000
attribute [local go_sem] exL_seq exL_region exL_cond exL_block exL_scope exL_ret exL_skip exL_exit runRegion runOps stepOp guardA absOp takeOver opd avOf cvOf St.degAt St.put okPV okVal okAV absBin intBin strBin boolBin setBoxes if_true Bool.false_eq_true if_false Option.map_some Option.map_none Option.bind_some Option.bind_none thenO outOf upd List.toList_toArray isOwn steal appArgs inApps AV.deg CV.deg AV.gv AV.isIter absNext some_bne List.length_nil List.length_cons List.filterMap_cons List.filterMap_nil beq_iff_eq List.getElem?_cons_zero List.getElem?_cons_succ Option.getD_some K_hook hookB Bool.false_and Bool.and_false Bool.and_self K_P K_own absCall doCall getBoxes lend back idx dedup AV.ren CV.ren TV.ren AV.ptrs CV.ptrs zipBox AV.flat CV.flat absLoad absStore cellsOfAV setAt newBox markB bldTypes absFieldAddr absField absExtract absAssert noAssert absMkIface ifcOf CV.pv? content pushHead ownT fillCells reps pvs chunks enterSt leave resOf resVars resVar outBoxes lentOnly TV.deg TV.av LK CV.plain CV.noBld nilBin absUn bound List.map_cons List.map_nil List.all_cons List.all_nil List.any_cons List.any_nil List.contains_cons List.contains_nil List.elem_cons List.elem_nil List.cons_append List.nil_append List.append_nil List.flatMap_cons List.flatMap_nil List.zip_cons_cons List.zip_nil_left List.zip_nil_right List.take_succ_cons List.take_zero List.take_nil List.drop_succ_cons List.drop_zero List.drop_nil List.isEmpty_nil List.isEmpty_cons Bool.and_true Bool.true_and Bool.or_true Bool.true_or Bool.or_false Bool.false_or Bool.not_true Bool.not_false Nat.add_zero Nat.zero_add Option.isNone_none Option.isNone_some Option.getD_none true_and and_true not_true_eq_false not_false_eq_true decide_true decide_false Nat.le_refl and_self Bool.not_eq_true Nat.sub_self or_true true_or Option.some.injEq List.length_map List.nil_eq and_false false_and AV.live CV.live CV.liveIn K_keep firstReg Option.orElse_some Option.orElse_none head keepSlots keepBoxes Int.lt_irrefl List.length_append ite_self memOK logOps opKey lentBoxes Key.clash Key.sees Key.writes Nat.lt_irrefl gt_iff_lt nobox_at bot_at false_or or_false beq_self_eq_true Bool.true_beq Bool.false_beq

theorem decDigits_small {u : Nat} (h : u < 10) : Lib.decDigits u = [UInt8.ofNat (48 + u)] := by rw [Lib.decDigits, dif_pos h]
theorem decDigits_big {u : Nat} (h : ¬ u < 10) : Lib.decDigits u = Lib.decDigits (u / 10) ++ [UInt8.ofNat (48 + u % 10)] := by rw [Lib.decDigits, dif_neg h]

theorem tdiv_nat (u : Nat) : (u : Int).tdiv 10 = ((u / 10 : Nat) : Int) := rfl
theorem tmod_nat (u : Nat) : (u : Int).tmod 10 = ((u % 10 : Nat) : Int) := rfl
theorem ten_ne : ((10 : Int) = 0) = False := by simp
theorem sl0 : (0 + 1 < strLim) = True := by simp [strLim]
theorem sl1 : (1 + 1 < strLim) = True := by simp [strLim]

theorem itoa_neg {n : Int} (h : n < 0) : Lib.itoa n = 45 :: Lib.decDigits n.natAbs := by unfold Lib.itoa; rw [if_pos h]
theorem itoa_pos {n : Int} (h : 0 ≤ n) : Lib.itoa n = Lib.decDigits n.toNat := by unfold Lib.itoa; rw [if_neg (by omega)]

set_option maxHeartbeats 4000000 in
theorem Digits_den : ∀ (k : Nat) (n : Int), n.natAbs ≤ k → I64 n → den K 55 [I n] [] = some (.ret (T (Lib.itoa n)) []) := by
  intro k
  induction k with
  | zero =>
    intro n hk hn
    have : n = 0 := by omega
    subst this
    refine den_run rfl Tryd.func55 rfl Tryd.ntmps55 ⟨by simp, by simp [LK]⟩ ?_
    have hr : Tryd.f55.results = #[.tmp 2] := rfl
    have e : Lib.itoa 0 = [48] := by rw [itoa_pos (by omega)]; exact decDigits_small (by omega)
    rw [e]
    have w1 : IntKind.i64.wrap 48 = 48 := by decide
    have w2 : IntKind.u8.wrap 48 = 48 := by decide
    simp [go_sem, Nat.reduceLT, reduceIte, reduceCtorEq, Nat.reduceEqDiff, apply_ite (Option.map (outOf _)), Nat.reduceBEq, Nat.reduceAdd, Nat.reduceSub, Nat.reduceLeDiff, Nat.reduceMul, good_55, ev_conv_int ty_descOf_3 ty_descOf_5, ev_buildSlice (len := 1) ty_descOf_80 ty_szOf_5 ty_zeroCells_5 ⟨rfl, by decide, by decide⟩, ev_conv_string ty_descOf_80 ty_descOf_9, hr, bytesOf, ten_ne, Int.toNat_natCast, sl0, sl1, w1, w2]
  | succ k ih =>
    intro n hk hn
    have hr : Tryd.f55.results = #[.tmp 2] := rfl
    have hlen := itoa_len hn
    by_cases hneg : n < 0
    · have hl : decide (n < 0) = true := decide_eq_true hneg
      have hq : n.tdiv 10 = -(((n.natAbs / 10 : Nat)) : Int) := by
        obtain ⟨u, rfl⟩ : ∃ u : Nat, n = -(u : Int) := ⟨n.natAbs, by omega⟩
        rw [Int.neg_tdiv, tdiv_nat]; simp only [Int.natAbs_neg, Int.natAbs_natCast]
      have hm : n.tmod 10 = -(((n.natAbs % 10 : Nat)) : Int) := by
        obtain ⟨u, rfl⟩ : ∃ u : Nat, n = -(u : Int) := ⟨n.natAbs, by omega⟩
        rw [Int.neg_tmod, tmod_nat]; simp only [Int.natAbs_neg, Int.natAbs_natCast]
      have w1 : IntKind.i64.wrap (n.tdiv 10) = n.tdiv 10 := IntWalk.i64_in _ (by have := hn.1; have := hn.2; omega)
      have w3 : IntKind.i64.wrap (48 - n.tmod 10) = ((48 + n.natAbs % 10 : Nat) : Int) := by rw [IntWalk.i64_in _ (by omega), hm]; omega
      have w4 : IntKind.u8.wrap ((48 + n.natAbs % 10 : Nat) : Int) = ((48 + n.natAbs % 10 : Nat) : Int) := IntWalk.u8_in _ (by omega)
      rw [itoa_neg hneg] at hlen ⊢
      by_cases hs : n.natAbs < 10
      · have hq0 : decide (n.tdiv 10 < 0) = false := decide_eq_false (by omega)
        rw [decDigits_small hs]
        have hmm : n.natAbs % 10 = n.natAbs := Nat.mod_eq_of_lt hs
        rw [hmm] at w3 w4
        refine den_run rfl Tryd.func55 rfl Tryd.ntmps55 ⟨by simp, by simp [LK]⟩ ?_
        simp only [go_sem, Nat.reduceLT, reduceIte, reduceCtorEq, Nat.reduceEqDiff, apply_ite (Option.map (outOf _)), Nat.reduceBEq, Nat.reduceAdd, Nat.reduceSub, Nat.reduceLeDiff, Nat.reduceMul, good_55, ev_conv_int ty_descOf_3 ty_descOf_5, ev_buildSlice (len := 1) ty_descOf_80 ty_szOf_5 ty_zeroCells_5 ⟨rfl, by decide, by decide⟩, ev_conv_string ty_descOf_80 ty_descOf_9, hr, bytesOf, ten_ne, Int.toNat_natCast, sl0, sl1, hl, hq0, w1, w3, w4]
      · have hq1 : decide (n.tdiv 10 < 0) = true := decide_eq_true (by omega)
        have w2 : IntKind.i64.wrap (0 - n.tdiv 10) = ((n.natAbs / 10 : Nat) : Int) := by rw [IntWalk.i64_in _ (by have := hn.1; have := hn.2; omega)]; omega
        have hc := ih ((n.natAbs / 10 : Nat) : Int) (by omega) ⟨by omega, by have := hn.1; have := hn.2; omega⟩
        rw [itoa_pos (by omega), Int.toNat_natCast] at hc
        rw [decDigits_big hs] at hlen ⊢
        have s1 : 1 + (Lib.decDigits (n.natAbs / 10)).length < strLim := by simp at hlen; simp [strLim]; omega
        have s2 : (Lib.decDigits (n.natAbs / 10)).length + 1 + 1 < strLim := by simp at hlen; simp [strLim]; omega
        refine den_run rfl Tryd.func55 rfl Tryd.ntmps55 ⟨by simp, by simp [LK]⟩ ?_
        simp only [go_sem, Nat.reduceLT, reduceIte, reduceCtorEq, Nat.reduceEqDiff, apply_ite (Option.map (outOf _)), Nat.reduceBEq, Nat.reduceAdd, Nat.reduceSub, Nat.reduceLeDiff, Nat.reduceMul, good_55, ev_conv_int ty_descOf_3 ty_descOf_5, ev_buildSlice (len := 1) ty_descOf_80 ty_szOf_5 ty_zeroCells_5 ⟨rfl, by decide, by decide⟩, ev_conv_string ty_descOf_80 ty_descOf_9, hr, bytesOf, ten_ne, Int.toNat_natCast, sl0, sl1, hl, hq1, w1, w2, w3, w4, hc, s1, s2]
    · have hl : decide (n < 0) = false := decide_eq_false hneg
      obtain ⟨u, rfl⟩ : ∃ u : Nat, n = u := ⟨n.toNat, by omega⟩
      have hm : (u : Int).tmod 10 = ((u % 10 : Nat) : Int) := rfl
      have w3 : IntKind.i64.wrap (48 + (u : Int).tmod 10) = ((48 + u % 10 : Nat) : Int) := by rw [hm, IntWalk.i64_in _ (by omega)]; omega
      have w4 : IntKind.u8.wrap ((48 + u % 10 : Nat) : Int) = ((48 + u % 10 : Nat) : Int) := IntWalk.u8_in _ (by omega)
      rw [itoa_pos (by omega), Int.toNat_natCast] at hlen ⊢
      by_cases hs : u < 10
      · have hg : decide ((10 : Int) ≤ (u : Int)) = false := decide_eq_false (by omega)
        rw [decDigits_small hs]
        have hmm : u % 10 = u := Nat.mod_eq_of_lt hs
        rw [hmm] at w3 w4
        refine den_run rfl Tryd.func55 rfl Tryd.ntmps55 ⟨by simp, by simp [LK]⟩ ?_
        simp only [go_sem, Nat.reduceLT, reduceIte, reduceCtorEq, Nat.reduceEqDiff, apply_ite (Option.map (outOf _)), Nat.reduceBEq, Nat.reduceAdd, Nat.reduceSub, Nat.reduceLeDiff, Nat.reduceMul, good_55, ev_conv_int ty_descOf_3 ty_descOf_5, ev_buildSlice (len := 1) ty_descOf_80 ty_szOf_5 ty_zeroCells_5 ⟨rfl, by decide, by decide⟩, ev_conv_string ty_descOf_80 ty_descOf_9, hr, bytesOf, ten_ne, Int.toNat_natCast, sl0, sl1, hl, hg, w3, w4]
      · have hg : decide ((10 : Int) ≤ (u : Int)) = true := decide_eq_true (by omega)
        have w1 : IntKind.i64.wrap ((u : Int).tdiv 10) = ((u / 10 : Nat) : Int) := by rw [tdiv_nat, IntWalk.i64_in _ (by have := hn.2; omega)]
        have hc := ih ((u / 10 : Nat) : Int) (by omega) ⟨by omega, by have := hn.2; omega⟩
        rw [itoa_pos (by omega), Int.toNat_natCast] at hc
        rw [decDigits_big hs] at hlen ⊢
        have s1 : (Lib.decDigits (u / 10)).length + 1 < strLim := by simp at hlen; simp [strLim]; omega
        refine den_run rfl Tryd.func55 rfl Tryd.ntmps55 ⟨by simp, by simp [LK]⟩ ?_
        simp only [go_sem, Nat.reduceLT, reduceIte, reduceCtorEq, Nat.reduceEqDiff, apply_ite (Option.map (outOf _)), Nat.reduceBEq, Nat.reduceAdd, Nat.reduceSub, Nat.reduceLeDiff, Nat.reduceMul, good_55, ev_conv_int ty_descOf_3 ty_descOf_5, ev_buildSlice (len := 1) ty_descOf_80 ty_szOf_5 ty_zeroCells_5 ⟨rfl, by decide, by decide⟩, ev_conv_string ty_descOf_80 ty_descOf_9, hr, bytesOf, ten_ne, Int.toNat_natCast, sl0, sl1, hl, hg, w1, w3, w4, hc, s1]
theorem Digits_is (n : Int) (h : I64 n) : den K 55 [I n] [] = some (.ret (T (Lib.itoa n)) []) := Digits_den n.natAbs n (Nat.le_refl _) h

set_option maxHeartbeats 4000000 in
theorem One1_den (t : Tok) (hn : I64 t.n) (hl : t.text.length < 1000000000000) : den K 42 [.agg t.cells] [] = some (.ret (T (oneS t)) []) := by
  obtain ⟨k, s, n⟩ := t
  refine den_run rfl Tryd.func42 rfl Tryd.ntmps42 ⟨by simp, by simp [LK]⟩ ?_
  have hr : Tryd.f42.results = #[.tmp 2] := rfl
  have hit := Digits_is n hn
  have hi := itoa_len hn
  simp only at hl hi
  have l1 : s.length + 1 < strLim := by simp [strLim]; omega
  have l1' : 1 + s.length < strLim := by simp [strLim]; omega
  have l2 : (Lib.itoa n).length + s.length < strLim := by simp [strLim]; omega
  have l3 : 1 + s.length + 1 < strLim := by simp [strLim]; omega
  have l4 : s.length + 5 < strLim := by simp [strLim]; omega
  have l7 : s.length + 1 + 1 < strLim := by simp [strLim]; omega
  have hk : k = 1 ∨ k = 2 ∨ k = 3 ∨ k = 4 ∨ k = 5 ∨ k = 6 ∨ k = 7 ∨ k = 8 ∨ (k ≠ 1 ∧ k ≠ 2 ∧ k ≠ 3 ∧ k ≠ 4 ∧ k ≠ 5 ∧ k ≠ 6 ∧ k ≠ 7 ∧ k ≠ 8) := by omega
  rcases hk with rfl | rfl | rfl | rfl | rfl | rfl | rfl | rfl | ⟨h1, h2, h3, h4, h5, h6, h7, h8⟩
  · simp [go_sem, Nat.reduceLT, reduceIte, reduceCtorEq, Nat.reduceEqDiff, apply_ite (Option.map (outOf _)), Nat.reduceBEq, Nat.reduceAdd, Nat.reduceSub, Nat.reduceLeDiff, Nat.reduceMul, ty_fieldOff_38_0, ty_szOf_3, ty_shapeT_3, ty_fieldOff_38_1, ty_szOf_9, ty_shapeT_9, ty_fieldOff_38_2, good_55, hr, Tok.cells, oneS]
  · simp [go_sem, Nat.reduceLT, reduceIte, reduceCtorEq, Nat.reduceEqDiff, apply_ite (Option.map (outOf _)), Nat.reduceBEq, Nat.reduceAdd, Nat.reduceSub, Nat.reduceLeDiff, Nat.reduceMul, ty_fieldOff_38_0, ty_szOf_3, ty_shapeT_3, ty_fieldOff_38_1, ty_szOf_9, ty_shapeT_9, ty_fieldOff_38_2, good_55, hr, Tok.cells, oneS, l1]
  · simp [go_sem, Nat.reduceLT, reduceIte, reduceCtorEq, Nat.reduceEqDiff, apply_ite (Option.map (outOf _)), Nat.reduceBEq, Nat.reduceAdd, Nat.reduceSub, Nat.reduceLeDiff, Nat.reduceMul, ty_fieldOff_38_0, ty_szOf_3, ty_shapeT_3, ty_fieldOff_38_1, ty_szOf_9, ty_shapeT_9, ty_fieldOff_38_2, good_55, hr, Tok.cells, oneS, l1']
  · simp [go_sem, Nat.reduceLT, reduceIte, reduceCtorEq, Nat.reduceEqDiff, apply_ite (Option.map (outOf _)), Nat.reduceBEq, Nat.reduceAdd, Nat.reduceSub, Nat.reduceLeDiff, Nat.reduceMul, ty_fieldOff_38_0, ty_szOf_3, ty_shapeT_3, ty_fieldOff_38_1, ty_szOf_9, ty_shapeT_9, ty_fieldOff_38_2, good_55, hr, Tok.cells, oneS, l1']
  · simp [go_sem, Nat.reduceLT, reduceIte, reduceCtorEq, Nat.reduceEqDiff, apply_ite (Option.map (outOf _)), Nat.reduceBEq, Nat.reduceAdd, Nat.reduceSub, Nat.reduceLeDiff, Nat.reduceMul, ty_fieldOff_38_0, ty_szOf_3, ty_shapeT_3, ty_fieldOff_38_1, ty_szOf_9, ty_shapeT_9, ty_fieldOff_38_2, good_55, hr, Tok.cells, oneS, hit, l2]
  · by_cases h : n = 39 <;> simp [go_sem, Nat.reduceLT, reduceIte, reduceCtorEq, Nat.reduceEqDiff, apply_ite (Option.map (outOf _)), Nat.reduceBEq, Nat.reduceAdd, Nat.reduceSub, Nat.reduceLeDiff, Nat.reduceMul, ty_fieldOff_38_0, ty_szOf_3, ty_shapeT_3, ty_fieldOff_38_1, ty_szOf_9, ty_shapeT_9, ty_fieldOff_38_2, good_55, hr, Tok.cells, oneS, h, l1, l1', l3, l7]
  · by_cases h : s = [34]
    · simp [go_sem, Nat.reduceLT, reduceIte, reduceCtorEq, Nat.reduceEqDiff, apply_ite (Option.map (outOf _)), Nat.reduceBEq, Nat.reduceAdd, Nat.reduceSub, Nat.reduceLeDiff, Nat.reduceMul, ty_fieldOff_38_0, ty_szOf_3, ty_shapeT_3, ty_fieldOff_38_1, ty_szOf_9, ty_shapeT_9, ty_fieldOff_38_2, good_55, hr, Tok.cells, oneS, h, l4, strLim]
    · have e : (s == [34]) = false := by simp [h]
      by_cases h' : s = [39]
      · simp [go_sem, Nat.reduceLT, reduceIte, reduceCtorEq, Nat.reduceEqDiff, apply_ite (Option.map (outOf _)), Nat.reduceBEq, Nat.reduceAdd, Nat.reduceSub, Nat.reduceLeDiff, Nat.reduceMul, ty_fieldOff_38_0, ty_szOf_3, ty_shapeT_3, ty_fieldOff_38_1, ty_szOf_9, ty_shapeT_9, ty_fieldOff_38_2, good_55, hr, Tok.cells, oneS, e, h, h', l4, strLim]
      · have e' : (s == [39]) = false := by simp [h']
        simp [go_sem, Nat.reduceLT, reduceIte, reduceCtorEq, Nat.reduceEqDiff, apply_ite (Option.map (outOf _)), Nat.reduceBEq, Nat.reduceAdd, Nat.reduceSub, Nat.reduceLeDiff, Nat.reduceMul, ty_fieldOff_38_0, ty_szOf_3, ty_shapeT_3, ty_fieldOff_38_1, ty_szOf_9, ty_shapeT_9, ty_fieldOff_38_2, good_55, hr, Tok.cells, oneS, e, e', h, h', l4, strLim]
  · simp [go_sem, Nat.reduceLT, reduceIte, reduceCtorEq, Nat.reduceEqDiff, apply_ite (Option.map (outOf _)), Nat.reduceBEq, Nat.reduceAdd, Nat.reduceSub, Nat.reduceLeDiff, Nat.reduceMul, ty_fieldOff_38_0, ty_szOf_3, ty_shapeT_3, ty_fieldOff_38_1, ty_szOf_9, ty_shapeT_9, ty_fieldOff_38_2, good_55, hr, Tok.cells, oneS]
  · simp [go_sem, Nat.reduceLT, reduceIte, reduceCtorEq, Nat.reduceEqDiff, apply_ite (Option.map (outOf _)), Nat.reduceBEq, Nat.reduceAdd, Nat.reduceSub, Nat.reduceLeDiff, Nat.reduceMul, ty_fieldOff_38_0, ty_szOf_3, ty_shapeT_3, ty_fieldOff_38_1, ty_szOf_9, ty_shapeT_9, ty_fieldOff_38_2, good_55, hr, Tok.cells, oneS, h1, h2, h3, h4, h5, h6, h7, h8]
end Go.Abs
