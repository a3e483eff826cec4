/-
  WHAT THE FUNCTIONS COMPUTE, layer 4, the document's reader of selectors: numbers; where a compound one ends; combinators.
-/
import Derived.Test.YtmcjabhnmealgaaDoorQSpecL2
set_option linter.unusedSimpArgs false
set_option linter.unusedVariables false
namespace Go.Abs
open Go Go.Proofs
set_option maxRecDepth 10000
attribute [local go_sem] exL_seq exL_region exL_cond exL_block exL_scope exL_ret exL_skip exL_exit runRegion runOps stepOp guardA absOp takeOver opd avOf cvOf St.degAt St.put okPV okVal okAV absBin intBin strBin boolBin setBoxes if_true Bool.false_eq_true if_false Option.map_some Option.map_none Option.bind_some Option.bind_none thenO outOf upd List.toList_toArray isOwn steal appArgs inApps AV.deg CV.deg AV.gv AV.isIter absNext some_bne List.length_nil List.length_cons List.filterMap_cons List.filterMap_nil beq_iff_eq List.getElem?_cons_zero List.getElem?_cons_succ Option.getD_some K_hook hookB Bool.false_and Bool.and_false Bool.and_self K_P K_own absCall doCall getBoxes lend back idx dedup AV.ren CV.ren TV.ren AV.ptrs CV.ptrs zipBox AV.flat CV.flat absLoad absStore cellsOfAV setAt newBox markB bldTypes absFieldAddr absField absExtract absAssert noAssert absMkIface ifcOf CV.pv? content pushHead ownT fillCells reps pvs chunks enterSt leave resOf resVars resVar outBoxes lentOnly TV.deg TV.av LK CV.plain CV.noBld nilBin absUn bound List.map_cons List.map_nil List.all_cons List.all_nil List.any_cons List.any_nil List.contains_cons List.contains_nil List.elem_cons List.elem_nil List.cons_append List.nil_append List.append_nil List.flatMap_cons List.flatMap_nil List.zip_cons_cons List.zip_nil_left List.zip_nil_right List.take_succ_cons List.take_zero List.take_nil List.drop_succ_cons List.drop_zero List.drop_nil List.isEmpty_nil List.isEmpty_cons Bool.and_true Bool.true_and Bool.or_true Bool.true_or Bool.or_false Bool.false_or Bool.not_true Bool.not_false Nat.add_zero Nat.zero_add Option.isNone_none Option.isNone_some Option.getD_none true_and and_true not_true_eq_false not_false_eq_true decide_true decide_false Nat.le_refl and_self Bool.not_eq_true Nat.sub_self or_true true_or Option.some.injEq List.length_map List.nil_eq and_false false_and AV.live CV.live CV.liveIn K_keep firstReg Option.orElse_some Option.orElse_none head keepSlots keepBoxes Int.lt_irrefl List.length_append ite_self memOK logOps opKey lentBoxes Key.clash Key.sees Key.writes Nat.lt_irrefl gt_iff_lt nobox_at bot_at false_or or_false beq_self_eq_true Bool.true_beq Bool.false_beq

theorem reach_if2 {α : Type} {ops ops' : List Oper} {n j i n' j' i' : Nat} {a b : α} (h : (reach ops n j i && reach ops' n' j' i') = true) : (if (reach ops n j i && reach ops' n' j' i') = true then a else b) = a := if_pos h

/-! ### digits -/

abbrev digH (s : List UInt8) (n : Int) (i : Nat) : St :=
  { sl := upd (upd (upd bot 4 (I i)) 3 (I n)) 0 (T s), bx := nobox, nt := 38 }
noncomputable def dglp : Code := .loop (loopAt Tryd.f82 5)

theorem dig_yes (s : List UInt8) (n : Int) (i : Nat) (hs : s.length ≤ 4) (hn : 0 ≤ n ∧ n ≤ 999) (c : UInt8) (hi : s[i]? = some c) (hd : Tk.digit c = true) :
    exL K 82 dglp (digH s n i) = exL K 82 dglp (digH s (10 * n + ((c.toNat : Int) - 48)) (i + 1)) := by
  have hil : i < s.length := (List.getElem?_eq_some_iff.1 hi).1
  have hlt : decide ((i : Int) < (s.length : Int)) = true := decide_eq_true (by omega)
  have hget : s[(i : Int).toNat]? = some c := by rw [Int.toNat_natCast]; exact hi
  have hw : IntKind.i64.wrap ((i : Int) + 1) = ((i + 1 : Nat) : Int) := wrap_nat i (by omega)
  unfold Tk.digit at hd
  have hd := of_decide_eq_true hd
  have d1 : decide ((c.toNat : Int) < 48) = false := decide_eq_false (by omega)
  have d2 : decide ((57 : Int) < (c.toNat : Int)) = false := decide_eq_false (by omega)
  have w1 : IntKind.i64.wrap (10 * n) = 10 * n := IntWalk.i64_in _ (by omega)
  have w2 : IntKind.i64.wrap (c.toNat : Int) = (c.toNat : Int) := IntWalk.i64_in _ (by omega)
  have w3 : IntKind.i64.wrap (10 * n + (c.toNat : Int)) = 10 * n + (c.toNat : Int) := IntWalk.i64_in _ (by omega)
  have w4 : IntKind.i64.wrap (10 * n + (c.toNat : Int) - 48) = 10 * n + ((c.toNat : Int) - 48) := by rw [IntWalk.i64_in _ (by omega)]; omega
  unfold dglp
  conv in loopAt _ _ => whnf
  conv in loopAt _ _ => whnf
  conv in exL _ _ _ (digH s n i) => rw [exL_loop]
  simp only [go_sem, Nat.reduceLT, reduceIte, reduceCtorEq, Nat.reduceEqDiff, apply_ite (Option.map (outOf _)), Nat.reduceBEq, Nat.reduceAdd, Nat.reduceSub, Nat.reduceLeDiff, Nat.reduceMul, ev_len_str ty_descOf_9, ev_index ty_descOf_9, ev_conv_int ty_descOf_5 ty_descOf_3, keep_82_5, hlt, hget, Int.natCast_nonneg, hw, d1, d2, w1, w2, w3, w4]
  rw [exL_head]
  simp only [go_sem, Nat.reduceLT, reduceIte, reduceCtorEq, Nat.reduceEqDiff, apply_ite (Option.map (outOf _)), Nat.reduceBEq, Nat.reduceAdd, Nat.reduceSub, Nat.reduceLeDiff, Nat.reduceMul, ev_len_str ty_descOf_9, ev_index ty_descOf_9, ev_conv_int ty_descOf_5 ty_descOf_3, keep_82_5]

theorem dig_no (s : List UInt8) (n : Int) (i : Nat) (hs : s.length ≤ 4) (c : UInt8) (hi : s[i]? = some c) (hd : Tk.digit c = false) :
    Ends (exL K 82 dglp (digH s n i)) fun o S => o = .ret ∧ S.sl 2 = I (-1) := by
  have hil : i < s.length := (List.getElem?_eq_some_iff.1 hi).1
  have hlt : decide ((i : Int) < (s.length : Int)) = true := decide_eq_true (by omega)
  have hget : s[(i : Int).toNat]? = some c := by rw [Int.toNat_natCast]; exact hi
  unfold Tk.digit at hd
  have hd := of_decide_eq_false hd
  unfold dglp
  conv in loopAt _ _ => whnf
  rw [exL_loop]
  cases d1 : decide ((c.toNat : Int) < 48)
  · have d2 : decide ((57 : Int) < (c.toNat : Int)) = true := decide_eq_true (by have := of_decide_eq_false d1; omega)
    simp only [go_sem, Nat.reduceLT, reduceIte, reduceCtorEq, Nat.reduceEqDiff, apply_ite (Option.map (outOf _)), Nat.reduceBEq, Nat.reduceAdd, Nat.reduceSub, Nat.reduceLeDiff, Nat.reduceMul, ev_len_str ty_descOf_9, ev_index ty_descOf_9, ev_conv_int ty_descOf_5 ty_descOf_3, keep_82_5, hlt, hget, Int.natCast_nonneg, d1, d2, ends_some]
  · simp only [go_sem, Nat.reduceLT, reduceIte, reduceCtorEq, Nat.reduceEqDiff, apply_ite (Option.map (outOf _)), Nat.reduceBEq, Nat.reduceAdd, Nat.reduceSub, Nat.reduceLeDiff, Nat.reduceMul, ev_len_str ty_descOf_9, ev_index ty_descOf_9, ev_conv_int ty_descOf_5 ty_descOf_3, keep_82_5, hlt, hget, Int.natCast_nonneg, d1, ends_some]

theorem dig_end (s : List UInt8) (n : Int) : Ends (exL K 82 dglp (digH s n s.length)) fun o S => o = .exit 0 ∧ S.nt = 38 ∧ S.sl 3 = I n := by
  unfold dglp
  conv in loopAt _ _ => whnf
  rw [exL_loop]
  simp only [go_sem, Nat.reduceLT, reduceIte, reduceCtorEq, Nat.reduceEqDiff, apply_ite (Option.map (outOf _)), Nat.reduceBEq, Nat.reduceAdd, Nat.reduceSub, Nat.reduceLeDiff, Nat.reduceMul, ev_len_str ty_descOf_9, ev_index ty_descOf_9, ev_conv_int ty_descOf_5 ty_descOf_3, keep_82_5, ends_some]

theorem dig_loop (s : List UInt8) (hs : s.length ≤ 4) : ∀ (rest : List UInt8) (i : Nat) (n : Int), s.drop i = rest → i ≤ s.length → 0 ≤ n → n * (10 ^ rest.length : Int) + (10 ^ rest.length : Int) ≤ 10000 →
    Ends (exL K 82 dglp (digH s n i)) fun o S => if rest.all Tk.digit then o = .exit 0 ∧ S.nt = 38 ∧ S.sl 3 = I (rest.foldl (fun n c => 10 * n + ((c.toNat : Int) - 48)) n) else o = .ret ∧ S.sl 2 = I (-1)
  | [], i, n, hd, hi, h0, h1 => by
    have hin : i = s.length := by
      have := List.drop_eq_nil_iff.1 hd
      omega
    subst hin
    exact dig_end s n
  | c :: rest, i, n, hd, hi, h0, h1 => by
    obtain ⟨g1, g2, g3⟩ := drop_cons hd
    rw [List.length_cons, Int.pow_succ] at h1
    have hp : (1 : Int) ≤ 10 ^ rest.length := by
      have : (0 : Int) < 10 ^ rest.length := Int.pow_pos (by omega)
      omega
    have h2 : n * (10 ^ rest.length * 10) = 10 * n * 10 ^ rest.length := by
      rw [Int.mul_comm (10 ^ rest.length) 10, ← Int.mul_assoc, Int.mul_comm n 10]
    rw [h2] at h1
    generalize hP : (10 : Int) ^ rest.length = P at *
    cases hc : Tk.digit c with
    | true =>
      have hcc := hc
      unfold Tk.digit at hcc
      have hcc := of_decide_eq_true hcc
      have h3 : 10 * n ≤ 10 * n * P := by
        have : 10 * n * 1 ≤ 10 * n * P := Int.mul_le_mul_of_nonneg_left hp (by omega)
        omega
      have h4 : (10 * n + ((c.toNat : Int) - 48)) * P ≤ 10 * n * P + 9 * P := by
        rw [Int.add_mul]
        have : ((c.toNat : Int) - 48) * P ≤ 9 * P := Int.mul_le_mul_of_nonneg_right (by omega) (by omega)
        omega
      rw [dig_yes s n i hs (by omega) c g1 hc]
      have ih := dig_loop s hs rest (i + 1) (10 * n + ((c.toNat : Int) - 48)) g2 (by omega) (by omega) (by rw [hP]; omega)
      rw [List.all_cons, hc, Bool.true_and, List.foldl_cons]
      exact ih
    | false =>
      refine ends_imp (dig_no s n i hs c g1 hc) fun o S q => ?_
      rw [List.all_cons, hc, Bool.false_and, if_neg (by simp)]
      exact q

theorem digits_den (s : List UInt8) : den K 82 [T s] [] = some (.ret (I (Sl.digits s)) []) := by
  have hr : Tryd.f82.results = #[.tmp 2] := rfl
  unfold Sl.digits
  by_cases h1 : s.length < 1
  · have e1 : decide ((s.length : Int) < 1) = true := decide_eq_true (by omega)
    rw [if_pos (.inl h1)]
    refine den_run rfl Tryd.func82 rfl Tryd.ntmps82 ⟨by simp, by simp [LK]⟩ ?_
    simp only [go_sem, Nat.reduceLT, reduceIte, reduceCtorEq, Nat.reduceEqDiff, apply_ite (Option.map (outOf _)), Nat.reduceBEq, Nat.reduceAdd, Nat.reduceSub, Nat.reduceLeDiff, Nat.reduceMul, ev_len_str ty_descOf_9, ev_index ty_descOf_9, ev_conv_int ty_descOf_5 ty_descOf_3, keep_82_5, hr, e1]
  · have e1 : decide ((s.length : Int) < 1) = false := decide_eq_false (by omega)
    by_cases h2 : 4 < s.length
    · have e2 : decide ((4 : Int) < (s.length : Int)) = true := decide_eq_true (by omega)
      rw [if_pos (.inr h2)]
      refine den_run rfl Tryd.func82 rfl Tryd.ntmps82 ⟨by simp, by simp [LK]⟩ ?_
      simp only [go_sem, Nat.reduceLT, reduceIte, reduceCtorEq, Nat.reduceEqDiff, apply_ite (Option.map (outOf _)), Nat.reduceBEq, Nat.reduceAdd, Nat.reduceSub, Nat.reduceLeDiff, Nat.reduceMul, ev_len_str ty_descOf_9, ev_index ty_descOf_9, ev_conv_int ty_descOf_5 ty_descOf_3, keep_82_5, hr, e1, e2]
    · have e2 : decide ((4 : Int) < (s.length : Int)) = false := decide_eq_false (by omega)
      rw [if_neg (by omega)]
      have hp : (10 : Int) ^ s.length ≤ 10000 := by
        have : s.length = 1 ∨ s.length = 2 ∨ s.length = 3 ∨ s.length = 4 := by omega
        rcases this with h | h | h | h <;> rw [h] <;> decide
      have h := dig_loop s (by omega) s 0 0 rfl (Nat.zero_le _) (by omega) (by omega)
      unfold dglp at h
      conv at h in loopAt _ _ => whnf
      obtain ⟨o, S, w, hq⟩ := h
      refine den_run rfl Tryd.func82 rfl Tryd.ntmps82 ⟨by simp, by simp [LK]⟩ ?_
      simp only [go_sem, Nat.reduceLT, reduceIte, reduceCtorEq, Nat.reduceEqDiff, apply_ite (Option.map (outOf _)), Nat.reduceBEq, Nat.reduceAdd, Nat.reduceSub, Nat.reduceLeDiff, Nat.reduceMul, ev_len_str ty_descOf_9, ev_index ty_descOf_9, ev_conv_int ty_descOf_5 ty_descOf_3, keep_82_5, e1, e2]
      rw [exL_head]
      simp only [go_sem, Nat.reduceLT, reduceIte, reduceCtorEq, Nat.reduceEqDiff, apply_ite (Option.map (outOf _)), Nat.reduceBEq, Nat.reduceAdd, Nat.reduceSub, Nat.reduceLeDiff, Nat.reduceMul, ev_len_str ty_descOf_9, ev_index ty_descOf_9, ev_conv_int ty_descOf_5 ty_descOf_3, keep_82_5]
      erw [w]
      cases ha : s.all Tk.digit with
      | true =>
        rw [ha, if_pos rfl] at hq
        obtain ⟨rfl, hn, h3⟩ := hq
        simp only [go_sem, Nat.reduceLT, reduceIte, reduceCtorEq, Nat.reduceEqDiff, apply_ite (Option.map (outOf _)), Nat.reduceBEq, Nat.reduceAdd, Nat.reduceSub, Nat.reduceLeDiff, Nat.reduceMul, ev_len_str ty_descOf_9, ev_index ty_descOf_9, ev_conv_int ty_descOf_5 ty_descOf_3, keep_82_5, hr, hn, h3]
      | false =>
        rw [ha, if_neg (by simp)] at hq
        obtain ⟨rfl, h2⟩ := hq
        simp only [go_sem, Nat.reduceLT, reduceIte, reduceCtorEq, Nat.reduceEqDiff, apply_ite (Option.map (outOf _)), Nat.reduceBEq, Nat.reduceAdd, Nat.reduceSub, Nat.reduceLeDiff, Nat.reduceMul, ev_len_str ty_descOf_9, ev_index ty_descOf_9, ev_conv_int ty_descOf_5 ty_descOf_3, keep_82_5, hr, h2]

theorem fold_dig : ∀ (s : List UInt8) (n : Int), s.all Tk.digit = true → 0 ≤ n → 0 ≤ s.foldl (fun n c => 10 * n + ((c.toNat : Int) - 48)) n ∧ s.foldl (fun n c => 10 * n + ((c.toNat : Int) - 48)) n + 1 ≤ (n + 1) * 10 ^ s.length
  | [], n, _, hn => by simp; omega
  | c :: s, n, h, hn => by
    rw [List.all_cons, Bool.and_eq_true] at h
    have hc := h.1
    unfold Tk.digit at hc
    have hc := of_decide_eq_true hc
    obtain ⟨h1, h2⟩ := fold_dig s (10 * n + ((c.toNat : Int) - 48)) h.2 (by omega)
    refine ⟨h1, ?_⟩
    rw [List.foldl_cons, List.length_cons, Int.pow_succ]
    have hp : (0 : Int) < 10 ^ s.length := Int.pow_pos (by omega)
    have h3 : (10 * n + ((c.toNat : Int) - 48) + 1) * 10 ^ s.length ≤ (10 * (n + 1)) * 10 ^ s.length := Int.mul_le_mul_of_nonneg_right (by omega) (by omega)
    have h4 : (n + 1) * (10 ^ s.length * 10) = (10 * (n + 1)) * 10 ^ s.length := by
      rw [Int.mul_comm (10 ^ s.length) 10, ← Int.mul_assoc, Int.mul_comm (n + 1) 10]
    omega
theorem digits_few (s : List UInt8) : -1 ≤ Sl.digits s ∧ Sl.digits s ≤ 9999 := by
  unfold Sl.digits
  split
  · omega
  · rename_i h
    split
    · rename_i ha
      obtain ⟨h1, h2⟩ := fold_dig s 0 ha (by omega)
      have hp : (10 : Int) ^ s.length ≤ 10000 := by
        have : s.length = 1 ∨ s.length = 2 ∨ s.length = 3 ∨ s.length = 4 := by omega
        rcases this with h | h | h | h <;> rw [h] <;> decide
      omega
    · omega

theorem few_den (n : Int) : den K 72 [I n] [] = some (.ret (B (decide (Sl.few n))) []) := by
  have hv : decide (Sl.few n) = (decide (-9999 ≤ n) && decide (n ≤ 9999)) := by
    have e : (decide (-9999 ≤ n) && decide (n ≤ 9999)) = decide (-9999 ≤ n ∧ n ≤ 9999) := (Bool.decide_and ..).symm
    rw [e]
    exact decide_eq_decide.2 Iff.rfl
  rw [hv]
  refine den_run rfl Tryd.func72 rfl Tryd.ntmps72 ⟨by simp, by simp [LK]⟩ ?_
  have hr : Tryd.f72.results = #[.tmp 2] := rfl
  cases e1 : decide (-9999 ≤ n)
  · simp only [go_sem, Nat.reduceLT, reduceIte, reduceCtorEq, Nat.reduceEqDiff, apply_ite (Option.map (outOf _)), Nat.reduceBEq, Nat.reduceAdd, Nat.reduceSub, Nat.reduceLeDiff, Nat.reduceMul, nobox_at, hr, e1]
  · simp only [go_sem, Nat.reduceLT, reduceIte, reduceCtorEq, Nat.reduceEqDiff, apply_ite (Option.map (outOf _)), Nat.reduceBEq, Nat.reduceAdd, Nat.reduceSub, Nat.reduceLeDiff, Nat.reduceMul, nobox_at, hr, e1]

/-! ### where a compound one ends -/

theorem over_den (l : List Val) (i : Nat) (bad : Bool) (hl : l.length ≤ 100000000) : den K 34 [P0] [rb0 l i bad] = some (.ret (B (Sl.over (l.drop i))) [rb0 l i bad]) := by
  have hr : Tryd.f34.results = #[.tmp 2] := rfl
  have ht := tok0_den l i bad 8 hl
  cases hd : l.drop i with
  | nil =>
    have hle : l.length ≤ i := List.drop_eq_nil_iff.1 hd
    have hlt : decide ((l.length : Int) ≤ (i : Int)) = true := decide_eq_true (by omega)
    have hv : Sl.over [] = true := rfl
    rw [hv]
    refine den_run rfl Tryd.func34 rfl Tryd.ntmps34 ⟨by simp, by simp [LK]⟩ ?_
    simp only [go_sem, Nat.reduceLT, reduceIte, reduceCtorEq, Nat.reduceEqDiff, apply_ite (Option.map (outOf _)), Nat.reduceBEq, Nat.reduceAdd, Nat.reduceSub, Nat.reduceLeDiff, Nat.reduceMul, ty_fieldOff_92_1, ty_szOf_3, ty_shapeT_3, ty_fieldOff_92_0, ty_szOf_39, ty_shapeT_39, ev_len_sl ty_descOf_39, good_52, ty_fieldOff_83_0, ev_indexAddr ty_descOf_39, ty_szOf_88, ty_shapeT_88, ty_zeroCells_88, good_33, hr, hlt, encL_len]
  | cons v r =>
    obtain ⟨g1, g2, g3⟩ := drop_val hd
    have hlt : decide ((l.length : Int) ≤ (i : Int)) = false := decide_eq_false (by omega)
    cases hb : Sl.isBlank v with
    | true =>
      have h8 : (tk0 8 (l.drop i)).kind = 8 := by rw [hd]; exact (isBlank_tok _).2 ⟨v, r, rfl, hb⟩
      have e8 : ((tk0 8 (l.drop i)).kind == 8) = true := by rw [h8]; rfl
      have hv : Sl.over (v :: r) = true := by unfold Sl.over; simp [hb]
      rw [hv]
      refine den_run rfl Tryd.func34 rfl Tryd.ntmps34 ⟨by simp, by simp [LK]⟩ ?_
      simp only [go_sem, Nat.reduceLT, reduceIte, reduceCtorEq, Nat.reduceEqDiff, apply_ite (Option.map (outOf _)), Nat.reduceBEq, Nat.reduceAdd, Nat.reduceSub, Nat.reduceLeDiff, Nat.reduceMul, ty_fieldOff_92_1, ty_szOf_3, ty_shapeT_3, ty_fieldOff_92_0, ty_szOf_39, ty_shapeT_39, ev_len_sl ty_descOf_39, good_52, ty_fieldOff_83_0, ev_indexAddr ty_descOf_39, ty_szOf_88, ty_shapeT_88, ty_zeroCells_88, good_33, hr, hlt, ht, e8, encL_len]
      rw [reach_if2]
      rotate_left
      · kernel_rfl
      simp only [go_sem, Nat.reduceLT, reduceIte, reduceCtorEq, Nat.reduceEqDiff, apply_ite (Option.map (outOf _)), Nat.reduceBEq, Nat.reduceAdd, Nat.reduceSub, Nat.reduceLeDiff, Nat.reduceMul, ty_fieldOff_92_1, ty_szOf_3, ty_shapeT_3, ty_fieldOff_92_0, ty_szOf_39, ty_shapeT_39, ev_len_sl ty_descOf_39, good_52, ty_fieldOff_83_0, ev_indexAddr ty_descOf_39, ty_szOf_88, ty_shapeT_88, ty_zeroCells_88, good_33, hr, hlt, ht, e8, encL_len]
    | false =>
      have h8 : (tk0 8 (l.drop i)).kind ≠ 8 := by
        rw [hd]
        intro h
        obtain ⟨v', r', h1, h2⟩ := (isBlank_tok _).1 h
        cases h1
        rw [hb] at h2; cases h2
      have e8 : ((tk0 8 (l.drop i)).kind == 8) = false := by rw [beq_eq_false_iff_ne]; exact h8
      have hv : Sl.over (v :: r) = ((Sl.isSign [62] v || Sl.isSign [43] v) || Sl.isSign [126] v) := by unfold Sl.over; simp [hb]
      rw [hv]
      obtain ⟨k, t, c⟩ := v
      have hget := val_at l i k t c g1
      have s1 := sign3_den k t c [62]
      have s2 := sign3_den k t c [43]
      have s3 := sign3_den k t c [126]
      refine den_run rfl Tryd.func34 rfl Tryd.ntmps34 ⟨by simp, by simp [LK]⟩ ?_
      cases e1 : Sl.isSign [62] (Val.mk k t c)
      · rw [e1] at s1
        cases e2 : Sl.isSign [43] (Val.mk k t c)
        · rw [e2] at s2
          simp only [go_sem, Nat.reduceLT, reduceIte, reduceCtorEq, Nat.reduceEqDiff, apply_ite (Option.map (outOf _)), Nat.reduceBEq, Nat.reduceAdd, Nat.reduceSub, Nat.reduceLeDiff, Nat.reduceMul, ty_fieldOff_92_1, ty_szOf_3, ty_shapeT_3, ty_fieldOff_92_0, ty_szOf_39, ty_shapeT_39, ev_len_sl ty_descOf_39, good_52, ty_fieldOff_83_0, ev_indexAddr ty_descOf_39, ty_szOf_88, ty_shapeT_88, ty_zeroCells_88, good_33, hr, hlt, ht, e8, encL_len, hget, Int.natCast_nonneg, s1, s2, s3]
          rw [reach_if2]
          rotate_left
          · kernel_rfl
          simp only [go_sem, Nat.reduceLT, reduceIte, reduceCtorEq, Nat.reduceEqDiff, apply_ite (Option.map (outOf _)), Nat.reduceBEq, Nat.reduceAdd, Nat.reduceSub, Nat.reduceLeDiff, Nat.reduceMul, ty_fieldOff_92_1, ty_szOf_3, ty_shapeT_3, ty_fieldOff_92_0, ty_szOf_39, ty_shapeT_39, ev_len_sl ty_descOf_39, good_52, ty_fieldOff_83_0, ev_indexAddr ty_descOf_39, ty_szOf_88, ty_shapeT_88, ty_zeroCells_88, good_33, hr, hlt, ht, e8, encL_len, hget, Int.natCast_nonneg, s1, s2, s3]
          rw [reach_if]
          rotate_left
          · kernel_rfl
          simp only [go_sem, Nat.reduceLT, reduceIte, reduceCtorEq, Nat.reduceEqDiff, apply_ite (Option.map (outOf _)), Nat.reduceBEq, Nat.reduceAdd, Nat.reduceSub, Nat.reduceLeDiff, Nat.reduceMul, ty_fieldOff_92_1, ty_szOf_3, ty_shapeT_3, ty_fieldOff_92_0, ty_szOf_39, ty_shapeT_39, ev_len_sl ty_descOf_39, good_52, ty_fieldOff_83_0, ev_indexAddr ty_descOf_39, ty_szOf_88, ty_shapeT_88, ty_zeroCells_88, good_33, hr, hlt, ht, e8, encL_len, hget, Int.natCast_nonneg, s1, s2, s3]
        · rw [e2] at s2
          simp only [go_sem, Nat.reduceLT, reduceIte, reduceCtorEq, Nat.reduceEqDiff, apply_ite (Option.map (outOf _)), Nat.reduceBEq, Nat.reduceAdd, Nat.reduceSub, Nat.reduceLeDiff, Nat.reduceMul, ty_fieldOff_92_1, ty_szOf_3, ty_shapeT_3, ty_fieldOff_92_0, ty_szOf_39, ty_shapeT_39, ev_len_sl ty_descOf_39, good_52, ty_fieldOff_83_0, ev_indexAddr ty_descOf_39, ty_szOf_88, ty_shapeT_88, ty_zeroCells_88, good_33, hr, hlt, ht, e8, encL_len, hget, Int.natCast_nonneg, s1, s2, s3]
          rw [reach_if2]
          rotate_left
          · kernel_rfl
          simp only [go_sem, Nat.reduceLT, reduceIte, reduceCtorEq, Nat.reduceEqDiff, apply_ite (Option.map (outOf _)), Nat.reduceBEq, Nat.reduceAdd, Nat.reduceSub, Nat.reduceLeDiff, Nat.reduceMul, ty_fieldOff_92_1, ty_szOf_3, ty_shapeT_3, ty_fieldOff_92_0, ty_szOf_39, ty_shapeT_39, ev_len_sl ty_descOf_39, good_52, ty_fieldOff_83_0, ev_indexAddr ty_descOf_39, ty_szOf_88, ty_shapeT_88, ty_zeroCells_88, good_33, hr, hlt, ht, e8, encL_len, hget, Int.natCast_nonneg, s1, s2, s3]
          rw [reach_if]
          rotate_left
          · kernel_rfl
          simp only [go_sem, Nat.reduceLT, reduceIte, reduceCtorEq, Nat.reduceEqDiff, apply_ite (Option.map (outOf _)), Nat.reduceBEq, Nat.reduceAdd, Nat.reduceSub, Nat.reduceLeDiff, Nat.reduceMul, ty_fieldOff_92_1, ty_szOf_3, ty_shapeT_3, ty_fieldOff_92_0, ty_szOf_39, ty_shapeT_39, ev_len_sl ty_descOf_39, good_52, ty_fieldOff_83_0, ev_indexAddr ty_descOf_39, ty_szOf_88, ty_shapeT_88, ty_zeroCells_88, good_33, hr, hlt, ht, e8, encL_len, hget, Int.natCast_nonneg, s1, s2, s3]
      · rw [e1] at s1
        simp only [go_sem, Nat.reduceLT, reduceIte, reduceCtorEq, Nat.reduceEqDiff, apply_ite (Option.map (outOf _)), Nat.reduceBEq, Nat.reduceAdd, Nat.reduceSub, Nat.reduceLeDiff, Nat.reduceMul, ty_fieldOff_92_1, ty_szOf_3, ty_shapeT_3, ty_fieldOff_92_0, ty_szOf_39, ty_shapeT_39, ev_len_sl ty_descOf_39, good_52, ty_fieldOff_83_0, ev_indexAddr ty_descOf_39, ty_szOf_88, ty_shapeT_88, ty_zeroCells_88, good_33, hr, hlt, ht, e8, encL_len, hget, Int.natCast_nonneg, s1, s2, s3]
        rw [reach_if2]
        rotate_left
        · kernel_rfl
        simp only [go_sem, Nat.reduceLT, reduceIte, reduceCtorEq, Nat.reduceEqDiff, apply_ite (Option.map (outOf _)), Nat.reduceBEq, Nat.reduceAdd, Nat.reduceSub, Nat.reduceLeDiff, Nat.reduceMul, ty_fieldOff_92_1, ty_szOf_3, ty_shapeT_3, ty_fieldOff_92_0, ty_szOf_39, ty_shapeT_39, ev_len_sl ty_descOf_39, good_52, ty_fieldOff_83_0, ev_indexAddr ty_descOf_39, ty_szOf_88, ty_shapeT_88, ty_zeroCells_88, good_33, hr, hlt, ht, e8, encL_len, hget, Int.natCast_nonneg, s1, s2, s3]
        rw [reach_if]
        rotate_left
        · kernel_rfl
        simp only [go_sem, Nat.reduceLT, reduceIte, reduceCtorEq, Nat.reduceEqDiff, apply_ite (Option.map (outOf _)), Nat.reduceBEq, Nat.reduceAdd, Nat.reduceSub, Nat.reduceLeDiff, Nat.reduceMul, ty_fieldOff_92_1, ty_szOf_3, ty_shapeT_3, ty_fieldOff_92_0, ty_szOf_39, ty_shapeT_39, ev_len_sl ty_descOf_39, good_52, ty_fieldOff_83_0, ev_indexAddr ty_descOf_39, ty_szOf_88, ty_shapeT_88, ty_zeroCells_88, good_33, hr, hlt, ht, e8, encL_len, hget, Int.natCast_nonneg, s1, s2, s3]

theorem double_den (l : List Val) (i : Nat) (bad : Bool) (hl : l.length ≤ 100000000) (hi : i ≤ 100000000) : den K 35 [P0] [rb0 l i bad] = some (.ret (B (Sl.double (l.drop i))) [rb0 l i bad]) := by
  have hr : Tryd.f35.results = #[.tmp 2] := rfl
  have hw : IntKind.i64.wrap ((i : Int) + 1) = ((i + 1 : Nat) : Int) := wrap_nat i (by omega)
  by_cases h : i + 1 < l.length
  · have hlt : decide (((i + 1 : Nat) : Int) < (l.length : Int)) = true := decide_eq_true (by omega)
    have hd1 : l.drop i = l[i] :: l[i + 1] :: l.drop (i + 1 + 1) := by
      rw [List.drop_eq_getElem_cons (by omega : i < l.length), List.drop_eq_getElem_cons h]
    have g1 : l[i]? = some l[i] := List.getElem?_eq_getElem (by omega)
    have g2 : l[i + 1]? = some l[i + 1] := List.getElem?_eq_getElem h
    rw [hd1]
    generalize l[i] = v at g1
    generalize l[i + 1] = u at g2
    have hv : Sl.double (v :: u :: l.drop (i + 1 + 1)) = (Sl.isSign [58] v && Sl.isSign [58] u) := rfl
    rw [hv]
    obtain ⟨k, t, c⟩ := v
    obtain ⟨k', t', c'⟩ := u
    have hget := val_at l i k t c g1
    have hget2 := val_at l (i + 1) k' t' c' g2
    have s1 := sign3_den k t c [58]
    have s2 := sign3_den k' t' c' [58]
    refine den_run rfl Tryd.func35 rfl Tryd.ntmps35 ⟨by simp, by simp [LK]⟩ ?_
    cases e1 : Sl.isSign [58] (Val.mk k t c)
    · rw [e1] at s1
      simp only [go_sem, Nat.reduceLT, reduceIte, reduceCtorEq, Nat.reduceEqDiff, apply_ite (Option.map (outOf _)), Nat.reduceBEq, Nat.reduceAdd, Nat.reduceSub, Nat.reduceLeDiff, Nat.reduceMul, ty_fieldOff_92_1, ty_szOf_3, ty_shapeT_3, ty_fieldOff_92_0, ty_szOf_39, ty_shapeT_39, ev_len_sl ty_descOf_39, ev_indexAddr ty_descOf_39, ty_szOf_88, ty_shapeT_88, good_33, hr, hw, hlt, encL_len, hget, hget2, Int.natCast_nonneg, s1, s2]
    · rw [e1] at s1
      simp only [go_sem, Nat.reduceLT, reduceIte, reduceCtorEq, Nat.reduceEqDiff, apply_ite (Option.map (outOf _)), Nat.reduceBEq, Nat.reduceAdd, Nat.reduceSub, Nat.reduceLeDiff, Nat.reduceMul, ty_fieldOff_92_1, ty_szOf_3, ty_shapeT_3, ty_fieldOff_92_0, ty_szOf_39, ty_shapeT_39, ev_len_sl ty_descOf_39, ev_indexAddr ty_descOf_39, ty_szOf_88, ty_shapeT_88, good_33, hr, hw, hlt, encL_len, hget, hget2, Int.natCast_nonneg, s1, s2]
  · have hlt : decide (((i + 1 : Nat) : Int) < (l.length : Int)) = false := decide_eq_false (by omega)
    have hv : Sl.double (l.drop i) = false := by
      have hlen : (l.drop i).length ≤ 1 := by rw [List.length_drop]; omega
      cases hd : l.drop i with
      | nil => rfl
      | cons v r =>
        cases r with
        | nil => rfl
        | cons u r => rw [hd] at hlen; simp at hlen
    rw [hv]
    refine den_run rfl Tryd.func35 rfl Tryd.ntmps35 ⟨by simp, by simp [LK]⟩ ?_
    simp only [go_sem, Nat.reduceLT, reduceIte, reduceCtorEq, Nat.reduceEqDiff, apply_ite (Option.map (outOf _)), Nat.reduceBEq, Nat.reduceAdd, Nat.reduceSub, Nat.reduceLeDiff, Nat.reduceMul, ty_fieldOff_92_1, ty_szOf_3, ty_shapeT_3, ty_fieldOff_92_0, ty_szOf_39, ty_shapeT_39, ev_len_sl ty_descOf_39, ev_indexAddr ty_descOf_39, ty_szOf_88, ty_shapeT_88, good_33, hr, hw, hlt, encL_len]

/-! ### combinators -/

theorem combr_den (l : List Val) (i : Nat) (bad : Bool) (hl : l.length ≤ 100000000) (hi : i ≤ l.length) : ∃ j : Nat, l.drop j = (Sl.comb (l.drop i)).2 ∧ i ≤ j ∧ j ≤ l.length ∧
    den K 38 [P0] [rb0 l i bad] = some (.ret (I (Sl.comb (l.drop i)).1) [rb0 l j bad]) := by
  have hr : Tryd.f38.results = #[.tmp 2] := rfl
  obtain ⟨b, m, m1, m2, m3, hb⟩ := blanks_den l i bad hl hi
  unfold Sl.comb
  simp only [← m1]
  cases h1 : Sl.sign [62] (l.drop m) with
  | some r =>
    obtain ⟨s1, s2, s3⟩ := sign0_yes l m bad [62] hl r h1
    obtain ⟨b', j, j1, j2, j3, hb'⟩ := blanks_den l (m + 1) bad hl s3
    refine ⟨j, by rw [j1, s2], by omega, j3, ?_⟩
    refine den_run rfl Tryd.func38 rfl Tryd.ntmps38 ⟨by simp, by simp [LK]⟩ ?_
    simp only [go_sem, Nat.reduceLT, reduceIte, reduceCtorEq, Nat.reduceEqDiff, apply_ite (Option.map (outOf _)), Nat.reduceBEq, Nat.reduceAdd, Nat.reduceSub, Nat.reduceLeDiff, Nat.reduceMul, good_58, good_54, hr, hb, s1, hb']
  | none =>
    have s1 := sign0_no l m bad [62] hl h1
    cases h2 : Sl.sign [43] (l.drop m) with
    | some r =>
      obtain ⟨t1, t2, t3⟩ := sign0_yes l m bad [43] hl r h2
      obtain ⟨b', j, j1, j2, j3, hb'⟩ := blanks_den l (m + 1) bad hl t3
      refine ⟨j, by rw [j1, t2], by omega, j3, ?_⟩
      refine den_run rfl Tryd.func38 rfl Tryd.ntmps38 ⟨by simp, by simp [LK]⟩ ?_
      simp only [go_sem, Nat.reduceLT, reduceIte, reduceCtorEq, Nat.reduceEqDiff, apply_ite (Option.map (outOf _)), Nat.reduceBEq, Nat.reduceAdd, Nat.reduceSub, Nat.reduceLeDiff, Nat.reduceMul, good_58, good_54, hr, hb, s1, t1, hb']
    | none =>
      have t1 := sign0_no l m bad [43] hl h2
      cases h3 : Sl.sign [126] (l.drop m) with
      | some r =>
        obtain ⟨u1, u2, u3⟩ := sign0_yes l m bad [126] hl r h3
        obtain ⟨b', j, j1, j2, j3, hb'⟩ := blanks_den l (m + 1) bad hl u3
        refine ⟨j, by rw [j1, u2], by omega, j3, ?_⟩
        refine den_run rfl Tryd.func38 rfl Tryd.ntmps38 ⟨by simp, by simp [LK]⟩ ?_
        simp only [go_sem, Nat.reduceLT, reduceIte, reduceCtorEq, Nat.reduceEqDiff, apply_ite (Option.map (outOf _)), Nat.reduceBEq, Nat.reduceAdd, Nat.reduceSub, Nat.reduceLeDiff, Nat.reduceMul, good_58, good_54, hr, hb, s1, t1, u1, hb']
      | none =>
        have u1 := sign0_no l m bad [126] hl h3
        obtain ⟨b', j, j1, j2, j3, hb'⟩ := blanks_den l m bad hl m3
        refine ⟨j, j1, by omega, j3, ?_⟩
        refine den_run rfl Tryd.func38 rfl Tryd.ntmps38 ⟨by simp, by simp [LK]⟩ ?_
        simp only [go_sem, Nat.reduceLT, reduceIte, reduceCtorEq, Nat.reduceEqDiff, apply_ite (Option.map (outOf _)), Nat.reduceBEq, Nat.reduceAdd, Nat.reduceSub, Nat.reduceLeDiff, Nat.reduceMul, good_58, good_54, hr, hb, s1, t1, u1, hb']

end Go.Abs
