/-
  ToksBlanks, as the interpreter answers it: true, whatever the tokens and the number are; what reads as them.
-/
import Derived.Test.YtcnodcgdceoijaaDoorSpecR4
import Derived.Test.YtcnodcgdceoijaaDoorTailT
set_option linter.unusedSimpArgs false
set_option linter.unusedVariables false
namespace Go.Abs
open Go Go.Proofs
set_option maxRecDepth 10000
attribute [local go_sem] exL_seq exL_region exL_cond exL_block exL_scope exL_ret exL_skip exL_exit runRegion runOps stepOp guardA absOp takeOver opd avOf cvOf St.degAt St.put okPV okVal okAV absBin intBin strBin boolBin setBoxes if_true Bool.false_eq_true if_false Option.map_some Option.map_none Option.bind_some Option.bind_none thenO outOf upd List.toList_toArray isOwn steal appArgs inApps AV.deg CV.deg AV.gv AV.isIter absNext some_bne List.length_nil List.length_cons List.filterMap_cons List.filterMap_nil beq_iff_eq List.getElem?_cons_zero List.getElem?_cons_succ Option.getD_some K_hook hookB Bool.false_and Bool.and_false Bool.and_self K_P K_own absCall doCall getBoxes lend back idx dedup AV.ren CV.ren TV.ren AV.ptrs CV.ptrs zipBox AV.flat CV.flat absLoad absStore cellsOfAV setAt newBox markB bldTypes absFieldAddr absField absExtract absAssert noAssert absMkIface ifcOf CV.pv? content pushHead ownT fillCells reps pvs chunks enterSt leave resOf resVars resVar outBoxes lentOnly TV.deg TV.av LK CV.plain CV.noBld nilBin absUn bound List.map_cons List.map_nil List.all_cons List.all_nil List.any_cons List.any_nil List.contains_cons List.contains_nil List.elem_cons List.elem_nil List.cons_append List.nil_append List.append_nil List.flatMap_cons List.flatMap_nil List.zip_cons_cons List.zip_nil_left List.zip_nil_right List.take_succ_cons List.take_zero List.take_nil List.drop_succ_cons List.drop_zero List.drop_nil List.isEmpty_nil List.isEmpty_cons Bool.and_true Bool.true_and Bool.or_true Bool.true_or Bool.or_false Bool.false_or Bool.not_true Bool.not_false Nat.add_zero Nat.zero_add Option.isNone_none Option.isNone_some Option.getD_none true_and and_true not_true_eq_false not_false_eq_true decide_true decide_false Nat.le_refl and_self Bool.not_eq_true Nat.sub_self or_true true_or Option.some.injEq List.length_map List.nil_eq and_false false_and AV.live CV.live CV.liveIn K_keep firstReg Option.orElse_some Option.orElse_none head keepSlots keepBoxes Int.lt_irrefl List.length_append ite_self memOK logOps opKey lentBoxes Key.clash Key.sees Key.writes Nat.lt_irrefl gt_iff_lt nobox_at bot_at false_or or_false beq_self_eq_true Bool.true_beq Bool.false_beq

theorem smallT_lens {l : List Tok} {m : Int} (h : smallT l m = true) : (l.length : Int) ≤ m ∧ ∀ t ∈ l, t.text.length ≤ 100 := by
  unfold smallT at h
  simp only [Bool.and_eq_true, decide_eq_true_eq, List.all_eq_true] at h
  exact ⟨h.2, h.1⟩

abbrev tens : List UInt8 := [32, 9, 10, 12, 13, 10, 32, 32, 9, 32]
abbrev cm1 : List UInt8 := [32, 105, 116, 39, 115, 32, 34, 120, 32, 42, 47]
abbrev cm2 : List UInt8 := [42, 47]

theorem cm1_shut (z : List UInt8) : Tk.all (47 :: 42 :: (cm1 ++ z)) = Tk.all z := by
  rw [Tk.all_cons]
  rfl
theorem cm2_shut (z : List UInt8) : Tk.all (47 :: 42 :: (cm2 ++ z)) = Tk.all z := Tk.all_between z

theorem spread_cons (w c : List UInt8) (t : Tok) (l : List Tok) : Tk.spread w c (t :: l) = (if t.kind = 8 then w else oneS t) ++ (47 :: 42 :: (c ++ Tk.spread w c l)) := rfl
theorem spread_one (c : List UInt8) (t : Tok) (l : List Tok) : Tk.spread [10] c (t :: l) = oneS t ++ (47 :: 42 :: (c ++ Tk.spread [10] c l)) := by
  rw [spread_cons]
  split
  · rename_i h
    have : oneS t = [10] := by unfold oneS; simp [h]
    rw [this]
  · rfl
theorem spread_len {w c : List UInt8} {m : Nat} (hw : w.length ≤ m) : ∀ (l : List Tok), (∀ t ∈ l, (oneS t).length ≤ m) → (Tk.spread w c l).length ≤ l.length * (m + c.length + 2)
  | [], _ => by simp [Tk.spread]
  | t :: l, h => by
    have h1 := spread_len (c := c) hw l fun t ht => h t (by simp [ht])
    have h2 := h t (by simp)
    rw [spread_cons]
    simp only [List.length_append, List.length_cons]
    rw [Nat.add_mul, Nat.one_mul]
    split <;> omega

abbrev blanksH (l : List Tok) (n : Int) (x y : List UInt8) (i : Nat) : St := { sl := upd (upd (upd (upd (upd bot 7 (I i)) 6 (T y)) 5 (T x)) 1 (I n)) 0 (L (l.map Tok.enc)), bx := nobox, nt := 68 }

set_option maxHeartbeats 8000000 in
theorem blanks_loop (l : List Tok) (hl : l.length ≤ 100) (n : Nat) (hn : n ≤ 9) (hok : ∀ t ∈ l, I64 t.n ∧ t.text.length ≤ 100) : ∀ (rest : List Tok) (i : Nat) (x y : List UInt8), l.drop i = rest → i ≤ l.length → x.length ≤ i * 200 → y.length ≤ i * 200 →
    Ends (exL K 8 (.loop (loopAt Tryd.f8 5)) (blanksH l n x y i)) fun o S => o = .exit 0 ∧ S.nt = 68 ∧ S.sl 0 = L (l.map Tok.enc) ∧ S.sl 5 = T (x ++ Tk.spread [10] cm1 rest) ∧ S.sl 6 = T (y ++ Tk.spread (tens.take (n + 1)) cm2 rest) := by
  intro rest
  induction rest with
  | nil =>
    intro i x y hd hi hx hy
    have hin : i = l.length := by
      have := List.drop_eq_nil_iff.1 hd
      omega
    subst hin
    have v1 : Tk.spread [10] cm1 [] = [] := rfl
    have v2 : Tk.spread (tens.take (n + 1)) cm2 [] = [] := rfl
    rw [v1, v2, List.append_nil, List.append_nil]
    conv in loopAt _ _ => whnf
    rw [exL_loop]
    simp only [go_sem, Nat.reduceLT, reduceIte, reduceCtorEq, Nat.reduceEqDiff, apply_ite (Option.map (outOf _)), Nat.reduceBEq, Nat.reduceAdd, Nat.reduceSub, Nat.reduceLeDiff, Nat.reduceMul, good_25, good_24, good_35, ev_len_sl ty_descOf_44, ev_indexAddr ty_descOf_44, ty_szOf_46, ty_shapeT_46, good_31, ty_fieldOff_46_0, ty_szOf_3, ty_shapeT_3, ev_slice_str ty_descOf_9, good_27, good_26, keep_8_5, ends_some]
  | cons t rest ih =>
    intro i x y hd hi hx hy
    obtain ⟨g1, g2, g3⟩ := drop_cons hd
    obtain ⟨ht1, ht2⟩ := hok t (List.mem_of_getElem? g1)
    have hlt : decide ((i : Int) < (l.length : Int)) = true := decide_eq_true (by omega)
    have ga := enc_at l i t g1
    have ga2 := ga
    rw [Int.toNat_natCast] at ga2
    have wi := wrap_nat i (by omega)
    have hone := One_den t ht1 (by omega)
    have hlen := one_len t ht1
    simp only [Tok.cells] at hone
    have ev1 : x ++ Tk.spread [10] cm1 (t :: rest) = x ++ (oneS t ++ (47 :: 42 :: cm1)) ++ Tk.spread [10] cm1 rest := by
      rw [spread_one]; simp
    have l1 : (oneS t).length + 13 < strLim := by simp [strLim]; omega
    have l2 : x.length + ((oneS t).length + 13) < strLim := by simp [strLim]; omega
    have wn : IntKind.i64.wrap ((n : Int) + 1) = ((n + 1 : Nat) : Int) := wrap_nat n (by omega)
    rw [ev1]
    cases h8 : (t.kind == 8)
    · have hk : t.kind ≠ 8 := by simpa using h8
      have ev2 : y ++ Tk.spread (tens.take (n + 1)) cm2 (t :: rest) = y ++ (oneS t ++ (47 :: 42 :: cm2)) ++ Tk.spread (tens.take (n + 1)) cm2 rest := by
        rw [spread_cons, if_neg hk]; simp
      rw [ev2]
      have l3 : (oneS t).length + 4 < strLim := by simp [strLim]; omega
      have l4 : y.length + ((oneS t).length + 4) < strLim := by simp [strLim]; omega
      have ih' := ih (i + 1) (x ++ (oneS t ++ (47 :: 42 :: cm1))) (y ++ (oneS t ++ (47 :: 42 :: cm2))) g2 (by omega) (by simp only [List.length_append, List.length_cons, List.length_nil]; omega) (by simp only [List.length_append, List.length_cons, List.length_nil]; omega)
      conv at ih' in loopAt _ _ => whnf
      conv in loopAt _ _ => whnf
      rw [exL_loop]
      simp only [go_sem, Nat.reduceLT, reduceIte, reduceCtorEq, Nat.reduceEqDiff, apply_ite (Option.map (outOf _)), Nat.reduceBEq, Nat.reduceAdd, Nat.reduceSub, Nat.reduceLeDiff, Nat.reduceMul, good_25, good_24, good_35, ev_len_sl ty_descOf_44, ev_indexAddr ty_descOf_44, ty_szOf_46, ty_shapeT_46, good_31, ty_fieldOff_46_0, ty_szOf_3, ty_shapeT_3, ev_slice_str ty_descOf_9, good_27, good_26, keep_8_5, hlt, ga, Int.natCast_nonneg, hone, h8, l1, l2, l3, l4, wi]
      rw [exL_head]
      simp only [go_sem, Nat.reduceLT, reduceIte, reduceCtorEq, Nat.reduceEqDiff, apply_ite (Option.map (outOf _)), Nat.reduceBEq, Nat.reduceAdd, Nat.reduceSub, Nat.reduceLeDiff, Nat.reduceMul, good_25, good_24, good_35, ev_len_sl ty_descOf_44, ev_indexAddr ty_descOf_44, ty_szOf_46, ty_shapeT_46, good_31, ty_fieldOff_46_0, ty_szOf_3, ty_shapeT_3, ev_slice_str ty_descOf_9, good_27, good_26, keep_8_5]
      exact ih'
    · have hk : t.kind = 8 := by simpa using h8
      have ev2 : y ++ Tk.spread (tens.take (n + 1)) cm2 (t :: rest) = y ++ (tens.take (n + 1) ++ (47 :: 42 :: cm2)) ++ Tk.spread (tens.take (n + 1)) cm2 rest := by
        rw [spread_cons, if_pos hk]; simp
      rw [ev2]
      have b1 : (((n + 1 : Nat) : Int) ≤ (10 : Nat)) = True := eq_true (by omega)
      have b1' : (((n + 1 : Nat) : Int) ≤ 10) = True := eq_true (by omega)
      have hw : (tens.take (n + 1)).length ≤ 10 := by rw [List.length_take]; simp; omega
      have ih' := ih (i + 1) (x ++ (oneS t ++ (47 :: 42 :: cm1))) (y ++ (tens.take (n + 1) ++ (47 :: 42 :: cm2))) g2 (by omega) (by simp only [List.length_append, List.length_cons, List.length_nil]; omega) (by simp only [List.length_append, List.length_cons, List.length_nil]; omega)
      have hsl : (tens.take (n + 1)).drop 0 = tens.take (n + 1) := rfl
      generalize hwg : tens.take (n + 1) = w at ih' hw
      have l3 : w.length + 4 < strLim := by simp [strLim]; omega
      have l4 : y.length + (w.length + 4) < strLim := by simp [strLim]; omega
      conv at ih' in loopAt _ _ => whnf
      conv in loopAt _ _ => whnf
      rw [exL_loop]
      simp only [go_sem, Nat.reduceLT, reduceIte, reduceCtorEq, Nat.reduceEqDiff, apply_ite (Option.map (outOf _)), Nat.reduceBEq, Nat.reduceAdd, Nat.reduceSub, Nat.reduceLeDiff, Nat.reduceMul, good_25, good_24, good_35, ev_len_sl ty_descOf_44, ev_indexAddr ty_descOf_44, ty_szOf_46, ty_shapeT_46, good_31, ty_fieldOff_46_0, ty_szOf_3, ty_shapeT_3, ev_slice_str ty_descOf_9, good_27, good_26, keep_8_5, hlt, ga2, Int.natCast_nonneg, Int.toNat_natCast, hone, h8, l1, l2, l3, l4, wi, wn, b1, b1', hwg]
      rw [exL_head]
      simp only [go_sem, Nat.reduceLT, reduceIte, reduceCtorEq, Nat.reduceEqDiff, apply_ite (Option.map (outOf _)), Nat.reduceBEq, Nat.reduceAdd, Nat.reduceSub, Nat.reduceLeDiff, Nat.reduceMul, good_25, good_24, good_35, ev_len_sl ty_descOf_44, ev_indexAddr ty_descOf_44, ty_szOf_46, ty_shapeT_46, good_31, ty_fieldOff_46_0, ty_szOf_3, ty_shapeT_3, ev_slice_str ty_descOf_9, good_27, good_26, keep_8_5]
      exact ih'

set_option maxHeartbeats 4000000 in
theorem ToksBlanks_den (l : List Tok) (n : Int) (hl : ∀ t ∈ l, I64 t.n) (hll : l.length ≤ reachBytes) (htx : ∀ t ∈ l, t.text.length ≤ reachBytes) :
    den K 8 [L (l.map Tok.enc), I n] [] = some (.ret (B true) []) := by
  have hf := fixed1_den
  have hok : lenOk l.length := by unfold lenOk; simp [reachBytes] at hll; omega
  have hsm := SmallT_den l 100 hok
  have hr : Tryd.f8.results = #[.tmp 4] := rfl
  cases h3 : smallT l 100
  · rw [h3] at hsm
    refine den_run rfl Tryd.func8 rfl Tryd.ntmps8 ⟨by simp, by simp [LK]⟩ ?_
    simp only [go_sem, Nat.reduceLT, reduceIte, reduceCtorEq, Nat.reduceEqDiff, apply_ite (Option.map (outOf _)), Nat.reduceBEq, Nat.reduceAdd, Nat.reduceSub, Nat.reduceLeDiff, Nat.reduceMul, good_25, good_24, good_35, ev_len_sl ty_descOf_44, ev_indexAddr ty_descOf_44, ty_szOf_46, ty_shapeT_46, good_31, ty_fieldOff_46_0, ty_szOf_3, ty_shapeT_3, ev_slice_str ty_descOf_9, good_27, good_26, keep_8_5, hr, hf, hsm]
  rw [h3] at hsm
  obtain ⟨hn, hs⟩ := smallT_lens h3
  have hm := Mays_den l hok (fun t ht => ⟨hl t ht, by have := hs t ht; omega⟩)
  cases h4 : l.all Tk.may
  · rw [h4] at hm
    refine den_run rfl Tryd.func8 rfl Tryd.ntmps8 ⟨by simp, by simp [LK]⟩ ?_
    simp only [go_sem, Nat.reduceLT, reduceIte, reduceCtorEq, Nat.reduceEqDiff, apply_ite (Option.map (outOf _)), Nat.reduceBEq, Nat.reduceAdd, Nat.reduceSub, Nat.reduceLeDiff, Nat.reduceMul, good_25, good_24, good_35, ev_len_sl ty_descOf_44, ev_indexAddr ty_descOf_44, ty_szOf_46, ty_shapeT_46, good_31, ty_fieldOff_46_0, ty_szOf_3, ty_shapeT_3, ev_slice_str ty_descOf_9, good_27, good_26, keep_8_5, hr, hf, hsm, hm]
  rw [h4] at hm
  by_cases h5 : n < 0
  · have e : decide (n < 0) = true := decide_eq_true h5
    refine den_run rfl Tryd.func8 rfl Tryd.ntmps8 ⟨by simp, by simp [LK]⟩ ?_
    simp only [go_sem, Nat.reduceLT, reduceIte, reduceCtorEq, Nat.reduceEqDiff, apply_ite (Option.map (outOf _)), Nat.reduceBEq, Nat.reduceAdd, Nat.reduceSub, Nat.reduceLeDiff, Nat.reduceMul, good_25, good_24, good_35, ev_len_sl ty_descOf_44, ev_indexAddr ty_descOf_44, ty_szOf_46, ty_shapeT_46, good_31, ty_fieldOff_46_0, ty_szOf_3, ty_shapeT_3, ev_slice_str ty_descOf_9, good_27, good_26, keep_8_5, hr, hf, hsm, hm, e]
  have e5 : decide (n < 0) = false := decide_eq_false h5
  by_cases h6 : 9 < n
  · have e : decide (9 < n) = true := decide_eq_true h6
    refine den_run rfl Tryd.func8 rfl Tryd.ntmps8 ⟨by simp, by simp [LK]⟩ ?_
    simp only [go_sem, Nat.reduceLT, reduceIte, reduceCtorEq, Nat.reduceEqDiff, apply_ite (Option.map (outOf _)), Nat.reduceBEq, Nat.reduceAdd, Nat.reduceSub, Nat.reduceLeDiff, Nat.reduceMul, good_25, good_24, good_35, ev_len_sl ty_descOf_44, ev_indexAddr ty_descOf_44, ty_szOf_46, ty_shapeT_46, good_31, ty_fieldOff_46_0, ty_szOf_3, ty_shapeT_3, ev_slice_str ty_descOf_9, good_27, good_26, keep_8_5, hr, hf, hsm, hm, e5, e]
  have e6 : decide (9 < n) = false := decide_eq_false h6
  obtain ⟨k, rfl⟩ : ∃ k : Nat, n = k := ⟨n.toNat, by omega⟩
  have good : ∀ t ∈ l, Tk.Good t := fun t ht => Tk.may_iff.1 (List.all_eq_true.1 h4 t ht)
  have hlp := blanks_loop l (by omega) k (by omega) (fun t ht => ⟨hl t ht, hs t ht⟩) l 0 [] [] rfl (Nat.zero_le _) (by simp) (by simp)
  conv at hlp in loopAt _ _ => whnf
  obtain ⟨o, S', w, rfl, fn, f0, f5, f6⟩ := hlp
  simp only [List.nil_append] at f5 f6
  have hone : ∀ t ∈ l, (oneS t).length ≤ 121 := fun t ht => by have := one_len t (hl t ht); have := hs t ht; omega
  have k1 := spread_len (w := [10]) (c := cm1) (m := 121) (by simp) l hone
  have k2 := spread_len (w := tens.take (k + 1)) (c := cm2) (m := 121) (by rw [List.length_take]; simp; omega) l hone
  have b1 : l.length * (121 + cm1.length + 2) ≤ 100 * 134 := Nat.mul_le_mul (by omega) (by simp)
  have b2 : l.length * (121 + cm2.length + 2) ≤ 100 * 134 := Nat.mul_le_mul (by omega) (by simp)
  have a1 := All_den (Tk.spread [10] cm1 l) (by omega)
  have a2 := All_den (Tk.spread (tens.take (k + 1)) cm2 l) (by omega)
  rw [Tk.spread_read (by simp) (by decide) cm1_shut good] at a1
  rw [Tk.spread_read (by simp) (fun b hb => by
    have : ∀ b ∈ tens, Tk.blank b = true := by decide
    exact this b (List.mem_of_mem_take hb)) cm2_shut good] at a2
  generalize Tk.spread [10] cm1 l = x1 at a1 f5
  generalize Tk.spread (tens.take (k + 1)) cm2 l = x2 at a2 f6
  have sa := Same_den l l hok hok
  rw [decide_eq_true rfl] at sa
  refine den_run rfl Tryd.func8 rfl Tryd.ntmps8 ⟨by simp, by simp [LK]⟩ ?_
  simp only [go_sem, Nat.reduceLT, reduceIte, reduceCtorEq, Nat.reduceEqDiff, apply_ite (Option.map (outOf _)), Nat.reduceBEq, Nat.reduceAdd, Nat.reduceSub, Nat.reduceLeDiff, Nat.reduceMul, good_25, good_24, good_35, ev_len_sl ty_descOf_44, ev_indexAddr ty_descOf_44, ty_szOf_46, ty_shapeT_46, good_31, ty_fieldOff_46_0, ty_szOf_3, ty_shapeT_3, ev_slice_str ty_descOf_9, good_27, good_26, keep_8_5, hf, hsm, hm, e5, e6]
  rw [exL_head]
  simp only [go_sem, Nat.reduceLT, reduceIte, reduceCtorEq, Nat.reduceEqDiff, apply_ite (Option.map (outOf _)), Nat.reduceBEq, Nat.reduceAdd, Nat.reduceSub, Nat.reduceLeDiff, Nat.reduceMul, good_25, good_24, good_35, ev_len_sl ty_descOf_44, ev_indexAddr ty_descOf_44, ty_szOf_46, ty_shapeT_46, good_31, ty_fieldOff_46_0, ty_szOf_3, ty_shapeT_3, ev_slice_str ty_descOf_9, good_27, good_26, keep_8_5]
  erw [w]
  simp only [go_sem, Nat.reduceLT, reduceIte, reduceCtorEq, Nat.reduceEqDiff, apply_ite (Option.map (outOf _)), Nat.reduceBEq, Nat.reduceAdd, Nat.reduceSub, Nat.reduceLeDiff, Nat.reduceMul, good_25, good_24, good_35, ev_len_sl ty_descOf_44, ev_indexAddr ty_descOf_44, ty_szOf_46, ty_shapeT_46, good_31, ty_fieldOff_46_0, ty_szOf_3, ty_shapeT_3, ev_slice_str ty_descOf_9, good_27, good_26, keep_8_5, hr, fn, f0, f5, f6, a1, a2, sa]

set_option maxRecDepth 100000 in
theorem ToksBlanks_args (pss : List (List PV)) (h : All2 (fun t p => ∃ n, TyP Tryd.prog n t p) Tryd.f8.params.toList pss) :
    den K 8 (List.zipWith (argOf Tryd.prog) Tryd.f8.params.toList pss) [] = some (.ret (.c (.pv (.bool true))) []) := by
  have hp : Tryd.f8.params.toList = [44, 3] := rfl
  rw [hp] at h ⊢
  refine args2 h fun n m p q h1 h2 e => ?_
  subst e
  obtain ⟨l, rfl, hll, hl⟩ := ty_toks h1
  obtain ⟨a, rfl, ha⟩ := TyP_int ty_descOf_3 h2
  simp only [List.zipWith_cons_cons, List.zipWith_nil_left, argOf_num, argOf_toks]
  exact ToksBlanks_den l a (fun t ht => (hl t ht).2.1) hll (fun t ht => (hl t ht).2.2)
end Go.Abs
