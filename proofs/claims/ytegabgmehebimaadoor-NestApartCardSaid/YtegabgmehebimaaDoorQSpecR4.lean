/-
  WHAT THE DOCUMENT'S ANSWER COMPUTES, layer 1: the tokens of a text; whether tokens may be.
-/
import Derived.Test.YtegabgmehebimaaDoorQSpecR3
import Derived.Test.YtegabgmehebimaaDoorQSpecDg
import Derived.Test.YtegabgmehebimaaDoorQM
set_option linter.unusedSimpArgs false
set_option linter.unusedVariables false
namespace Go.Abs
open Go Go.Proofs
set_option maxRecDepth 10000
attribute [local go_sem] exL_seq exL_region exL_cond exL_block exL_scope exL_ret exL_skip exL_exit runRegion runOps stepOp guardA absOp takeOver opd avOf cvOf St.degAt St.put okPV okVal okAV absBin intBin strBin boolBin setBoxes if_true Bool.false_eq_true if_false Option.map_some Option.map_none Option.bind_some Option.bind_none thenO outOf upd List.toList_toArray isOwn steal appArgs inApps AV.deg CV.deg AV.gv AV.isIter absNext some_bne List.length_nil List.length_cons List.filterMap_cons List.filterMap_nil beq_iff_eq List.getElem?_cons_zero List.getElem?_cons_succ Option.getD_some K_hook hookB Bool.false_and Bool.and_false Bool.and_self K_P K_own absCall doCall getBoxes lend back idx dedup AV.ren CV.ren TV.ren AV.ptrs CV.ptrs zipBox AV.flat CV.flat absLoad absStore cellsOfAV setAt newBox markB bldTypes absFieldAddr absField absExtract absAssert noAssert absMkIface ifcOf CV.pv? content pushHead ownT fillCells reps pvs chunks enterSt leave resOf resVars resVar outBoxes lentOnly TV.deg TV.av LK CV.plain CV.noBld nilBin absUn bound List.map_cons List.map_nil List.all_cons List.all_nil List.any_cons List.any_nil List.contains_cons List.contains_nil List.elem_cons List.elem_nil List.cons_append List.nil_append List.append_nil List.flatMap_cons List.flatMap_nil List.zip_cons_cons List.zip_nil_left List.zip_nil_right List.take_succ_cons List.take_zero List.take_nil List.drop_succ_cons List.drop_zero List.drop_nil List.isEmpty_nil List.isEmpty_cons Bool.and_true Bool.true_and Bool.or_true Bool.true_or Bool.or_false Bool.false_or Bool.not_true Bool.not_false Nat.add_zero Nat.zero_add Option.isNone_none Option.isNone_some Option.getD_none true_and and_true not_true_eq_false not_false_eq_true decide_true decide_false Nat.le_refl and_self Bool.not_eq_true Nat.sub_self or_true true_or Option.some.injEq List.length_map List.nil_eq and_false false_and AV.live CV.live CV.liveIn K_keep firstReg Option.orElse_some Option.orElse_none head keepSlots keepBoxes Int.lt_irrefl List.length_append ite_self memOK logOps opKey lentBoxes Key.clash Key.sees Key.writes Nat.lt_irrefl gt_iff_lt nobox_at bot_at false_or or_false beq_self_eq_true Bool.true_beq Bool.false_beq

abbrev allH1 (s : List UInt8) (i : Nat) (ys : List Tok) : St := { sl := upd (upd (upd bot 4 (I i)) 3 (.c (.own 38 (ys.map Tok.enc)))) 0 (T s), bx := nobox, nt := 27 }

theorem good_ne {t : Tok} (h : Tk.Good t) : (t.kind != 0) = true := by
  rw [bne_iff_ne]
  cases h <;> simp

set_option maxHeartbeats 4000000 in
theorem all1_loop (s : List UInt8) (hs : s.length < 4000000000) : ∀ (l : List UInt8) (i : Nat) (ys : List Tok), s.drop i = l → i ≤ s.length → ys.length + l.length < 4000000000 →
    Ends (exL K 25 (.loop (loopAt Tryd.f25 3)) (allH1 s i ys)) fun o S => o = .exit 0 ∧ S.nt = 27 ∧ S.sl 3 = .c (.own 38 ((ys ++ Tk.all l).map Tok.enc)) := by
  refine Tk.all_ind (Q := fun l => ∀ (i : Nat) (ys : List Tok), s.drop i = l → i ≤ s.length → ys.length + l.length < 4000000000 →
    Ends (exL K 25 (.loop (loopAt Tryd.f25 3)) (allH1 s i ys)) fun o S => o = .exit 0 ∧ S.nt = 27 ∧ S.sl 3 = .c (.own 38 ((ys ++ Tk.all l).map Tok.enc))) ?_ ?_
  · intro i ys hd hi _
    have hin : i = s.length := by
      have := List.drop_eq_nil_iff.1 hd
      omega
    subst hin
    rw [Tk.all_nil, List.append_nil]
    conv in loopAt _ _ => whnf
    rw [exL_loop]
    simp only [go_sem, Nat.reduceLT, reduceIte, reduceCtorEq, Nat.reduceEqDiff, apply_ite (Option.map (outOf _)), Nat.reduceBEq, Nat.reduceAdd, Nat.reduceSub, Nat.reduceLeDiff, Nat.reduceMul, ev_buildSlice (len := 0) ty_descOf_22 ty_szOf_38 ty_zeroCells_38 ⟨rfl, by decide, by decide⟩, ev_len_str ty_descOf_9, good_40, ty_zeroCells_38, ty_szOf_38, ty_fieldOff_38_0, ty_szOf_3, ty_shapeT_3, ty_shapeT_38, ev_buildSlice (len := 1) ty_descOf_22 ty_szOf_38 ty_zeroCells_38 ⟨rfl, by decide, by decide⟩, ev_append ty_appInfo_22, ev_appNew_sl ty_descOf_22, keep_25_3, ends_some]
  · intro c r ih i ys hd hi hl
    obtain ⟨g1, g2, g3⟩ := drop_cons hd
    have hp := Tk.step_pos c r
    have hle := Tk.step_le c r
    have hn := next1_den s i c r hs hd
    have hlt : decide ((i : Int) < (s.length : Int)) = true := decide_eq_true (by omega)
    have hlen : (c :: r).length = s.length - i := by rw [← hd, List.length_drop]
    have hdd : s.drop (i + (Tk.step c r).2) = (c :: r).drop (Tk.step c r).2 := by rw [← List.drop_drop, hd]
    have hall := Tk.all_cons c r
    have ih' := ih (i + (Tk.step c r).2)
    simp only [tokAt, Tok.cells] at hn
    cases hst : (Tk.step c r).1 with
    | none =>
      rw [hst] at hn hall
      simp only [stepT, Option.getD_none] at hn
      simp only [Option.toList_none, List.nil_append] at hall
      have e0 : ((0 : Int) != 0) = false := by decide
      have ih2 := ih' ys hdd (by omega) (by rw [List.length_drop]; omega)
      rw [← hall] at ih2
      conv at ih2 in loopAt _ _ => whnf
      conv in loopAt _ _ => whnf
      rw [exL_loop]
      simp only [go_sem, Nat.reduceLT, reduceIte, reduceCtorEq, Nat.reduceEqDiff, apply_ite (Option.map (outOf _)), Nat.reduceBEq, Nat.reduceAdd, Nat.reduceSub, Nat.reduceLeDiff, Nat.reduceMul, ev_buildSlice (len := 0) ty_descOf_22 ty_szOf_38 ty_zeroCells_38 ⟨rfl, by decide, by decide⟩, ev_len_str ty_descOf_9, good_40, ty_zeroCells_38, ty_szOf_38, ty_fieldOff_38_0, ty_szOf_3, ty_shapeT_3, ty_shapeT_38, ev_buildSlice (len := 1) ty_descOf_22 ty_szOf_38 ty_zeroCells_38 ⟨rfl, by decide, by decide⟩, ev_append ty_appInfo_22, ev_appNew_sl ty_descOf_22, keep_25_3, hlt, hn, e0, TV.flat]
      rw [exL_head]
      simp only [go_sem, Nat.reduceLT, reduceIte, reduceCtorEq, Nat.reduceEqDiff, apply_ite (Option.map (outOf _)), Nat.reduceBEq, Nat.reduceAdd, Nat.reduceSub, Nat.reduceLeDiff, Nat.reduceMul, ev_buildSlice (len := 0) ty_descOf_22 ty_szOf_38 ty_zeroCells_38 ⟨rfl, by decide, by decide⟩, ev_len_str ty_descOf_9, good_40, ty_zeroCells_38, ty_szOf_38, ty_fieldOff_38_0, ty_szOf_3, ty_shapeT_3, ty_shapeT_38, ev_buildSlice (len := 1) ty_descOf_22 ty_szOf_38 ty_zeroCells_38 ⟨rfl, by decide, by decide⟩, ev_append ty_appInfo_22, ev_appNew_sl ty_descOf_22, keep_25_3]
      exact ih2
    | some t =>
      rw [hst] at hn hall
      simp only [stepT, Option.getD_some] at hn
      simp only [Option.toList_some, List.cons_append, List.nil_append] at hall
      have e0 := good_ne (Tk.step_good hst)
      have hla : ys.length + 1 < appLim := by simp [appLim]; simp only [List.length_cons] at hl; omega
      have ih2 := ih' (ys ++ [t]) hdd (by omega) (by rw [List.length_append, List.length_drop]; simp only [List.length_cons, List.length_nil] at *; omega)
      rw [List.append_assoc, List.cons_append, List.nil_append, ← hall] at ih2
      have hys : (ys ++ [t]).map Tok.enc = ys.map Tok.enc ++ [[.int .i64 t.kind, .str t.text, .int .i64 t.n]] := by simp [Tok.enc]
      simp only [allH1, hys] at ih2
      conv at ih2 in loopAt _ _ => whnf
      conv in loopAt _ _ => whnf
      rw [exL_loop]
      simp only [go_sem, Nat.reduceLT, reduceIte, reduceCtorEq, Nat.reduceEqDiff, apply_ite (Option.map (outOf _)), Nat.reduceBEq, Nat.reduceAdd, Nat.reduceSub, Nat.reduceLeDiff, Nat.reduceMul, ev_buildSlice (len := 0) ty_descOf_22 ty_szOf_38 ty_zeroCells_38 ⟨rfl, by decide, by decide⟩, ev_len_str ty_descOf_9, good_40, ty_zeroCells_38, ty_szOf_38, ty_fieldOff_38_0, ty_szOf_3, ty_shapeT_3, ty_shapeT_38, ev_buildSlice (len := 1) ty_descOf_22 ty_szOf_38 ty_zeroCells_38 ⟨rfl, by decide, by decide⟩, ev_append ty_appInfo_22, ev_appNew_sl ty_descOf_22, keep_25_3, hlt, hn, e0, TV.flat, hla, lens_toks, lens_tok]
      rw [exL_head]
      simp only [go_sem, Nat.reduceLT, reduceIte, reduceCtorEq, Nat.reduceEqDiff, apply_ite (Option.map (outOf _)), Nat.reduceBEq, Nat.reduceAdd, Nat.reduceSub, Nat.reduceLeDiff, Nat.reduceMul, ev_buildSlice (len := 0) ty_descOf_22 ty_szOf_38 ty_zeroCells_38 ⟨rfl, by decide, by decide⟩, ev_len_str ty_descOf_9, good_40, ty_zeroCells_38, ty_szOf_38, ty_fieldOff_38_0, ty_szOf_3, ty_shapeT_3, ty_shapeT_38, ev_buildSlice (len := 1) ty_descOf_22 ty_szOf_38 ty_zeroCells_38 ⟨rfl, by decide, by decide⟩, ev_append ty_appInfo_22, ev_appNew_sl ty_descOf_22, keep_25_3]
      exact ih2

theorem All1_den (s : List UInt8) (hs : s.length < 4000000000) : den K 25 [T s] [] = some (.ret (L ((Tk.all s).map Tok.enc)) []) := by
  refine den_run rfl Tryd.func25 rfl Tryd.ntmps25 ⟨by simp, by simp [LK]⟩ ?_
  have hr : Tryd.f25.results = #[.tmp 2] := rfl
  have hl := all1_loop s hs s 0 [] rfl (Nat.zero_le _) (by simp; omega)
  conv at hl in loopAt _ _ => whnf
  obtain ⟨o, S', e2, rfl, hn, h3⟩ := hl
  simp only [List.nil_append] at h3
  simp only [go_sem, Nat.reduceLT, reduceIte, reduceCtorEq, Nat.reduceEqDiff, apply_ite (Option.map (outOf _)), Nat.reduceBEq, Nat.reduceAdd, Nat.reduceSub, Nat.reduceLeDiff, Nat.reduceMul, ev_buildSlice (len := 0) ty_descOf_22 ty_szOf_38 ty_zeroCells_38 ⟨rfl, by decide, by decide⟩, ev_len_str ty_descOf_9, good_40, ty_zeroCells_38, ty_szOf_38, ty_fieldOff_38_0, ty_szOf_3, ty_shapeT_3, ty_shapeT_38, ev_buildSlice (len := 1) ty_descOf_22 ty_szOf_38 ty_zeroCells_38 ⟨rfl, by decide, by decide⟩, ev_append ty_appInfo_22, ev_appNew_sl ty_descOf_22, keep_25_3]
  rw [exL_head]
  simp only [go_sem, Nat.reduceLT, reduceIte, reduceCtorEq, Nat.reduceEqDiff, apply_ite (Option.map (outOf _)), Nat.reduceBEq, Nat.reduceAdd, Nat.reduceSub, Nat.reduceLeDiff, Nat.reduceMul, ev_buildSlice (len := 0) ty_descOf_22 ty_szOf_38 ty_zeroCells_38 ⟨rfl, by decide, by decide⟩, ev_len_str ty_descOf_9, good_40, ty_zeroCells_38, ty_szOf_38, ty_fieldOff_38_0, ty_szOf_3, ty_shapeT_3, ty_shapeT_38, ev_buildSlice (len := 1) ty_descOf_22 ty_szOf_38 ty_zeroCells_38 ⟨rfl, by decide, by decide⟩, ev_append ty_appInfo_22, ev_appNew_sl ty_descOf_22, keep_25_3]
  erw [e2]
  simp only [go_sem, Nat.reduceLT, reduceIte, reduceCtorEq, Nat.reduceEqDiff, apply_ite (Option.map (outOf _)), Nat.reduceBEq, Nat.reduceAdd, Nat.reduceSub, Nat.reduceLeDiff, Nat.reduceMul, ev_buildSlice (len := 0) ty_descOf_22 ty_szOf_38 ty_zeroCells_38 ⟨rfl, by decide, by decide⟩, ev_len_str ty_descOf_9, good_40, ty_zeroCells_38, ty_szOf_38, ty_fieldOff_38_0, ty_szOf_3, ty_shapeT_3, ty_shapeT_38, ev_buildSlice (len := 1) ty_descOf_22 ty_szOf_38 ty_zeroCells_38 ⟨rfl, by decide, by decide⟩, ev_append ty_appInfo_22, ev_appNew_sl ty_descOf_22, keep_25_3, hr, hn, h3]

theorem May1_den (t : Tok) (hn : I64 t.n) (hl : t.text.length < 1000000000) : den K 37 [.agg t.cells] [] = some (.ret (B (Tk.may t)) []) := by
  have h1 := One1_den t hn (by omega)
  have hlen := one_len t hn
  have h2 := All1_den (oneS t) (by omega)
  have hal := Tk.all_len (oneS t)
  unfold Tk.may
  generalize Tk.all (oneS t) = a at h2 hal
  simp only [Tok.cells] at h1 ⊢
  refine den_run rfl Tryd.func37 rfl Tryd.ntmps37 ⟨by simp, by simp [LK]⟩ ?_
  have hr : Tryd.f37.results = #[.tmp 2] := rfl
  match a with
  | [] =>
    have e : ((0 : Int) == 1) = false := by decide
    have e2 : decide (([] : List Tok) = [t]) = false := by simp
    rw [e2]
    simp [go_sem, Nat.reduceLT, reduceIte, reduceCtorEq, Nat.reduceEqDiff, apply_ite (Option.map (outOf _)), Nat.reduceBEq, Nat.reduceAdd, Nat.reduceSub, Nat.reduceLeDiff, Nat.reduceMul, ty_shapeT_38, good_42, good_25, ev_len_sl ty_descOf_22, ev_indexAddr ty_descOf_22, ty_szOf_38, hr, h1, h2]
  | [y] =>
    have heq := tok_eq y.kind t.kind y.n t.n y.text t.text
    rw [tok_beq] at heq
    have e2 : decide ([y] = [t]) = decide (y = t) := by simp
    rw [e2]
    simp only [List.map_cons, List.map_nil, Tok.enc] at h2
    have g0 : ([[PV.int .i64 y.kind, .str y.text, .int .i64 y.n]] : List (List PV))[(0 : Int).toNat]? = some [.int .i64 y.kind, .str y.text, .int .i64 y.n] := rfl
    have e1 : (((0 + 1 : Nat) : Int) == 1) = true := by decide
    have e1' : (((1 : Nat) : Int) == 1) = true := by decide
    cases hyt : decide (y = t) <;> rw [hyt] at heq <;> simp only [go_sem, Nat.reduceLT, reduceIte, reduceCtorEq, Nat.reduceEqDiff, apply_ite (Option.map (outOf _)), Nat.reduceBEq, Nat.reduceAdd, Nat.reduceSub, Nat.reduceLeDiff, Nat.reduceMul, ty_shapeT_38, good_42, good_25, ev_len_sl ty_descOf_22, ev_indexAddr ty_descOf_22, ty_szOf_38, hr, h1, h2, g0, heq, Int.le_refl, e1, e1']
  | y :: z :: l =>
    have e : (((y :: z :: l).length : Int) == 1) = false := by rw [beq_eq_false_iff_ne]; simp only [List.length_cons]; omega
    have e2 : decide (y :: z :: l = [t]) = false := by simp
    rw [e2]
    generalize y :: z :: l = b at h2 e
    simp only [go_sem, Nat.reduceLT, reduceIte, reduceCtorEq, Nat.reduceEqDiff, apply_ite (Option.map (outOf _)), Nat.reduceBEq, Nat.reduceAdd, Nat.reduceSub, Nat.reduceLeDiff, Nat.reduceMul, ty_shapeT_38, good_42, good_25, ev_len_sl ty_descOf_22, ev_indexAddr ty_descOf_22, ty_szOf_38, hr, h1, h2, e]

theorem two_den (s : List UInt8) (a b : Tok) (hs : s.length < 4000000000) : den K 41 [T s, .agg a.cells, .agg b.cells] [] = some (.ret (B (decide (Tk.all s = [a, b]))) []) := by
  have h2 := All1_den s hs
  have hal := Tk.all_len s
  generalize Tk.all s = l at h2 hal
  simp only [Tok.cells]
  refine den_run rfl Tryd.func41 rfl Tryd.ntmps41 ⟨by simp, by simp [LK]⟩ ?_
  have hr : Tryd.f41.results = #[.tmp 6] := rfl
  by_cases hl : l.length = 2
  · obtain ⟨x, y, rfl⟩ : ∃ x y, l = [x, y] := by
      match l, hl with
      | [x, y], _ => exact ⟨x, y, rfl⟩
    have h1 := tok_eq x.kind a.kind x.n a.n x.text a.text
    have h3 := tok_eq y.kind b.kind y.n b.n y.text b.text
    rw [tok_beq] at h1 h3
    have e2 : decide ([x, y] = [a, b]) = (decide (x = a) && decide (y = b)) := by rw [← Bool.decide_and]; simp
    rw [e2]
    have g0 := enc_at [x, y] 0 x rfl
    have g1 := enc_at [x, y] 1 y rfl
    have z0 : ((0 : Nat) : Int) = 0 := rfl
    have z1 : ((1 : Nat) : Int) = 1 := rfl
    rw [z0] at g0
    rw [z1] at g1
    have p1 : ((0 : Int) ≤ 1) = True := by simp
    have e1 : (([x, y].length : Int) == 2) = true := by rfl
    generalize [x, y] = l at h2 e1 g0 g1
    cases q1 : decide (x = a)
    · rw [q1] at h1
      simp only [go_sem, Nat.reduceLT, reduceIte, reduceCtorEq, Nat.reduceEqDiff, apply_ite (Option.map (outOf _)), Nat.reduceBEq, Nat.reduceAdd, Nat.reduceSub, Nat.reduceLeDiff, Nat.reduceMul, good_25, ev_len_sl ty_descOf_22, ev_indexAddr ty_descOf_22, ty_szOf_38, ty_shapeT_38, hr, h2, e1, g0, h1, Int.le_refl]
    · rw [q1] at h1
      cases q2 : decide (y = b)
      · rw [q2] at h3
        simp only [go_sem, Nat.reduceLT, reduceIte, reduceCtorEq, Nat.reduceEqDiff, apply_ite (Option.map (outOf _)), Nat.reduceBEq, Nat.reduceAdd, Nat.reduceSub, Nat.reduceLeDiff, Nat.reduceMul, good_25, ev_len_sl ty_descOf_22, ev_indexAddr ty_descOf_22, ty_szOf_38, ty_shapeT_38, hr, h2, e1, g0, g1, h1, h3, Int.le_refl, p1]
      · rw [q2] at h3
        simp only [go_sem, Nat.reduceLT, reduceIte, reduceCtorEq, Nat.reduceEqDiff, apply_ite (Option.map (outOf _)), Nat.reduceBEq, Nat.reduceAdd, Nat.reduceSub, Nat.reduceLeDiff, Nat.reduceMul, good_25, ev_len_sl ty_descOf_22, ev_indexAddr ty_descOf_22, ty_szOf_38, ty_shapeT_38, hr, h2, e1, g0, g1, h1, h3, Int.le_refl, p1]
  · have e1 : ((l.length : Int) == 2) = false := by rw [beq_eq_false_iff_ne]; omega
    have e2 : decide (l = [a, b]) = false := decide_eq_false (fun h => hl (by rw [h]; rfl))
    rw [e2]
    simp only [go_sem, Nat.reduceLT, reduceIte, reduceCtorEq, Nat.reduceEqDiff, apply_ite (Option.map (outOf _)), Nat.reduceBEq, Nat.reduceAdd, Nat.reduceSub, Nat.reduceLeDiff, Nat.reduceMul, good_25, ev_len_sl ty_descOf_22, ev_indexAddr ty_descOf_22, ty_szOf_38, ty_shapeT_38, hr, h2, e1]

abbrev maysH (l : List Tok) (i : Nat) : St := { sl := upd (upd bot 3 (I i)) 0 (L (l.map Tok.enc)), bx := nobox, nt := 16 }

theorem mays_loop (l : List Tok) (hl : lenOk l.length) (hok : ∀ t ∈ l, I64 t.n ∧ t.text.length < 1000000000) : ∀ (rest : List Tok) (i : Nat), l.drop i = rest → i ≤ l.length →
    Ends (exL K 21 (.loop (loopAt Tryd.f21 2)) (maysH l i)) fun o S => (rest.all Tk.may = true ∧ o = .exit 0 ∧ S.nt = 16) ∨ (rest.all Tk.may = false ∧ o = .ret ∧ S.sl 2 = B false) := by
  intro rest
  induction rest with
  | nil =>
    intro i hd hi
    have hin : i = l.length := by
      have := List.drop_eq_nil_iff.1 hd
      omega
    subst hin
    conv in loopAt _ _ => whnf
    rw [exL_loop]
    simp only [go_sem, Nat.reduceLT, reduceIte, reduceCtorEq, Nat.reduceEqDiff, apply_ite (Option.map (outOf _)), Nat.reduceBEq, Nat.reduceAdd, Nat.reduceSub, Nat.reduceLeDiff, Nat.reduceMul, ev_len_sl ty_descOf_22, ev_indexAddr ty_descOf_22, ty_szOf_38, ty_shapeT_38, good_37, keep_21_2, ends_some]
  | cons x rest ih =>
    intro i hd hi
    obtain ⟨g1, g2, g3⟩ := drop_cons hd
    have hlt : decide ((i : Int) < (l.length : Int)) = true := decide_eq_true (by omega)
    have ga := enc_at l i x g1
    have hi2 : i < 9223372036854775807 := by unfold lenOk at hl; omega
    obtain ⟨h1, h2⟩ := hok x (List.mem_of_getElem? g1)
    have hm := May1_den x h1 h2
    simp only [Tok.cells] at hm
    have ih' := ih (i + 1) g2 (by omega)
    conv at ih' in loopAt _ _ => whnf
    conv in loopAt _ _ => whnf
    rw [exL_loop]
    cases hx : Tk.may x
    · rw [hx] at hm
      have hv : (x :: rest).all Tk.may = false := by rw [List.all_cons, hx]; rfl
      rw [hv]
      simp only [go_sem, Nat.reduceLT, reduceIte, reduceCtorEq, Nat.reduceEqDiff, apply_ite (Option.map (outOf _)), Nat.reduceBEq, Nat.reduceAdd, Nat.reduceSub, Nat.reduceLeDiff, Nat.reduceMul, ev_len_sl ty_descOf_22, ev_indexAddr ty_descOf_22, ty_szOf_38, ty_shapeT_38, good_37, keep_21_2, hlt, ga, hm, Int.natCast_nonneg, ends_some]
    · rw [hx] at hm
      have hv : (x :: rest).all Tk.may = rest.all Tk.may := by rw [List.all_cons, hx]; rfl
      rw [hv]
      simp only [go_sem, Nat.reduceLT, reduceIte, reduceCtorEq, Nat.reduceEqDiff, apply_ite (Option.map (outOf _)), Nat.reduceBEq, Nat.reduceAdd, Nat.reduceSub, Nat.reduceLeDiff, Nat.reduceMul, ev_len_sl ty_descOf_22, ev_indexAddr ty_descOf_22, ty_szOf_38, ty_shapeT_38, good_37, keep_21_2, hlt, ga, hm, Int.natCast_nonneg, wrap_nat i hi2]
      rw [exL_head]
      simp only [go_sem, Nat.reduceLT, reduceIte, reduceCtorEq, Nat.reduceEqDiff, apply_ite (Option.map (outOf _)), Nat.reduceBEq, Nat.reduceAdd, Nat.reduceSub, Nat.reduceLeDiff, Nat.reduceMul, ev_len_sl ty_descOf_22, ev_indexAddr ty_descOf_22, ty_szOf_38, ty_shapeT_38, good_37, keep_21_2]
      exact ih'

theorem Mays_den (l : List Tok) (hl : lenOk l.length) (hok : ∀ t ∈ l, I64 t.n ∧ t.text.length < 1000000000) : den K 21 [L (l.map Tok.enc)] [] = some (.ret (B (l.all Tk.may)) []) := by
  refine den_run rfl Tryd.func21 rfl Tryd.ntmps21 ⟨by simp, by simp [LK]⟩ ?_
  have hr : Tryd.f21.results = #[.tmp 2] := rfl
  have hlp := mays_loop l hl hok l 0 rfl (Nat.zero_le _)
  conv at hlp in loopAt _ _ => whnf
  obtain ⟨o, S', e2, h⟩ := hlp
  simp only [go_sem, Nat.reduceLT, reduceIte, reduceCtorEq, Nat.reduceEqDiff, apply_ite (Option.map (outOf _)), Nat.reduceBEq, Nat.reduceAdd, Nat.reduceSub, Nat.reduceLeDiff, Nat.reduceMul, ev_len_sl ty_descOf_22, ev_indexAddr ty_descOf_22, ty_szOf_38, ty_shapeT_38, good_37, keep_21_2]
  rw [exL_head]
  simp only [go_sem, Nat.reduceLT, reduceIte, reduceCtorEq, Nat.reduceEqDiff, apply_ite (Option.map (outOf _)), Nat.reduceBEq, Nat.reduceAdd, Nat.reduceSub, Nat.reduceLeDiff, Nat.reduceMul, ev_len_sl ty_descOf_22, ev_indexAddr ty_descOf_22, ty_szOf_38, ty_shapeT_38, good_37, keep_21_2]
  erw [e2]
  rcases h with ⟨h1, rfl, h2⟩ | ⟨h1, rfl, h2⟩
  · rw [h1]
    simp only [go_sem, Nat.reduceLT, reduceIte, reduceCtorEq, Nat.reduceEqDiff, apply_ite (Option.map (outOf _)), Nat.reduceBEq, Nat.reduceAdd, Nat.reduceSub, Nat.reduceLeDiff, Nat.reduceMul, ev_len_sl ty_descOf_22, ev_indexAddr ty_descOf_22, ty_szOf_38, ty_shapeT_38, good_37, keep_21_2, hr, h2]
  · rw [h1]
    simp only [go_sem, Nat.reduceLT, reduceIte, reduceCtorEq, Nat.reduceEqDiff, apply_ite (Option.map (outOf _)), Nat.reduceBEq, Nat.reduceAdd, Nat.reduceSub, Nat.reduceLeDiff, Nat.reduceMul, ev_len_sl ty_descOf_22, ev_indexAddr ty_descOf_22, ty_szOf_38, ty_shapeT_38, good_37, keep_21_2, hr, h2]
end Go.Abs
