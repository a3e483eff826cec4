/-
  WHAT THE FUNCTIONS COMPUTE, layer 1: tokens that are the same; lists of them.
  WHAT THE FUNCTIONS COMPUTE, layer 1: the tokens of a text.
  WHAT THE FUNCTIONS COMPUTE, layer 1: whether a token may be; whether something has to stand between two; the text of tokens.
-/
import Derived.Test.YtegabgmehebimaaDoorQI
import Derived.Test.YtegabgmehebimaaDoorQE
import Derived.Test.YtegabgmehebimaaDoorQSpecT5
set_option linter.unusedSimpArgs false
set_option linter.unusedVariables false
namespace Go.Abs
open Go Go.Proofs
set_option maxRecDepth 10000
attribute [local go_sem] exL_seq exL_region exL_cond exL_block exL_scope exL_ret exL_skip exL_exit runRegion runOps stepOp guardA absOp takeOver opd avOf cvOf St.degAt St.put okPV okVal okAV absBin intBin strBin boolBin setBoxes if_true Bool.false_eq_true if_false Option.map_some Option.map_none Option.bind_some Option.bind_none thenO outOf upd List.toList_toArray isOwn steal appArgs inApps AV.deg CV.deg AV.gv AV.isIter absNext some_bne List.length_nil List.length_cons List.filterMap_cons List.filterMap_nil beq_iff_eq List.getElem?_cons_zero List.getElem?_cons_succ Option.getD_some K_hook hookB Bool.false_and Bool.and_false Bool.and_self K_P K_own absCall doCall getBoxes lend back idx dedup AV.ren CV.ren TV.ren AV.ptrs CV.ptrs zipBox AV.flat CV.flat absLoad absStore cellsOfAV setAt newBox markB bldTypes absFieldAddr absField absExtract absAssert noAssert absMkIface ifcOf CV.pv? content pushHead ownT fillCells reps pvs chunks enterSt leave resOf resVars resVar outBoxes lentOnly TV.deg TV.av LK CV.plain CV.noBld nilBin absUn bound List.map_cons List.map_nil List.all_cons List.all_nil List.any_cons List.any_nil List.contains_cons List.contains_nil List.elem_cons List.elem_nil List.cons_append List.nil_append List.append_nil List.flatMap_cons List.flatMap_nil List.zip_cons_cons List.zip_nil_left List.zip_nil_right List.take_succ_cons List.take_zero List.take_nil List.drop_succ_cons List.drop_zero List.drop_nil List.isEmpty_nil List.isEmpty_cons Bool.and_true Bool.true_and Bool.or_true Bool.true_or Bool.or_false Bool.false_or Bool.not_true Bool.not_false Nat.add_zero Nat.zero_add Option.isNone_none Option.isNone_some Option.getD_none true_and and_true not_true_eq_false not_false_eq_true decide_true decide_false Nat.le_refl and_self Bool.not_eq_true Nat.sub_self or_true true_or Option.some.injEq List.length_map List.nil_eq and_false false_and AV.live CV.live CV.liveIn K_keep firstReg Option.orElse_some Option.orElse_none head keepSlots keepBoxes Int.lt_irrefl List.length_append ite_self memOK logOps opKey lentBoxes Key.clash Key.sees Key.writes Nat.lt_irrefl gt_iff_lt nobox_at bot_at false_or or_false beq_self_eq_true Bool.true_beq Bool.false_beq

theorem tok_eq (k k' n n' : Int) (t t' : List UInt8) : structEq Tryd.prog 38 [.int .i64 k, .str t, .int .i64 n] [.int .i64 k', .str t', .int .i64 n'] = some ((k == k') && ((t == t') && ((n == n') && true))) := by kernel_rfl
theorem tok_beq (a b : Tok) : ((a.kind == b.kind) && ((a.text == b.text) && ((a.n == b.n) && true))) = decide (a = b) := by
  obtain ⟨k, t, n⟩ := a
  obtain ⟨k', t', n'⟩ := b
  rw [Bool.eq_iff_iff, decide_eq_true_eq]
  simp [Tok.mk.injEq]

/-- what a list's length may be -/
def lenOk (n : Nat) : Prop := n < 9000000000000000000

theorem enc_at (l : List Tok) (i : Nat) (t : Tok) (h : l[i]? = some t) : (l.map Tok.enc)[(i : Int).toNat]? = some [.int .i64 t.kind, .str t.text, .int .i64 t.n] := by
  simp [h, Tok.enc]

abbrev sameH (a b : List Tok) (i : Nat) : St := { sl := upd (upd (upd bot 5 (I i)) 1 (L (b.map Tok.enc))) 0 (L (a.map Tok.enc)), bx := nobox, nt := 26 }

theorem same_loop (a b : List Tok) (hab : a.length = b.length) (ha : lenOk a.length) : ∀ (ra rb : List Tok) (i : Nat), a.drop i = ra → b.drop i = rb → i ≤ a.length →
    Ends (exL K 14 (.loop (loopAt Tryd.f14 4)) (sameH a b i)) fun o S => (ra = rb ∧ o = .exit 0 ∧ S.nt = 26) ∨ (ra ≠ rb ∧ o = .ret ∧ S.sl 4 = B false) := by
  intro ra
  induction ra with
  | nil =>
    intro rb i hda hdb hi
    have hin : i = a.length := by
      have := List.drop_eq_nil_iff.1 hda
      omega
    obtain rfl : rb = [] := by rw [← hdb, hin, hab, List.drop_length]
    subst hin
    conv in loopAt _ _ => whnf
    rw [exL_loop]
    simp only [go_sem, Nat.reduceLT, reduceIte, reduceCtorEq, Nat.reduceEqDiff, apply_ite (Option.map (outOf _)), Nat.reduceBEq, Nat.reduceAdd, Nat.reduceSub, Nat.reduceLeDiff, Nat.reduceMul, ev_len_sl ty_descOf_22, ev_indexAddr ty_descOf_22, ty_szOf_38, ty_shapeT_38, keep_14_4, ends_some]
  | cons x ra ih =>
    intro rb i hda hdb hi
    obtain ⟨g1, g2, g3⟩ := drop_cons hda
    cases rb with
    | nil =>
      have := List.drop_eq_nil_iff.1 hdb
      omega
    | cons y rb =>
      obtain ⟨k1, k2, k3⟩ := drop_cons hdb
      have hlt : decide ((i : Int) < (a.length : Int)) = true := decide_eq_true (by omega)
      have ga := enc_at a i x g1
      have gb := enc_at b i y k1
      have hi2 : i < 9223372036854775807 := by unfold lenOk at ha; omega
      have heq := tok_eq x.kind y.kind x.n y.n x.text y.text
      rw [tok_beq] at heq
      have ih' := ih rb (i + 1) g2 k2 (by omega)
      conv at ih' in loopAt _ _ => whnf
      conv in loopAt _ _ => whnf
      rw [exL_loop]
      by_cases hxy : x = y
      · rw [decide_eq_true hxy] at heq
        have hv : (x :: ra = y :: rb) = (ra = rb) := by simp [hxy]
        have hv2 : (x :: ra ≠ y :: rb) = (ra ≠ rb) := by simp [hxy]
        rw [hv, hv2]
        simp only [go_sem, Nat.reduceLT, reduceIte, reduceCtorEq, Nat.reduceEqDiff, apply_ite (Option.map (outOf _)), Nat.reduceBEq, Nat.reduceAdd, Nat.reduceSub, Nat.reduceLeDiff, Nat.reduceMul, ev_len_sl ty_descOf_22, ev_indexAddr ty_descOf_22, ty_szOf_38, ty_shapeT_38, keep_14_4, hlt, ga, gb, heq, Int.natCast_nonneg, wrap_nat i hi2]
        rw [exL_head]
        simp only [go_sem, Nat.reduceLT, reduceIte, reduceCtorEq, Nat.reduceEqDiff, apply_ite (Option.map (outOf _)), Nat.reduceBEq, Nat.reduceAdd, Nat.reduceSub, Nat.reduceLeDiff, Nat.reduceMul, ev_len_sl ty_descOf_22, ev_indexAddr ty_descOf_22, ty_szOf_38, ty_shapeT_38, keep_14_4]
        exact ih'
      · rw [decide_eq_false hxy] at heq
        have hv : (x :: ra = y :: rb) = False := by simp [hxy]
        have hv2 : (x :: ra ≠ y :: rb) = True := by simp [hxy]
        rw [hv, hv2]
        simp only [go_sem, Nat.reduceLT, reduceIte, reduceCtorEq, Nat.reduceEqDiff, apply_ite (Option.map (outOf _)), Nat.reduceBEq, Nat.reduceAdd, Nat.reduceSub, Nat.reduceLeDiff, Nat.reduceMul, ev_len_sl ty_descOf_22, ev_indexAddr ty_descOf_22, ty_szOf_38, ty_shapeT_38, keep_14_4, hlt, ga, gb, heq, Int.natCast_nonneg, ends_some]

theorem Same_den (a b : List Tok) (ha : lenOk a.length) (hb : lenOk b.length) : den K 14 [L (a.map Tok.enc), L (b.map Tok.enc)] [] = some (.ret (B (decide (a = b))) []) := by
  refine den_run rfl Tryd.func14 rfl Tryd.ntmps14 ⟨by simp, by simp [LK]⟩ ?_
  have hr : Tryd.f14.results = #[.tmp 4] := rfl
  by_cases hab : a.length = b.length
  · have e : ((a.length : Int) != (b.length : Int)) = false := by rw [hab]; simp
    have hl := same_loop a b hab ha a b 0 rfl rfl (by omega)
    conv at hl in loopAt _ _ => whnf
    obtain ⟨o, S', e2, h⟩ := hl
    simp only [go_sem, Nat.reduceLT, reduceIte, reduceCtorEq, Nat.reduceEqDiff, apply_ite (Option.map (outOf _)), Nat.reduceBEq, Nat.reduceAdd, Nat.reduceSub, Nat.reduceLeDiff, Nat.reduceMul, ev_len_sl ty_descOf_22, ev_indexAddr ty_descOf_22, ty_szOf_38, ty_shapeT_38, keep_14_4, e]
    rw [exL_head]
    simp only [go_sem, Nat.reduceLT, reduceIte, reduceCtorEq, Nat.reduceEqDiff, apply_ite (Option.map (outOf _)), Nat.reduceBEq, Nat.reduceAdd, Nat.reduceSub, Nat.reduceLeDiff, Nat.reduceMul, ev_len_sl ty_descOf_22, ev_indexAddr ty_descOf_22, ty_szOf_38, ty_shapeT_38, keep_14_4]
    erw [e2]
    rcases h with ⟨h1, rfl, h2⟩ | ⟨h1, rfl, h2⟩
    · rw [decide_eq_true h1]
      simp only [go_sem, Nat.reduceLT, reduceIte, reduceCtorEq, Nat.reduceEqDiff, apply_ite (Option.map (outOf _)), Nat.reduceBEq, Nat.reduceAdd, Nat.reduceSub, Nat.reduceLeDiff, Nat.reduceMul, ev_len_sl ty_descOf_22, ev_indexAddr ty_descOf_22, ty_szOf_38, ty_shapeT_38, keep_14_4, hr, h2]
    · rw [decide_eq_false h1]
      simp only [go_sem, Nat.reduceLT, reduceIte, reduceCtorEq, Nat.reduceEqDiff, apply_ite (Option.map (outOf _)), Nat.reduceBEq, Nat.reduceAdd, Nat.reduceSub, Nat.reduceLeDiff, Nat.reduceMul, ev_len_sl ty_descOf_22, ev_indexAddr ty_descOf_22, ty_szOf_38, ty_shapeT_38, keep_14_4, hr, h2]
  · have e : ((a.length : Int) != (b.length : Int)) = true := by rw [bne_iff_ne]; omega
    have hne : a ≠ b := fun h => hab (by rw [h])
    rw [decide_eq_false hne]
    simp only [go_sem, Nat.reduceLT, reduceIte, reduceCtorEq, Nat.reduceEqDiff, apply_ite (Option.map (outOf _)), Nat.reduceBEq, Nat.reduceAdd, Nat.reduceSub, Nat.reduceLeDiff, Nat.reduceMul, ev_len_sl ty_descOf_22, ev_indexAddr ty_descOf_22, ty_szOf_38, ty_shapeT_38, keep_14_4, hr, e]

def smallT (l : List Tok) (most : Int) : Bool := l.all (fun t => decide (t.text.length ≤ 100)) && decide ((l.length : Int) ≤ most)

abbrev smallTH (l : List Tok) (m : Int) (i : Nat) : St := { sl := upd (upd (upd bot 5 (I i)) 1 (I m)) 0 (L (l.map Tok.enc)), bx := nobox, nt := 23 }

theorem smallT_loop (l : List Tok) (m : Int) (hl : lenOk l.length) : ∀ (rest : List Tok) (i : Nat), l.drop i = rest → i ≤ l.length →
    Ends (exL K 8 (.loop (loopAt Tryd.f8 2)) (smallTH l m i)) fun o S => (rest.all (fun t => decide (t.text.length ≤ 100)) = true ∧ o = .exit 0 ∧ S.nt = 23 ∧ S.sl 0 = L (l.map Tok.enc) ∧ S.sl 1 = I m) ∨ (rest.all (fun t => decide (t.text.length ≤ 100)) = false ∧ o = .ret ∧ S.sl 4 = B false) := by
  intro rest
  induction rest with
  | nil =>
    intro i hd hi
    have hin : i = l.length := by
      have := List.drop_eq_nil_iff.1 hd
      omega
    subst hin
    conv in loopAt _ _ => whnf
    rw [exL_loop]
    simp only [go_sem, Nat.reduceLT, reduceIte, reduceCtorEq, Nat.reduceEqDiff, apply_ite (Option.map (outOf _)), Nat.reduceBEq, Nat.reduceAdd, Nat.reduceSub, Nat.reduceLeDiff, Nat.reduceMul, ev_len_sl ty_descOf_22, ev_indexAddr ty_descOf_22, ty_szOf_38, ty_fieldOff_38_1, ty_szOf_9, ty_shapeT_9, ev_len_str ty_descOf_9, keep_8_2, ends_some]
  | cons x rest ih =>
    intro i hd hi
    obtain ⟨g1, g2, g3⟩ := drop_cons hd
    have hlt : decide ((i : Int) < (l.length : Int)) = true := decide_eq_true (by omega)
    have ga := enc_at l i x g1
    have hi2 : i < 9223372036854775807 := by unfold lenOk at hl; omega
    have ih' := ih (i + 1) g2 (by omega)
    conv at ih' in loopAt _ _ => whnf
    conv in loopAt _ _ => whnf
    rw [exL_loop]
    by_cases hx : x.text.length ≤ 100
    · have e : decide ((100 : Int) < (x.text.length : Int)) = false := decide_eq_false (by omega)
      have hv : (x :: rest).all (fun t => decide (t.text.length ≤ 100)) = rest.all (fun t => decide (t.text.length ≤ 100)) := by simp [hx]
      rw [hv]
      simp only [go_sem, Nat.reduceLT, reduceIte, reduceCtorEq, Nat.reduceEqDiff, apply_ite (Option.map (outOf _)), Nat.reduceBEq, Nat.reduceAdd, Nat.reduceSub, Nat.reduceLeDiff, Nat.reduceMul, ev_len_sl ty_descOf_22, ev_indexAddr ty_descOf_22, ty_szOf_38, ty_fieldOff_38_1, ty_szOf_9, ty_shapeT_9, ev_len_str ty_descOf_9, keep_8_2, hlt, ga, e, Int.natCast_nonneg, wrap_nat i hi2]
      rw [exL_head]
      simp only [go_sem, Nat.reduceLT, reduceIte, reduceCtorEq, Nat.reduceEqDiff, apply_ite (Option.map (outOf _)), Nat.reduceBEq, Nat.reduceAdd, Nat.reduceSub, Nat.reduceLeDiff, Nat.reduceMul, ev_len_sl ty_descOf_22, ev_indexAddr ty_descOf_22, ty_szOf_38, ty_fieldOff_38_1, ty_szOf_9, ty_shapeT_9, ev_len_str ty_descOf_9, keep_8_2]
      exact ih'
    · have e : decide ((100 : Int) < (x.text.length : Int)) = true := decide_eq_true (by omega)
      have hv : (x :: rest).all (fun t => decide (t.text.length ≤ 100)) = false := by
        rw [List.all_cons, decide_eq_false hx]; rfl
      rw [hv]
      simp only [go_sem, Nat.reduceLT, reduceIte, reduceCtorEq, Nat.reduceEqDiff, apply_ite (Option.map (outOf _)), Nat.reduceBEq, Nat.reduceAdd, Nat.reduceSub, Nat.reduceLeDiff, Nat.reduceMul, ev_len_sl ty_descOf_22, ev_indexAddr ty_descOf_22, ty_szOf_38, ty_fieldOff_38_1, ty_szOf_9, ty_shapeT_9, ev_len_str ty_descOf_9, keep_8_2, hlt, ga, e, Int.natCast_nonneg, ends_some]

theorem SmallT_den (l : List Tok) (m : Int) (hl : lenOk l.length) : den K 8 [L (l.map Tok.enc), I m] [] = some (.ret (B (smallT l m)) []) := by
  refine den_run rfl Tryd.func8 rfl Tryd.ntmps8 ⟨by simp, by simp [LK]⟩ ?_
  have hr : Tryd.f8.results = #[.tmp 4] := rfl
  have hlp := smallT_loop l m hl l 0 rfl (by omega)
  conv at hlp in loopAt _ _ => whnf
  obtain ⟨o, S', e2, h⟩ := hlp
  simp only [go_sem, Nat.reduceLT, reduceIte, reduceCtorEq, Nat.reduceEqDiff, apply_ite (Option.map (outOf _)), Nat.reduceBEq, Nat.reduceAdd, Nat.reduceSub, Nat.reduceLeDiff, Nat.reduceMul, ev_len_sl ty_descOf_22, ev_indexAddr ty_descOf_22, ty_szOf_38, ty_fieldOff_38_1, ty_szOf_9, ty_shapeT_9, ev_len_str ty_descOf_9, keep_8_2]
  rw [exL_head]
  simp only [go_sem, Nat.reduceLT, reduceIte, reduceCtorEq, Nat.reduceEqDiff, apply_ite (Option.map (outOf _)), Nat.reduceBEq, Nat.reduceAdd, Nat.reduceSub, Nat.reduceLeDiff, Nat.reduceMul, ev_len_sl ty_descOf_22, ev_indexAddr ty_descOf_22, ty_szOf_38, ty_fieldOff_38_1, ty_szOf_9, ty_shapeT_9, ev_len_str ty_descOf_9, keep_8_2]
  erw [e2]
  unfold smallT
  rcases h with ⟨h1, rfl, h2, h3, h4⟩ | ⟨h1, rfl, h2⟩
  · rw [h1, Bool.true_and]
    simp only [go_sem, Nat.reduceLT, reduceIte, reduceCtorEq, Nat.reduceEqDiff, apply_ite (Option.map (outOf _)), Nat.reduceBEq, Nat.reduceAdd, Nat.reduceSub, Nat.reduceLeDiff, Nat.reduceMul, ev_len_sl ty_descOf_22, ev_indexAddr ty_descOf_22, ty_szOf_38, ty_fieldOff_38_1, ty_szOf_9, ty_shapeT_9, ev_len_str ty_descOf_9, keep_8_2, hr, h2, h3, h4]
  · rw [h1, Bool.false_and]
    simp only [go_sem, Nat.reduceLT, reduceIte, reduceCtorEq, Nat.reduceEqDiff, apply_ite (Option.map (outOf _)), Nat.reduceBEq, Nat.reduceAdd, Nat.reduceSub, Nat.reduceLeDiff, Nat.reduceMul, ev_len_sl ty_descOf_22, ev_indexAddr ty_descOf_22, ty_szOf_38, ty_fieldOff_38_1, ty_szOf_9, ty_shapeT_9, ev_len_str ty_descOf_9, keep_8_2, hr, h2]
end Go.Abs

namespace Go.Abs
open Go Go.Proofs
set_option maxRecDepth 10000

theorem step_own {x : TS} {et : Nat} {ct : List (List PV)} (hx : x.cell = .own et ct) (o : Option Tok) : ∃ et' ct', (stepTS x o).cell = .own et' ct' ∧ (stepTS x o).toks = x.toks ++ o.toList := by
  cases o with
  | none => exact ⟨et, ct, hx, by simp [stepTS]⟩
  | some t => exact ⟨_, _, rfl, rfl⟩
theorem own_toks {x : TS} {et : Nat} {ct : List (List PV)} (hx : x.cell = .own et ct) : ct = x.toks.map Tok.enc := by
  cases x with
  | nils => cases hx
  | live => cases hx; rfl
  | wr l => cases hx; rfl

abbrev allH (s : List UInt8) (et : Nat) (ct : List (List PV)) : St := { sl := upd bot 3 (.c (.loc 6 0)), bx := upd nobox 6 (some [.pv (.str s), .own et ct]), nt := 19 }

theorem all_loop : ∀ (s : List UInt8), s.length < 4000000000 → ∀ (x : TS) (et : Nat) (ct : List (List PV)), x.cell = .own et ct → x.toks.length + s.length < 4000000000 →
    Ends (exL K 57 (.loop (loopAt Tryd.f57 2)) (allH s et ct)) fun o S => o = .exit 0 ∧ S.nt = 19 ∧ S.sl 3 = .c (.loc 6 0) ∧ ∃ et', S.bx 6 = some [.pv (.str []), .own et' ((x.toks ++ Tk.all s).map Tok.enc)] := by
  refine Tk.all_ind (Q := fun s => s.length < 4000000000 → ∀ (x : TS) (et : Nat) (ct : List (List PV)), x.cell = .own et ct → x.toks.length + s.length < 4000000000 →
    Ends (exL K 57 (.loop (loopAt Tryd.f57 2)) (allH s et ct)) fun o S => o = .exit 0 ∧ S.nt = 19 ∧ S.sl 3 = .c (.loc 6 0) ∧ ∃ et', S.bx 6 = some [.pv (.str []), .own et' ((x.toks ++ Tk.all s).map Tok.enc)]) ?_ ?_
  · intro _ x et ct hx _
    have hct := own_toks hx
    have hlt : decide ((0 : Int) < ((0 : Nat) : Int)) = false := by decide
    rw [Tk.all_nil, List.append_nil, ← hct]
    conv in loopAt _ _ => whnf
    rw [exL_loop]
    simp only [exL_seq, exL_region, exL_cond, exL_block, exL_scope, exL_ret, exL_skip, exL_exit, runRegion, runOps, stepOp, guardA, absOp, takeOver, opd, avOf, cvOf, St.degAt, St.put, okPV, okVal, okAV, absBin, intBin, strBin, boolBin, setBoxes, if_true, Bool.false_eq_true, if_false, Option.map_some, Option.map_none, Option.bind_some, Option.bind_none, thenO, outOf, upd, List.toList_toArray, isOwn, steal, appArgs, inApps, AV.deg, CV.deg, AV.gv, AV.isIter, absNext, some_bne, Nat.reduceLT, reduceIte, reduceCtorEq, Nat.reduceEqDiff, List.length_nil, List.length_cons, apply_ite (Option.map (outOf _)), List.filterMap_cons, List.filterMap_nil, beq_iff_eq, List.getElem?_cons_zero, List.getElem?_cons_succ, Option.getD_some, K_hook, hookB, Nat.reduceBEq, Bool.false_and, Bool.and_false, Bool.and_self, K_P, K_own, absCall, doCall, getBoxes, lend, back, idx, dedup, AV.ren, CV.ren, TV.ren, AV.ptrs, CV.ptrs, zipBox, AV.flat, CV.flat, absLoad, absStore, cellsOfAV, setAt, newBox, markB, bldTypes, absFieldAddr, absField, absExtract, absAssert, noAssert, absMkIface, ifcOf, CV.pv?, content, pushHead, ownT, fillCells, reps, pvs, chunks, enterSt, leave, resOf, resVars, resVar, outBoxes, lentOnly, TV.deg, TV.av, LK, CV.plain, CV.noBld, nilBin, absUn, bound, List.map_cons, List.map_nil, List.all_cons, List.all_nil, List.any_cons, List.any_nil, List.contains_cons, List.contains_nil, List.elem_cons, List.elem_nil, List.cons_append, List.nil_append, List.append_nil, List.flatMap_cons, List.flatMap_nil, List.zip_cons_cons, List.zip_nil_left, List.zip_nil_right, List.take_succ_cons, List.take_zero, List.take_nil, List.drop_succ_cons, List.drop_zero, List.drop_nil, List.isEmpty_nil, List.isEmpty_cons, Bool.and_true, Bool.true_and, Bool.or_true, Bool.true_or, Bool.or_false, Bool.false_or, Bool.not_true, Bool.not_false, Nat.reduceAdd, Nat.reduceSub, Nat.reduceLeDiff, Nat.add_zero, Nat.zero_add, Nat.reduceMul, Option.isNone_none, Option.isNone_some, Option.getD_none, true_and, and_true, not_true_eq_false, not_false_eq_true, decide_true, decide_false, List.toList_toArray, Nat.le_refl, and_self, Bool.not_eq_true, Nat.sub_self, or_true, true_or, Option.some.injEq, List.length_map, List.nil_eq, and_false, false_and, AV.live, CV.live, CV.liveIn, K_keep, firstReg, Option.orElse_some, Option.orElse_none, head, keepSlots, keepBoxes, Int.lt_irrefl, List.length_append, ite_self, memOK, logOps, opKey, lentBoxes, Key.clash, Key.sees, Key.writes, Nat.lt_irrefl, gt_iff_lt, nobox_at, bot_at, false_or, or_false, beq_self_eq_true, Bool.true_beq, Bool.false_beq, ev_build ty_zeroCells_84 ty_placesOf_84, ty_fieldOff_84_0, ty_szOf_82, ty_shapeT_82, ev_len_str ty_descOf_82, good_60, ty_fieldOff_84_1, ty_szOf_22, ty_shapeT_22, keep_57_2, ends_some, hlt]
    exact ⟨_, rfl⟩
  · intro c r ih hs x et ct hx hl
    have hp := Tk.step_pos c r
    have hle := Tk.step_le c r
    have hn := next_den (c :: r) c r x et ct hx rfl hs (by omega)
    obtain ⟨et2, ct2, h2, h3⟩ := step_own hx (Tk.step c r).1
    have ho : ((Tk.step c r).1.toList).length ≤ 1 := by cases (Tk.step c r).1 <;> simp
    have ih' := ih (by rw [List.length_drop]; omega) (stepTS x (Tk.step c r).1) et2 ct2 h2 (by rw [h3, List.length_append, List.length_drop]; omega)
    rw [h3, List.append_assoc, ← Tk.all_cons] at ih'
    have hlt : decide ((0 : Int) < ((c :: r).length : Int)) = true := decide_eq_true (by simp only [List.length_cons]; omega)
    simp only [scan, h2] at hn
    generalize c :: r = s at hn ih' hlt
    conv at ih' in loopAt _ _ => whnf
    conv in loopAt _ _ => whnf
    rw [exL_loop]
    simp only [exL_seq, exL_region, exL_cond, exL_block, exL_scope, exL_ret, exL_skip, exL_exit, runRegion, runOps, stepOp, guardA, absOp, takeOver, opd, avOf, cvOf, St.degAt, St.put, okPV, okVal, okAV, absBin, intBin, strBin, boolBin, setBoxes, if_true, Bool.false_eq_true, if_false, Option.map_some, Option.map_none, Option.bind_some, Option.bind_none, thenO, outOf, upd, List.toList_toArray, isOwn, steal, appArgs, inApps, AV.deg, CV.deg, AV.gv, AV.isIter, absNext, some_bne, Nat.reduceLT, reduceIte, reduceCtorEq, Nat.reduceEqDiff, List.length_nil, List.length_cons, apply_ite (Option.map (outOf _)), List.filterMap_cons, List.filterMap_nil, beq_iff_eq, List.getElem?_cons_zero, List.getElem?_cons_succ, Option.getD_some, K_hook, hookB, Nat.reduceBEq, Bool.false_and, Bool.and_false, Bool.and_self, K_P, K_own, absCall, doCall, getBoxes, lend, back, idx, dedup, AV.ren, CV.ren, TV.ren, AV.ptrs, CV.ptrs, zipBox, AV.flat, CV.flat, absLoad, absStore, cellsOfAV, setAt, newBox, markB, bldTypes, absFieldAddr, absField, absExtract, absAssert, noAssert, absMkIface, ifcOf, CV.pv?, content, pushHead, ownT, fillCells, reps, pvs, chunks, enterSt, leave, resOf, resVars, resVar, outBoxes, lentOnly, TV.deg, TV.av, LK, CV.plain, CV.noBld, nilBin, absUn, bound, List.map_cons, List.map_nil, List.all_cons, List.all_nil, List.any_cons, List.any_nil, List.contains_cons, List.contains_nil, List.elem_cons, List.elem_nil, List.cons_append, List.nil_append, List.append_nil, List.flatMap_cons, List.flatMap_nil, List.zip_cons_cons, List.zip_nil_left, List.zip_nil_right, List.take_succ_cons, List.take_zero, List.take_nil, List.drop_succ_cons, List.drop_zero, List.drop_nil, List.isEmpty_nil, List.isEmpty_cons, Bool.and_true, Bool.true_and, Bool.or_true, Bool.true_or, Bool.or_false, Bool.false_or, Bool.not_true, Bool.not_false, Nat.reduceAdd, Nat.reduceSub, Nat.reduceLeDiff, Nat.add_zero, Nat.zero_add, Nat.reduceMul, Option.isNone_none, Option.isNone_some, Option.getD_none, true_and, and_true, not_true_eq_false, not_false_eq_true, decide_true, decide_false, List.toList_toArray, Nat.le_refl, and_self, Bool.not_eq_true, Nat.sub_self, or_true, true_or, Option.some.injEq, List.length_map, List.nil_eq, and_false, false_and, AV.live, CV.live, CV.liveIn, K_keep, firstReg, Option.orElse_some, Option.orElse_none, head, keepSlots, keepBoxes, Int.lt_irrefl, List.length_append, ite_self, memOK, logOps, opKey, lentBoxes, Key.clash, Key.sees, Key.writes, Nat.lt_irrefl, gt_iff_lt, nobox_at, bot_at, false_or, or_false, beq_self_eq_true, Bool.true_beq, Bool.false_beq, ev_build ty_zeroCells_84 ty_placesOf_84, ty_fieldOff_84_0, ty_szOf_82, ty_shapeT_82, ev_len_str ty_descOf_82, good_60, ty_fieldOff_84_1, ty_szOf_22, ty_shapeT_22, keep_57_2, hlt, hn]
    rw [exL_head]
    simp only [exL_seq, exL_region, exL_cond, exL_block, exL_scope, exL_ret, exL_skip, exL_exit, runRegion, runOps, stepOp, guardA, absOp, takeOver, opd, avOf, cvOf, St.degAt, St.put, okPV, okVal, okAV, absBin, intBin, strBin, boolBin, setBoxes, if_true, Bool.false_eq_true, if_false, Option.map_some, Option.map_none, Option.bind_some, Option.bind_none, thenO, outOf, upd, List.toList_toArray, isOwn, steal, appArgs, inApps, AV.deg, CV.deg, AV.gv, AV.isIter, absNext, some_bne, Nat.reduceLT, reduceIte, reduceCtorEq, Nat.reduceEqDiff, List.length_nil, List.length_cons, apply_ite (Option.map (outOf _)), List.filterMap_cons, List.filterMap_nil, beq_iff_eq, List.getElem?_cons_zero, List.getElem?_cons_succ, Option.getD_some, K_hook, hookB, Nat.reduceBEq, Bool.false_and, Bool.and_false, Bool.and_self, K_P, K_own, absCall, doCall, getBoxes, lend, back, idx, dedup, AV.ren, CV.ren, TV.ren, AV.ptrs, CV.ptrs, zipBox, AV.flat, CV.flat, absLoad, absStore, cellsOfAV, setAt, newBox, markB, bldTypes, absFieldAddr, absField, absExtract, absAssert, noAssert, absMkIface, ifcOf, CV.pv?, content, pushHead, ownT, fillCells, reps, pvs, chunks, enterSt, leave, resOf, resVars, resVar, outBoxes, lentOnly, TV.deg, TV.av, LK, CV.plain, CV.noBld, nilBin, absUn, bound, List.map_cons, List.map_nil, List.all_cons, List.all_nil, List.any_cons, List.any_nil, List.contains_cons, List.contains_nil, List.elem_cons, List.elem_nil, List.cons_append, List.nil_append, List.append_nil, List.flatMap_cons, List.flatMap_nil, List.zip_cons_cons, List.zip_nil_left, List.zip_nil_right, List.take_succ_cons, List.take_zero, List.take_nil, List.drop_succ_cons, List.drop_zero, List.drop_nil, List.isEmpty_nil, List.isEmpty_cons, Bool.and_true, Bool.true_and, Bool.or_true, Bool.true_or, Bool.or_false, Bool.false_or, Bool.not_true, Bool.not_false, Nat.reduceAdd, Nat.reduceSub, Nat.reduceLeDiff, Nat.add_zero, Nat.zero_add, Nat.reduceMul, Option.isNone_none, Option.isNone_some, Option.getD_none, true_and, and_true, not_true_eq_false, not_false_eq_true, decide_true, decide_false, List.toList_toArray, Nat.le_refl, and_self, Bool.not_eq_true, Nat.sub_self, or_true, true_or, Option.some.injEq, List.length_map, List.nil_eq, and_false, false_and, AV.live, CV.live, CV.liveIn, K_keep, firstReg, Option.orElse_some, Option.orElse_none, head, keepSlots, keepBoxes, Int.lt_irrefl, List.length_append, ite_self, memOK, logOps, opKey, lentBoxes, Key.clash, Key.sees, Key.writes, Nat.lt_irrefl, gt_iff_lt, nobox_at, bot_at, false_or, or_false, beq_self_eq_true, Bool.true_beq, Bool.false_beq, ev_build ty_zeroCells_84 ty_placesOf_84, ty_fieldOff_84_0, ty_szOf_82, ty_shapeT_82, ev_len_str ty_descOf_82, good_60, ty_fieldOff_84_1, ty_szOf_22, ty_shapeT_22, keep_57_2]
    exact ih'

theorem All_den (s : List UInt8) (hs : s.length < 4000000000) : den K 57 [T s] [] = some (.ret (L ((Tk.all s).map Tok.enc)) []) := by
  refine den_run rfl Tryd.func57 rfl Tryd.ntmps57 ⟨by simp, by simp [LK]⟩ ?_
  have hr : Tryd.f57.results = #[.tmp 2] := rfl
  have hl := all_loop s hs .live 0 [] rfl (by simp [TS.toks]; omega)
  conv at hl in loopAt _ _ => whnf
  obtain ⟨o, S', e2, rfl, hn, h3, et', hb⟩ := hl
  simp only [TS.toks, List.nil_append] at hb
  simp only [exL_seq, exL_region, exL_cond, exL_block, exL_scope, exL_ret, exL_skip, exL_exit, runRegion, runOps, stepOp, guardA, absOp, takeOver, opd, avOf, cvOf, St.degAt, St.put, okPV, okVal, okAV, absBin, intBin, strBin, boolBin, setBoxes, if_true, Bool.false_eq_true, if_false, Option.map_some, Option.map_none, Option.bind_some, Option.bind_none, thenO, outOf, upd, List.toList_toArray, isOwn, steal, appArgs, inApps, AV.deg, CV.deg, AV.gv, AV.isIter, absNext, some_bne, Nat.reduceLT, reduceIte, reduceCtorEq, Nat.reduceEqDiff, List.length_nil, List.length_cons, apply_ite (Option.map (outOf _)), List.filterMap_cons, List.filterMap_nil, beq_iff_eq, List.getElem?_cons_zero, List.getElem?_cons_succ, Option.getD_some, K_hook, hookB, Nat.reduceBEq, Bool.false_and, Bool.and_false, Bool.and_self, K_P, K_own, absCall, doCall, getBoxes, lend, back, idx, dedup, AV.ren, CV.ren, TV.ren, AV.ptrs, CV.ptrs, zipBox, AV.flat, CV.flat, absLoad, absStore, cellsOfAV, setAt, newBox, markB, bldTypes, absFieldAddr, absField, absExtract, absAssert, noAssert, absMkIface, ifcOf, CV.pv?, content, pushHead, ownT, fillCells, reps, pvs, chunks, enterSt, leave, resOf, resVars, resVar, outBoxes, lentOnly, TV.deg, TV.av, LK, CV.plain, CV.noBld, nilBin, absUn, bound, List.map_cons, List.map_nil, List.all_cons, List.all_nil, List.any_cons, List.any_nil, List.contains_cons, List.contains_nil, List.elem_cons, List.elem_nil, List.cons_append, List.nil_append, List.append_nil, List.flatMap_cons, List.flatMap_nil, List.zip_cons_cons, List.zip_nil_left, List.zip_nil_right, List.take_succ_cons, List.take_zero, List.take_nil, List.drop_succ_cons, List.drop_zero, List.drop_nil, List.isEmpty_nil, List.isEmpty_cons, Bool.and_true, Bool.true_and, Bool.or_true, Bool.true_or, Bool.or_false, Bool.false_or, Bool.not_true, Bool.not_false, Nat.reduceAdd, Nat.reduceSub, Nat.reduceLeDiff, Nat.add_zero, Nat.zero_add, Nat.reduceMul, Option.isNone_none, Option.isNone_some, Option.getD_none, true_and, and_true, not_true_eq_false, not_false_eq_true, decide_true, decide_false, List.toList_toArray, Nat.le_refl, and_self, Bool.not_eq_true, Nat.sub_self, or_true, true_or, Option.some.injEq, List.length_map, List.nil_eq, and_false, false_and, AV.live, CV.live, CV.liveIn, K_keep, firstReg, Option.orElse_some, Option.orElse_none, head, keepSlots, keepBoxes, Int.lt_irrefl, List.length_append, ite_self, memOK, logOps, opKey, lentBoxes, Key.clash, Key.sees, Key.writes, Nat.lt_irrefl, gt_iff_lt, nobox_at, bot_at, false_or, or_false, beq_self_eq_true, Bool.true_beq, Bool.false_beq, ev_build ty_zeroCells_84 ty_placesOf_84, ty_fieldOff_84_0, ty_szOf_82, ty_shapeT_82, ev_len_str ty_descOf_82, good_60, ty_fieldOff_84_1, ty_szOf_22, ty_shapeT_22, keep_57_2]
  rw [exL_head]
  simp only [exL_seq, exL_region, exL_cond, exL_block, exL_scope, exL_ret, exL_skip, exL_exit, runRegion, runOps, stepOp, guardA, absOp, takeOver, opd, avOf, cvOf, St.degAt, St.put, okPV, okVal, okAV, absBin, intBin, strBin, boolBin, setBoxes, if_true, Bool.false_eq_true, if_false, Option.map_some, Option.map_none, Option.bind_some, Option.bind_none, thenO, outOf, upd, List.toList_toArray, isOwn, steal, appArgs, inApps, AV.deg, CV.deg, AV.gv, AV.isIter, absNext, some_bne, Nat.reduceLT, reduceIte, reduceCtorEq, Nat.reduceEqDiff, List.length_nil, List.length_cons, apply_ite (Option.map (outOf _)), List.filterMap_cons, List.filterMap_nil, beq_iff_eq, List.getElem?_cons_zero, List.getElem?_cons_succ, Option.getD_some, K_hook, hookB, Nat.reduceBEq, Bool.false_and, Bool.and_false, Bool.and_self, K_P, K_own, absCall, doCall, getBoxes, lend, back, idx, dedup, AV.ren, CV.ren, TV.ren, AV.ptrs, CV.ptrs, zipBox, AV.flat, CV.flat, absLoad, absStore, cellsOfAV, setAt, newBox, markB, bldTypes, absFieldAddr, absField, absExtract, absAssert, noAssert, absMkIface, ifcOf, CV.pv?, content, pushHead, ownT, fillCells, reps, pvs, chunks, enterSt, leave, resOf, resVars, resVar, outBoxes, lentOnly, TV.deg, TV.av, LK, CV.plain, CV.noBld, nilBin, absUn, bound, List.map_cons, List.map_nil, List.all_cons, List.all_nil, List.any_cons, List.any_nil, List.contains_cons, List.contains_nil, List.elem_cons, List.elem_nil, List.cons_append, List.nil_append, List.append_nil, List.flatMap_cons, List.flatMap_nil, List.zip_cons_cons, List.zip_nil_left, List.zip_nil_right, List.take_succ_cons, List.take_zero, List.take_nil, List.drop_succ_cons, List.drop_zero, List.drop_nil, List.isEmpty_nil, List.isEmpty_cons, Bool.and_true, Bool.true_and, Bool.or_true, Bool.true_or, Bool.or_false, Bool.false_or, Bool.not_true, Bool.not_false, Nat.reduceAdd, Nat.reduceSub, Nat.reduceLeDiff, Nat.add_zero, Nat.zero_add, Nat.reduceMul, Option.isNone_none, Option.isNone_some, Option.getD_none, true_and, and_true, not_true_eq_false, not_false_eq_true, decide_true, decide_false, List.toList_toArray, Nat.le_refl, and_self, Bool.not_eq_true, Nat.sub_self, or_true, true_or, Option.some.injEq, List.length_map, List.nil_eq, and_false, false_and, AV.live, CV.live, CV.liveIn, K_keep, firstReg, Option.orElse_some, Option.orElse_none, head, keepSlots, keepBoxes, Int.lt_irrefl, List.length_append, ite_self, memOK, logOps, opKey, lentBoxes, Key.clash, Key.sees, Key.writes, Nat.lt_irrefl, gt_iff_lt, nobox_at, bot_at, false_or, or_false, beq_self_eq_true, Bool.true_beq, Bool.false_beq, ev_build ty_zeroCells_84 ty_placesOf_84, ty_fieldOff_84_0, ty_szOf_82, ty_shapeT_82, ev_len_str ty_descOf_82, good_60, ty_fieldOff_84_1, ty_szOf_22, ty_shapeT_22, keep_57_2]
  erw [e2]
  simp only [exL_seq, exL_region, exL_cond, exL_block, exL_scope, exL_ret, exL_skip, exL_exit, runRegion, runOps, stepOp, guardA, absOp, takeOver, opd, avOf, cvOf, St.degAt, St.put, okPV, okVal, okAV, absBin, intBin, strBin, boolBin, setBoxes, if_true, Bool.false_eq_true, if_false, Option.map_some, Option.map_none, Option.bind_some, Option.bind_none, thenO, outOf, upd, List.toList_toArray, isOwn, steal, appArgs, inApps, AV.deg, CV.deg, AV.gv, AV.isIter, absNext, some_bne, Nat.reduceLT, reduceIte, reduceCtorEq, Nat.reduceEqDiff, List.length_nil, List.length_cons, apply_ite (Option.map (outOf _)), List.filterMap_cons, List.filterMap_nil, beq_iff_eq, List.getElem?_cons_zero, List.getElem?_cons_succ, Option.getD_some, K_hook, hookB, Nat.reduceBEq, Bool.false_and, Bool.and_false, Bool.and_self, K_P, K_own, absCall, doCall, getBoxes, lend, back, idx, dedup, AV.ren, CV.ren, TV.ren, AV.ptrs, CV.ptrs, zipBox, AV.flat, CV.flat, absLoad, absStore, cellsOfAV, setAt, newBox, markB, bldTypes, absFieldAddr, absField, absExtract, absAssert, noAssert, absMkIface, ifcOf, CV.pv?, content, pushHead, ownT, fillCells, reps, pvs, chunks, enterSt, leave, resOf, resVars, resVar, outBoxes, lentOnly, TV.deg, TV.av, LK, CV.plain, CV.noBld, nilBin, absUn, bound, List.map_cons, List.map_nil, List.all_cons, List.all_nil, List.any_cons, List.any_nil, List.contains_cons, List.contains_nil, List.elem_cons, List.elem_nil, List.cons_append, List.nil_append, List.append_nil, List.flatMap_cons, List.flatMap_nil, List.zip_cons_cons, List.zip_nil_left, List.zip_nil_right, List.take_succ_cons, List.take_zero, List.take_nil, List.drop_succ_cons, List.drop_zero, List.drop_nil, List.isEmpty_nil, List.isEmpty_cons, Bool.and_true, Bool.true_and, Bool.or_true, Bool.true_or, Bool.or_false, Bool.false_or, Bool.not_true, Bool.not_false, Nat.reduceAdd, Nat.reduceSub, Nat.reduceLeDiff, Nat.add_zero, Nat.zero_add, Nat.reduceMul, Option.isNone_none, Option.isNone_some, Option.getD_none, true_and, and_true, not_true_eq_false, not_false_eq_true, decide_true, decide_false, List.toList_toArray, Nat.le_refl, and_self, Bool.not_eq_true, Nat.sub_self, or_true, true_or, Option.some.injEq, List.length_map, List.nil_eq, and_false, false_and, AV.live, CV.live, CV.liveIn, K_keep, firstReg, Option.orElse_some, Option.orElse_none, head, keepSlots, keepBoxes, Int.lt_irrefl, List.length_append, ite_self, memOK, logOps, opKey, lentBoxes, Key.clash, Key.sees, Key.writes, Nat.lt_irrefl, gt_iff_lt, nobox_at, bot_at, false_or, or_false, beq_self_eq_true, Bool.true_beq, Bool.false_beq, ev_build ty_zeroCells_84 ty_placesOf_84, ty_fieldOff_84_0, ty_szOf_82, ty_shapeT_82, ev_len_str ty_descOf_82, good_60, ty_fieldOff_84_1, ty_szOf_22, ty_shapeT_22, keep_57_2, hr, hn, h3, hb]
end Go.Abs

namespace Go.Abs
open Go Go.Proofs
set_option maxRecDepth 10000
attribute [local go_sem] exL_seq exL_region exL_cond exL_block exL_scope exL_ret exL_skip exL_exit runRegion runOps stepOp guardA absOp takeOver opd avOf cvOf St.degAt St.put okPV okVal okAV absBin intBin strBin boolBin setBoxes if_true Bool.false_eq_true if_false Option.map_some Option.map_none Option.bind_some Option.bind_none thenO outOf upd List.toList_toArray isOwn steal appArgs inApps AV.deg CV.deg AV.gv AV.isIter absNext some_bne List.length_nil List.length_cons List.filterMap_cons List.filterMap_nil beq_iff_eq List.getElem?_cons_zero List.getElem?_cons_succ Option.getD_some K_hook hookB Bool.false_and Bool.and_false Bool.and_self K_P K_own absCall doCall getBoxes lend back idx dedup AV.ren CV.ren TV.ren AV.ptrs CV.ptrs zipBox AV.flat CV.flat absLoad absStore cellsOfAV setAt newBox markB bldTypes absFieldAddr absField absExtract absAssert noAssert absMkIface ifcOf CV.pv? content pushHead ownT fillCells reps pvs chunks enterSt leave resOf resVars resVar outBoxes lentOnly TV.deg TV.av LK CV.plain CV.noBld nilBin absUn bound List.map_cons List.map_nil List.all_cons List.all_nil List.any_cons List.any_nil List.contains_cons List.contains_nil List.elem_cons List.elem_nil List.cons_append List.nil_append List.append_nil List.flatMap_cons List.flatMap_nil List.zip_cons_cons List.zip_nil_left List.zip_nil_right List.take_succ_cons List.take_zero List.take_nil List.drop_succ_cons List.drop_zero List.drop_nil List.isEmpty_nil List.isEmpty_cons Bool.and_true Bool.true_and Bool.or_true Bool.true_or Bool.or_false Bool.false_or Bool.not_true Bool.not_false Nat.add_zero Nat.zero_add Option.isNone_none Option.isNone_some Option.getD_none true_and and_true not_true_eq_false not_false_eq_true decide_true decide_false Nat.le_refl and_self Bool.not_eq_true Nat.sub_self or_true true_or Option.some.injEq List.length_map List.nil_eq and_false false_and AV.live CV.live CV.liveIn K_keep firstReg Option.orElse_some Option.orElse_none head keepSlots keepBoxes Int.lt_irrefl List.length_append ite_self memOK logOps opKey lentBoxes Key.clash Key.sees Key.writes Nat.lt_irrefl gt_iff_lt nobox_at bot_at false_or or_false beq_self_eq_true Bool.true_beq Bool.false_beq

abbrev theseH (a b : List Tok) (i : Nat) : St := { sl := upd (upd (upd (upd bot 17 (I i)) 16 (I b.length)) 15 (L (b.map Tok.enc))) 5 (L (a.map Tok.enc)), bx := nobox, nt := 29 }

theorem these_loop (a b : List Tok) (hab : a.length = b.length) (ha : lenOk a.length) : ∀ (ra rb : List Tok) (i : Nat), a.drop i = ra → b.drop i = rb → i ≤ a.length →
    Ends (exL K 47 (.loop (loopAt Tryd.f47 5)) (theseH a b i)) fun o S => (ra = rb ∧ o = .exit 0 ∧ S.nt = 29) ∨ (ra ≠ rb ∧ o = .ret ∧ S.sl 4 = B false) := by
  intro ra
  induction ra with
  | nil =>
    intro rb i hda hdb hi
    have hin : i = b.length := by
      have := List.drop_eq_nil_iff.1 hda
      omega
    obtain rfl : rb = [] := by rw [← hdb, hin, List.drop_length]
    subst hin
    conv in loopAt _ _ => whnf
    rw [exL_loop]
    simp only [go_sem, Nat.reduceLT, reduceIte, reduceCtorEq, Nat.reduceEqDiff, apply_ite (Option.map (outOf _)), Nat.reduceBEq, Nat.reduceAdd, Nat.reduceSub, Nat.reduceLeDiff, Nat.reduceMul, good_57, ev_len_sl ty_descOf_22, ev_indexAddr ty_descOf_22, ty_szOf_38, ty_shapeT_38, ty_zeroCells_38, keep_47_5, ends_some]
  | cons x ra ih =>
    intro rb i hda hdb hi
    obtain ⟨g1, g2, g3⟩ := drop_cons hda
    cases rb with
    | nil =>
      have := List.drop_eq_nil_iff.1 hdb
      omega
    | cons y rb =>
      obtain ⟨k1, k2, k3⟩ := drop_cons hdb
      have hlt : decide ((i : Int) < (b.length : Int)) = true := decide_eq_true (by omega)
      have ga := enc_at a i x g1
      have gb := enc_at b i y k1
      have hi2 : i < 9223372036854775807 := by unfold lenOk at ha; omega
      have heq := tok_eq x.kind y.kind x.n y.n x.text y.text
      rw [tok_beq] at heq
      have ih' := ih rb (i + 1) g2 k2 (by omega)
      conv at ih' in loopAt _ _ => whnf
      conv in loopAt _ _ => whnf
      rw [exL_loop]
      by_cases hxy : x = y
      · rw [decide_eq_true hxy] at heq
        have hv : (x :: ra = y :: rb) = (ra = rb) := by simp [hxy]
        have hv2 : (x :: ra ≠ y :: rb) = (ra ≠ rb) := by simp [hxy]
        rw [hv, hv2]
        simp only [go_sem, Nat.reduceLT, reduceIte, reduceCtorEq, Nat.reduceEqDiff, apply_ite (Option.map (outOf _)), Nat.reduceBEq, Nat.reduceAdd, Nat.reduceSub, Nat.reduceLeDiff, Nat.reduceMul, good_57, ev_len_sl ty_descOf_22, ev_indexAddr ty_descOf_22, ty_szOf_38, ty_shapeT_38, ty_zeroCells_38, keep_47_5, hlt, ga, gb, heq, Int.natCast_nonneg, wrap_nat i hi2]
        rw [exL_head]
        simp only [go_sem, Nat.reduceLT, reduceIte, reduceCtorEq, Nat.reduceEqDiff, apply_ite (Option.map (outOf _)), Nat.reduceBEq, Nat.reduceAdd, Nat.reduceSub, Nat.reduceLeDiff, Nat.reduceMul, good_57, ev_len_sl ty_descOf_22, ev_indexAddr ty_descOf_22, ty_szOf_38, ty_shapeT_38, ty_zeroCells_38, keep_47_5]
        exact ih'
      · rw [decide_eq_false hxy] at heq
        have hv : (x :: ra = y :: rb) = False := by simp [hxy]
        have hv2 : (x :: ra ≠ y :: rb) = True := by simp [hxy]
        rw [hv, hv2]
        simp only [go_sem, Nat.reduceLT, reduceIte, reduceCtorEq, Nat.reduceEqDiff, apply_ite (Option.map (outOf _)), Nat.reduceBEq, Nat.reduceAdd, Nat.reduceSub, Nat.reduceLeDiff, Nat.reduceMul, good_57, ev_len_sl ty_descOf_22, ev_indexAddr ty_descOf_22, ty_szOf_38, ty_shapeT_38, ty_zeroCells_38, keep_47_5, hlt, ga, gb, heq, Int.natCast_nonneg, ends_some]

theorem these_den (s : List UInt8) (b : List Tok) (hs : s.length < 4000000000) (hb : lenOk b.length) : den K 47 [T s, L (b.map Tok.enc)] [] = some (.ret (B (decide (Tk.all s = b))) []) := by
  have hall := All_den s hs
  have hlen : (Tk.all s).length ≤ s.length := Tk.all_len s
  generalize Tk.all s = a at hall hlen
  refine den_run rfl Tryd.func47 rfl Tryd.ntmps47 ⟨by simp, by simp [LK]⟩ ?_
  have hr : Tryd.f47.results = #[.tmp 4] := rfl
  by_cases hab : a.length = b.length
  · have e : ((a.length : Int) != (b.length : Int)) = false := by rw [hab]; simp
    have hl := these_loop a b hab (by unfold lenOk; omega) a b 0 rfl rfl (by omega)
    conv at hl in loopAt _ _ => whnf
    obtain ⟨o, S', e2, h⟩ := hl
    simp only [go_sem, Nat.reduceLT, reduceIte, reduceCtorEq, Nat.reduceEqDiff, apply_ite (Option.map (outOf _)), Nat.reduceBEq, Nat.reduceAdd, Nat.reduceSub, Nat.reduceLeDiff, Nat.reduceMul, good_57, ev_len_sl ty_descOf_22, ev_indexAddr ty_descOf_22, ty_szOf_38, ty_shapeT_38, ty_zeroCells_38, keep_47_5, hall, e]
    rw [exL_head]
    simp only [go_sem, Nat.reduceLT, reduceIte, reduceCtorEq, Nat.reduceEqDiff, apply_ite (Option.map (outOf _)), Nat.reduceBEq, Nat.reduceAdd, Nat.reduceSub, Nat.reduceLeDiff, Nat.reduceMul, good_57, ev_len_sl ty_descOf_22, ev_indexAddr ty_descOf_22, ty_szOf_38, ty_shapeT_38, ty_zeroCells_38, keep_47_5]
    erw [e2]
    rcases h with ⟨h1, rfl, h2⟩ | ⟨h1, rfl, h2⟩
    · rw [decide_eq_true h1]
      simp only [go_sem, Nat.reduceLT, reduceIte, reduceCtorEq, Nat.reduceEqDiff, apply_ite (Option.map (outOf _)), Nat.reduceBEq, Nat.reduceAdd, Nat.reduceSub, Nat.reduceLeDiff, Nat.reduceMul, good_57, ev_len_sl ty_descOf_22, ev_indexAddr ty_descOf_22, ty_szOf_38, ty_shapeT_38, ty_zeroCells_38, keep_47_5, hr, h2]
    · rw [decide_eq_false h1]
      simp only [go_sem, Nat.reduceLT, reduceIte, reduceCtorEq, Nat.reduceEqDiff, apply_ite (Option.map (outOf _)), Nat.reduceBEq, Nat.reduceAdd, Nat.reduceSub, Nat.reduceLeDiff, Nat.reduceMul, good_57, ev_len_sl ty_descOf_22, ev_indexAddr ty_descOf_22, ty_szOf_38, ty_shapeT_38, ty_zeroCells_38, keep_47_5, hr, h2]
  · have e : ((a.length : Int) != (b.length : Int)) = true := by rw [bne_iff_ne]; omega
    have hne : a ≠ b := fun h => hab (by rw [h])
    rw [decide_eq_false hne]
    simp only [go_sem, Nat.reduceLT, reduceIte, reduceCtorEq, Nat.reduceEqDiff, apply_ite (Option.map (outOf _)), Nat.reduceBEq, Nat.reduceAdd, Nat.reduceSub, Nat.reduceLeDiff, Nat.reduceMul, good_57, ev_len_sl ty_descOf_22, ev_indexAddr ty_descOf_22, ty_szOf_38, ty_shapeT_38, ty_zeroCells_38, keep_47_5, hr, hall, e]

theorem one_len (t : Tok) (hn : I64 t.n) : (oneS t).length ≤ t.text.length + 21 := by
  have h := itoa_len hn
  unfold oneS
  repeat' split
  all_goals simp
  all_goals omega

theorem May_den (t : Tok) (hn : I64 t.n) (hl : t.text.length < 1000000000) : den K 36 [.agg t.cells] [] = some (.ret (B (Tk.may t)) []) := by
  have h1 := One_den t hn (by omega)
  have h2 := these_den (oneS t) [t] (by have := one_len t hn; omega) (by simp [lenOk])
  unfold Tk.may
  simp only [List.map_cons, List.map_nil, Tok.enc, Tok.cells] at h1 h2
  simp only [Tok.cells]
  refine den_run rfl Tryd.func36 rfl Tryd.ntmps36 ⟨by simp, by simp [LK]⟩ ?_
  have hr : Tryd.f36.results = #[.tmp 2] := rfl
  simp only [go_sem, Nat.reduceLT, reduceIte, reduceCtorEq, Nat.reduceEqDiff, apply_ite (Option.map (outOf _)), Nat.reduceBEq, Nat.reduceAdd, Nat.reduceSub, Nat.reduceLeDiff, Nat.reduceMul, ty_shapeT_38, good_48, ev_buildSlice (len := 1) ty_descOf_22 ty_szOf_38 ty_zeroCells_38 ⟨rfl, by decide, by decide⟩, good_47, hr, h1, h2]


end Go.Abs
