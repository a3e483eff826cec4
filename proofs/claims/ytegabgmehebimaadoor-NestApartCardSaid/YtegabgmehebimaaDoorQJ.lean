/-
  WHAT THE FUNCTIONS COMPUTE, layer 1: classes of bytes, runs, names.
  WHAT THE FUNCTIONS COMPUTE, layer 1: the scanner's small steps: a name, a token that is laid, a comment, a string.
  WHAT THE FUNCTIONS COMPUTE, layer 1: the scanner's comment, string, number.
-/
import Derived.Test.YtegabgmehebimaaDoorQI
import Derived.Test.YtegabgmehebimaaDoorQE
set_option linter.unusedSimpArgs false
set_option linter.unusedVariables false
namespace Go.Abs
open Go Go.Proofs
set_option maxRecDepth 10000
attribute [local go_sem] exL_seq exL_region exL_cond exL_block exL_scope exL_ret exL_skip exL_exit runRegion runOps stepOp guardA absOp takeOver opd avOf cvOf St.degAt St.put okPV okVal okAV absBin intBin strBin boolBin setBoxes if_true Bool.false_eq_true if_false Option.map_some Option.map_none Option.bind_some Option.bind_none thenO outOf upd List.toList_toArray isOwn steal appArgs inApps AV.deg CV.deg AV.gv AV.isIter absNext some_bne List.length_nil List.length_cons List.filterMap_cons List.filterMap_nil beq_iff_eq List.getElem?_cons_zero List.getElem?_cons_succ Option.getD_some K_hook hookB Bool.false_and Bool.and_false Bool.and_self K_P K_own absCall doCall getBoxes lend back idx dedup AV.ren CV.ren TV.ren AV.ptrs CV.ptrs zipBox AV.flat CV.flat absLoad absStore cellsOfAV setAt newBox markB bldTypes absFieldAddr absField absExtract absAssert noAssert absMkIface ifcOf CV.pv? content pushHead ownT fillCells reps pvs chunks enterSt leave resOf resVars resVar outBoxes lentOnly TV.deg TV.av LK CV.plain CV.noBld nilBin absUn bound List.map_cons List.map_nil List.all_cons List.all_nil List.any_cons List.any_nil List.contains_cons List.contains_nil List.elem_cons List.elem_nil List.cons_append List.nil_append List.append_nil List.flatMap_cons List.flatMap_nil List.zip_cons_cons List.zip_nil_left List.zip_nil_right List.take_succ_cons List.take_zero List.take_nil List.drop_succ_cons List.drop_zero List.drop_nil List.isEmpty_nil List.isEmpty_cons Bool.and_true Bool.true_and Bool.or_true Bool.true_or Bool.or_false Bool.false_or Bool.not_true Bool.not_false Nat.add_zero Nat.zero_add Option.isNone_none Option.isNone_some Option.getD_none true_and and_true not_true_eq_false not_false_eq_true decide_true decide_false Nat.le_refl and_self Bool.not_eq_true Nat.sub_self or_true true_or Option.some.injEq List.length_map List.nil_eq and_false false_and AV.live CV.live CV.liveIn K_keep firstReg Option.orElse_some Option.orElse_none head keepSlots keepBoxes Int.lt_irrefl List.length_append ite_self memOK logOps opKey lentBoxes Key.clash Key.sees Key.writes Nat.lt_irrefl gt_iff_lt nobox_at bot_at false_or or_false beq_self_eq_true Bool.true_beq Bool.false_beq

abbrev U (c : UInt8) : AV := .c (.pv (.int .u8 c.toNat))

theorem digit_eq (c : UInt8) : Tk.digit c = (decide ((48 : Int) ≤ (c.toNat : Int)) && decide ((c.toNat : Int) ≤ 57)) := by
  unfold Tk.digit; rw [← Bool.decide_and]; exact decide_eq_decide.2 (by omega)
theorem begins_eq (c : UInt8) : Tk.begins c = ((decide ((97 : Int) ≤ (c.toNat : Int)) && decide ((c.toNat : Int) ≤ 122)) || (decide ((65 : Int) ≤ (c.toNat : Int)) && decide ((c.toNat : Int) ≤ 90)) || ((c.toNat : Int) == 95) || decide ((128 : Int) ≤ (c.toNat : Int))) := by
  have e : ((c.toNat : Int) == 95) = decide ((c.toNat : Int) = 95) := by
    by_cases h : (c.toNat : Int) = 95 <;> simp [h]
  rw [e]
  unfold Tk.begins
  rw [← Bool.decide_and, ← Bool.decide_and, ← Bool.decide_or, ← Bool.decide_or, ← Bool.decide_or]
  exact decide_eq_decide.2 (by omega)
theorem u8_beq (c d : UInt8) : ((c.toNat : Int) == (d.toNat : Int)) = (c == d) := by
  by_cases e : c = d
  · subst e; simp
  · have : c.toNat ≠ d.toNat := fun h2 => e (UInt8.toNat_inj.1 h2)
    rw [beq_eq_false_iff_ne.2 e, beq_eq_false_iff_ne.2 (by omega)]

theorem digit_den (c : UInt8) : den K 72 [U c] [] = some (.ret (B (Tk.digit c)) []) := by
  refine den_run rfl Tryd.func72 rfl Tryd.ntmps72 ⟨by simp, by simp [LK]⟩ ?_
  have hr : Tryd.f72.results = #[.tmp 2] := rfl
  rw [digit_eq]
  cases b1 : decide ((48 : Int) ≤ (c.toNat : Int)) <;> cases b2 : decide ((c.toNat : Int) ≤ 57) <;> simp only [go_sem, Nat.reduceLT, reduceIte, reduceCtorEq, Nat.reduceEqDiff, apply_ite (Option.map (outOf _)), Nat.reduceBEq, Nat.reduceAdd, Nat.reduceSub, Nat.reduceLeDiff, Nat.reduceMul, nobox_at, hr, b1, b2]

set_option maxHeartbeats 8000000 in
theorem begins_den (c : UInt8) : den K 75 [U c] [] = some (.ret (B (Tk.begins c)) []) := by
  refine den_run rfl Tryd.func75 rfl Tryd.ntmps75 ⟨by simp, by simp [LK]⟩ ?_
  have hr : Tryd.f75.results = #[.tmp 2] := rfl
  rw [begins_eq]
  cases b1 : decide ((97 : Int) ≤ (c.toNat : Int)) <;> cases b2 : decide ((c.toNat : Int) ≤ 122) <;> cases b3 : decide ((65 : Int) ≤ (c.toNat : Int)) <;> cases b4 : decide ((c.toNat : Int) ≤ 90) <;> cases b5 : ((c.toNat : Int) == 95) <;> cases b6 : decide ((128 : Int) ≤ (c.toNat : Int)) <;> simp only [go_sem, Nat.reduceLT, reduceIte, reduceCtorEq, Nat.reduceEqDiff, apply_ite (Option.map (outOf _)), Nat.reduceBEq, Nat.reduceAdd, Nat.reduceSub, Nat.reduceLeDiff, Nat.reduceMul, nobox_at, hr, b1, b2, b3, b4, b5, b6]

theorem within_den (c : UInt8) : den K 71 [U c] [] = some (.ret (B (Tk.within c)) []) := by
  have d1 := begins_den c
  have d2 := digit_den c
  have e45 : ((c.toNat : Int) == 45) = (c == 45) := u8_beq c 45
  refine den_run rfl Tryd.func71 rfl Tryd.ntmps71 ⟨by simp, by simp [LK]⟩ ?_
  have hr : Tryd.f71.results = #[.tmp 2] := rfl
  unfold Tk.within
  cases b1 : Tk.begins c <;> cases b2 : Tk.digit c <;> cases b3 : (c == 45) <;> rw [b1] at d1 <;> rw [b2] at d2 <;> rw [b3] at e45 <;> simp only [go_sem, Nat.reduceLT, reduceIte, reduceCtorEq, Nat.reduceEqDiff, apply_ite (Option.map (outOf _)), Nat.reduceBEq, Nat.reduceAdd, Nat.reduceSub, Nat.reduceLeDiff, Nat.reduceMul, good_75, good_72, hr, d1, d2, e45]

/-- the byte at a place -/
theorem at0_drop (s : List UInt8) (i : Nat) : (s[i]? = none ∧ Tk.at0 (s.drop i) = 0 ∧ s.length ≤ i) ∨ (i < s.length ∧ s[i]? = some (Tk.at0 (s.drop i))) := by
  by_cases h : i < s.length
  · right
    refine ⟨h, ?_⟩
    rw [List.drop_eq_getElem_cons h, Tk.at0_cons, List.getElem?_eq_getElem h]
  · left
    refine ⟨List.getElem?_eq_none (by omega), ?_, by omega⟩
    rw [List.drop_eq_nil_of_le (by omega)]; rfl

theorem at_den (s : List UInt8) (i : Nat) (hs : s.length < 1000000000000) : den K 62 [T s, I i] [] = some (.ret (U (Tk.at0 (s.drop i))) []) := by
  refine den_run rfl Tryd.func62 rfl Tryd.ntmps62 ⟨by simp, by simp [LK]⟩ ?_
  have hr : Tryd.f62.results = #[.tmp 4] := rfl
  rcases at0_drop s i with ⟨h1, h2, h3⟩ | ⟨h1, h2⟩
  · have hlt : decide ((i : Int) < (s.length : Int)) = false := decide_eq_false (by omega)
    rw [h2]
    simp only [go_sem, Nat.reduceLT, reduceIte, reduceCtorEq, Nat.reduceEqDiff, apply_ite (Option.map (outOf _)), Nat.reduceBEq, Nat.reduceAdd, Nat.reduceSub, Nat.reduceLeDiff, Nat.reduceMul, ev_len_str ty_descOf_82, ev_index ty_descOf_82, hr, hlt]
    rfl
  · have hlt : decide ((i : Int) < (s.length : Int)) = true := decide_eq_true (by omega)
    simp only [go_sem, Nat.reduceLT, reduceIte, reduceCtorEq, Nat.reduceEqDiff, apply_ite (Option.map (outOf _)), Nat.reduceBEq, Nat.reduceAdd, Nat.reduceSub, Nat.reduceLeDiff, Nat.reduceMul, ev_len_str ty_descOf_82, ev_index ty_descOf_82, hr, hlt, Int.natCast_nonneg, Int.toNat_natCast, h2]

abbrev FN (f : Nat) : AV := .c (.fn f [])
abbrev runH (s : List UInt8) (from_ : Nat) (f n : Nat) : St := { sl := upd (upd (upd (upd bot 7 (I n)) 2 (FN f)) 1 (I from_)) 0 (T s), bx := upd nobox 100000 none, nt := 26 }

theorem run_loop (s : List UInt8) (hs : s.length < 1000000000000) (p : UInt8 → Bool) (f : Nat) (hg : K.good f = true) (hown : K.ownRet f = false) (hf : ∀ c, den K f [U c] [] = some (.ret (B (p c)) [])) (from_ : Nat) : ∀ (rest : List UInt8) (n : Nat), s.drop (from_ + n) = rest → from_ + n ≤ s.length →
    Ends (exL K 69 (.loop (loopAt Tryd.f69 2)) (runH s from_ f n)) fun o S => o = .exit 0 ∧ S.sl 7 = I (n + Tk.run p rest : Nat) ∧ S.nt = 26 := by
  intro rest
  induction rest with
  | nil =>
    intro n hd hn
    have hin : from_ + n = s.length := by
      have := List.drop_eq_nil_iff.1 hd
      omega
    have w1 : IntKind.i64.wrap ((from_ : Int) + (n : Int)) = ((from_ + n : Nat) : Int) := by rw [IntWalk.i64_in _ (by omega)]; rfl
    have hlt : decide (((from_ + n : Nat) : Int) < (s.length : Int)) = false := decide_eq_false (by omega)
    conv in loopAt _ _ => whnf
    rw [exL_loop]
    simp only [go_sem, Nat.reduceLT, reduceIte, reduceCtorEq, Nat.reduceEqDiff, apply_ite (Option.map (outOf _)), Nat.reduceBEq, Nat.reduceAdd, Nat.reduceSub, Nat.reduceLeDiff, Nat.reduceMul, ev_len_str ty_descOf_82, ev_index ty_descOf_82, keep_69_2, ends_some, w1, hlt, Tk.run_nil]
  | cons c rest ih =>
    intro n hd hn
    obtain ⟨g1, g2, g3⟩ := drop_cons hd
    have w1 : IntKind.i64.wrap ((from_ : Int) + (n : Int)) = ((from_ + n : Nat) : Int) := by rw [IntWalk.i64_in _ (by omega)]; rfl
    have hlt : decide (((from_ + n : Nat) : Int) < (s.length : Int)) = true := decide_eq_true (by omega)
    have hc := hf c
    have ih' := ih (n + 1) g2 (by omega)
    conv at ih' in loopAt _ _ => whnf
    conv in loopAt _ _ => whnf
    rw [exL_loop]
    cases hp : p c
    · rw [hp] at hc
      have hv : Tk.run p (c :: rest) = 0 := by rw [Tk.run, if_neg (by simp [hp])]
      simp only [go_sem, Nat.reduceLT, reduceIte, reduceCtorEq, Nat.reduceEqDiff, apply_ite (Option.map (outOf _)), Nat.reduceBEq, Nat.reduceAdd, Nat.reduceSub, Nat.reduceLeDiff, Nat.reduceMul, ev_len_str ty_descOf_82, ev_index ty_descOf_82, keep_69_2, ends_some, w1, hlt, hg, hown, hc, Int.natCast_nonneg, Int.toNat_natCast, g1, hv]
    · rw [hp] at hc
      have hv : n + 1 + Tk.run p rest = n + Tk.run p (c :: rest) := by rw [Tk.run, if_pos hp]; omega
      rw [hv] at ih'
      simp only [go_sem, Nat.reduceLT, reduceIte, reduceCtorEq, Nat.reduceEqDiff, apply_ite (Option.map (outOf _)), Nat.reduceBEq, Nat.reduceAdd, Nat.reduceSub, Nat.reduceLeDiff, Nat.reduceMul, ev_len_str ty_descOf_82, ev_index ty_descOf_82, keep_69_2, w1, hlt, hg, hown, hc, Int.natCast_nonneg, Int.toNat_natCast, g1, wrap_nat n (by omega)]
      rw [exL_head]
      simp only [go_sem, Nat.reduceLT, reduceIte, reduceCtorEq, Nat.reduceEqDiff, apply_ite (Option.map (outOf _)), Nat.reduceBEq, Nat.reduceAdd, Nat.reduceSub, Nat.reduceLeDiff, Nat.reduceMul, ev_len_str ty_descOf_82, ev_index ty_descOf_82, keep_69_2]
      exact ih'

theorem run_den (s : List UInt8) (hs : s.length < 1000000000000) (p : UInt8 → Bool) (f : Nat) (hg : K.good f = true) (hown : K.ownRet f = false) (hf : ∀ c, den K f [U c] [] = some (.ret (B (p c)) [])) (from_ : Nat) (h : from_ ≤ s.length) : den K 69 [T s, I from_, FN f] [] = some (.ret (I (Tk.run p (s.drop from_) : Nat)) []) := by
  refine den_run rfl Tryd.func69 rfl Tryd.ntmps69 ⟨by simp, by simp [LK]⟩ ?_
  have hr : Tryd.f69.results = #[.tmp 6] := rfl
  have hnext := run_loop s hs p f hg hown hf from_ (s.drop from_) 0 rfl (by omega)
  conv at hnext in loopAt _ _ => whnf
  obtain ⟨o, S', e, rfl, h7, hn⟩ := hnext
  rw [Nat.zero_add] at h7
  simp only [go_sem, Nat.reduceLT, reduceIte, reduceCtorEq, Nat.reduceEqDiff, apply_ite (Option.map (outOf _)), Nat.reduceBEq, Nat.reduceAdd, Nat.reduceSub, Nat.reduceLeDiff, Nat.reduceMul, ev_len_str ty_descOf_82, ev_index ty_descOf_82, keep_69_2]
  rw [exL_head]
  simp only [go_sem, Nat.reduceLT, reduceIte, reduceCtorEq, Nat.reduceEqDiff, apply_ite (Option.map (outOf _)), Nat.reduceBEq, Nat.reduceAdd, Nat.reduceSub, Nat.reduceLeDiff, Nat.reduceMul, ev_len_str ty_descOf_82, ev_index ty_descOf_82, keep_69_2]
  erw [e]
  simp only [go_sem, Nat.reduceLT, reduceIte, reduceCtorEq, Nat.reduceEqDiff, apply_ite (Option.map (outOf _)), Nat.reduceBEq, Nat.reduceAdd, Nat.reduceSub, Nat.reduceLeDiff, Nat.reduceMul, ev_len_str ty_descOf_82, ev_index ty_descOf_82, keep_69_2, hr, h7, hn]
end Go.Abs

namespace Go.Abs
open Go Go.Proofs
set_option maxRecDepth 10000

theorem name_den (s : List UInt8) (hs : s.length < 4000000000) (i : Nat) (h : i ≤ s.length) : den K 63 [T s, I i] [] = some (.ret (I (Tk.name (s.drop i) : Nat)) []) := by
  have d1 := at_den s i (by omega)
  have d2 := at_den s (i + 1) (by omega)
  have ht : (s.drop i).tail = s.drop (i + 1) := List.tail_drop
  have hrun := run_den s (by omega) Tk.within 71 good_71 rfl within_den i h
  unfold Tk.name Tk.nameB
  rw [ht]
  generalize Tk.at0 (s.drop i) = c at d1
  generalize Tk.at0 (s.drop (i + 1)) = d at d2
  have b1 := begins_den c
  have b2 := begins_den d
  have e1 : ((c.toNat : Int) == 45) = (c == 45) := u8_beq c 45
  have e2 : ((d.toNat : Int) == 45) = (d == 45) := u8_beq d 45
  refine den_run rfl Tryd.func63 rfl Tryd.ntmps63 ⟨by simp, by simp [LK]⟩ ?_
  have hr : Tryd.f63.results = #[.tmp 4] := rfl
  cases h1 : Tk.begins c
  · rw [h1] at b1
    cases h2 : (c == 45)
    · rw [h2] at e1
      simp only [exL_seq, exL_region, exL_cond, exL_block, exL_scope, exL_ret, exL_skip, exL_exit, runRegion, runOps, stepOp, guardA, absOp, takeOver, opd, avOf, cvOf, St.degAt, St.put, okPV, okVal, okAV, absBin, intBin, strBin, boolBin, setBoxes, if_true, Bool.false_eq_true, if_false, Option.map_some, Option.map_none, Option.bind_some, Option.bind_none, thenO, outOf, upd, List.toList_toArray, isOwn, steal, appArgs, inApps, AV.deg, CV.deg, AV.gv, AV.isIter, absNext, some_bne, Nat.reduceLT, reduceIte, reduceCtorEq, Nat.reduceEqDiff, List.length_nil, List.length_cons, apply_ite (Option.map (outOf _)), List.filterMap_cons, List.filterMap_nil, beq_iff_eq, List.getElem?_cons_zero, List.getElem?_cons_succ, Option.getD_some, K_hook, hookB, Nat.reduceBEq, Bool.false_and, Bool.and_false, Bool.and_self, K_P, K_own, absCall, doCall, getBoxes, lend, back, idx, dedup, AV.ren, CV.ren, TV.ren, AV.ptrs, CV.ptrs, zipBox, AV.flat, CV.flat, absLoad, absStore, cellsOfAV, setAt, newBox, markB, bldTypes, absFieldAddr, absField, absExtract, absAssert, noAssert, absMkIface, ifcOf, CV.pv?, content, pushHead, ownT, fillCells, reps, pvs, chunks, enterSt, leave, resOf, resVars, resVar, outBoxes, lentOnly, TV.deg, TV.av, LK, CV.plain, CV.noBld, nilBin, absUn, bound, List.map_cons, List.map_nil, List.all_cons, List.all_nil, List.any_cons, List.any_nil, List.contains_cons, List.contains_nil, List.elem_cons, List.elem_nil, List.cons_append, List.nil_append, List.append_nil, List.flatMap_cons, List.flatMap_nil, List.zip_cons_cons, List.zip_nil_left, List.zip_nil_right, List.take_succ_cons, List.take_zero, List.take_nil, List.drop_succ_cons, List.drop_zero, List.drop_nil, List.isEmpty_nil, List.isEmpty_cons, Bool.and_true, Bool.true_and, Bool.or_true, Bool.true_or, Bool.or_false, Bool.false_or, Bool.not_true, Bool.not_false, Nat.reduceAdd, Nat.reduceSub, Nat.reduceLeDiff, Nat.add_zero, Nat.zero_add, Nat.reduceMul, Option.isNone_none, Option.isNone_some, Option.getD_none, true_and, and_true, not_true_eq_false, not_false_eq_true, decide_true, decide_false, List.toList_toArray, Nat.le_refl, and_self, Bool.not_eq_true, Nat.sub_self, or_true, true_or, Option.some.injEq, List.length_map, List.nil_eq, and_false, false_and, AV.live, CV.live, CV.liveIn, K_keep, firstReg, Option.orElse_some, Option.orElse_none, head, keepSlots, keepBoxes, Int.lt_irrefl, List.length_append, ite_self, memOK, logOps, opKey, lentBoxes, Key.clash, Key.sees, Key.writes, Nat.lt_irrefl, gt_iff_lt, nobox_at, bot_at, false_or, or_false, beq_self_eq_true, Bool.true_beq, Bool.false_beq, good_62, good_75, good_69, hr, d1, d2, b1, e1, wrap_nat i (by omega)]
      rfl
    · rw [h2] at e1
      cases h3 : Tk.begins d
      · rw [h3] at b2
        cases h4 : (d == 45)
        · rw [h4] at e2
          simp only [exL_seq, exL_region, exL_cond, exL_block, exL_scope, exL_ret, exL_skip, exL_exit, runRegion, runOps, stepOp, guardA, absOp, takeOver, opd, avOf, cvOf, St.degAt, St.put, okPV, okVal, okAV, absBin, intBin, strBin, boolBin, setBoxes, if_true, Bool.false_eq_true, if_false, Option.map_some, Option.map_none, Option.bind_some, Option.bind_none, thenO, outOf, upd, List.toList_toArray, isOwn, steal, appArgs, inApps, AV.deg, CV.deg, AV.gv, AV.isIter, absNext, some_bne, Nat.reduceLT, reduceIte, reduceCtorEq, Nat.reduceEqDiff, List.length_nil, List.length_cons, apply_ite (Option.map (outOf _)), List.filterMap_cons, List.filterMap_nil, beq_iff_eq, List.getElem?_cons_zero, List.getElem?_cons_succ, Option.getD_some, K_hook, hookB, Nat.reduceBEq, Bool.false_and, Bool.and_false, Bool.and_self, K_P, K_own, absCall, doCall, getBoxes, lend, back, idx, dedup, AV.ren, CV.ren, TV.ren, AV.ptrs, CV.ptrs, zipBox, AV.flat, CV.flat, absLoad, absStore, cellsOfAV, setAt, newBox, markB, bldTypes, absFieldAddr, absField, absExtract, absAssert, noAssert, absMkIface, ifcOf, CV.pv?, content, pushHead, ownT, fillCells, reps, pvs, chunks, enterSt, leave, resOf, resVars, resVar, outBoxes, lentOnly, TV.deg, TV.av, LK, CV.plain, CV.noBld, nilBin, absUn, bound, List.map_cons, List.map_nil, List.all_cons, List.all_nil, List.any_cons, List.any_nil, List.contains_cons, List.contains_nil, List.elem_cons, List.elem_nil, List.cons_append, List.nil_append, List.append_nil, List.flatMap_cons, List.flatMap_nil, List.zip_cons_cons, List.zip_nil_left, List.zip_nil_right, List.take_succ_cons, List.take_zero, List.take_nil, List.drop_succ_cons, List.drop_zero, List.drop_nil, List.isEmpty_nil, List.isEmpty_cons, Bool.and_true, Bool.true_and, Bool.or_true, Bool.true_or, Bool.or_false, Bool.false_or, Bool.not_true, Bool.not_false, Nat.reduceAdd, Nat.reduceSub, Nat.reduceLeDiff, Nat.add_zero, Nat.zero_add, Nat.reduceMul, Option.isNone_none, Option.isNone_some, Option.getD_none, true_and, and_true, not_true_eq_false, not_false_eq_true, decide_true, decide_false, List.toList_toArray, Nat.le_refl, and_self, Bool.not_eq_true, Nat.sub_self, or_true, true_or, Option.some.injEq, List.length_map, List.nil_eq, and_false, false_and, AV.live, CV.live, CV.liveIn, K_keep, firstReg, Option.orElse_some, Option.orElse_none, head, keepSlots, keepBoxes, Int.lt_irrefl, List.length_append, ite_self, memOK, logOps, opKey, lentBoxes, Key.clash, Key.sees, Key.writes, Nat.lt_irrefl, gt_iff_lt, nobox_at, bot_at, false_or, or_false, beq_self_eq_true, Bool.true_beq, Bool.false_beq, good_62, good_75, good_69, hr, d1, d2, b1, b2, e1, e2, wrap_nat i (by omega)]
          rfl
        · rw [h4] at e2
          simp only [exL_seq, exL_region, exL_cond, exL_block, exL_scope, exL_ret, exL_skip, exL_exit, runRegion, runOps, stepOp, guardA, absOp, takeOver, opd, avOf, cvOf, St.degAt, St.put, okPV, okVal, okAV, absBin, intBin, strBin, boolBin, setBoxes, if_true, Bool.false_eq_true, if_false, Option.map_some, Option.map_none, Option.bind_some, Option.bind_none, thenO, outOf, upd, List.toList_toArray, isOwn, steal, appArgs, inApps, AV.deg, CV.deg, AV.gv, AV.isIter, absNext, some_bne, Nat.reduceLT, reduceIte, reduceCtorEq, Nat.reduceEqDiff, List.length_nil, List.length_cons, apply_ite (Option.map (outOf _)), List.filterMap_cons, List.filterMap_nil, beq_iff_eq, List.getElem?_cons_zero, List.getElem?_cons_succ, Option.getD_some, K_hook, hookB, Nat.reduceBEq, Bool.false_and, Bool.and_false, Bool.and_self, K_P, K_own, absCall, doCall, getBoxes, lend, back, idx, dedup, AV.ren, CV.ren, TV.ren, AV.ptrs, CV.ptrs, zipBox, AV.flat, CV.flat, absLoad, absStore, cellsOfAV, setAt, newBox, markB, bldTypes, absFieldAddr, absField, absExtract, absAssert, noAssert, absMkIface, ifcOf, CV.pv?, content, pushHead, ownT, fillCells, reps, pvs, chunks, enterSt, leave, resOf, resVars, resVar, outBoxes, lentOnly, TV.deg, TV.av, LK, CV.plain, CV.noBld, nilBin, absUn, bound, List.map_cons, List.map_nil, List.all_cons, List.all_nil, List.any_cons, List.any_nil, List.contains_cons, List.contains_nil, List.elem_cons, List.elem_nil, List.cons_append, List.nil_append, List.append_nil, List.flatMap_cons, List.flatMap_nil, List.zip_cons_cons, List.zip_nil_left, List.zip_nil_right, List.take_succ_cons, List.take_zero, List.take_nil, List.drop_succ_cons, List.drop_zero, List.drop_nil, List.isEmpty_nil, List.isEmpty_cons, Bool.and_true, Bool.true_and, Bool.or_true, Bool.true_or, Bool.or_false, Bool.false_or, Bool.not_true, Bool.not_false, Nat.reduceAdd, Nat.reduceSub, Nat.reduceLeDiff, Nat.add_zero, Nat.zero_add, Nat.reduceMul, Option.isNone_none, Option.isNone_some, Option.getD_none, true_and, and_true, not_true_eq_false, not_false_eq_true, decide_true, decide_false, List.toList_toArray, Nat.le_refl, and_self, Bool.not_eq_true, Nat.sub_self, or_true, true_or, Option.some.injEq, List.length_map, List.nil_eq, and_false, false_and, AV.live, CV.live, CV.liveIn, K_keep, firstReg, Option.orElse_some, Option.orElse_none, head, keepSlots, keepBoxes, Int.lt_irrefl, List.length_append, ite_self, memOK, logOps, opKey, lentBoxes, Key.clash, Key.sees, Key.writes, Nat.lt_irrefl, gt_iff_lt, nobox_at, bot_at, false_or, or_false, beq_self_eq_true, Bool.true_beq, Bool.false_beq, good_62, good_75, good_69, hr, d1, d2, b1, b2, e1, e2, hrun, wrap_nat i (by omega)]
      · rw [h3] at b2
        simp only [exL_seq, exL_region, exL_cond, exL_block, exL_scope, exL_ret, exL_skip, exL_exit, runRegion, runOps, stepOp, guardA, absOp, takeOver, opd, avOf, cvOf, St.degAt, St.put, okPV, okVal, okAV, absBin, intBin, strBin, boolBin, setBoxes, if_true, Bool.false_eq_true, if_false, Option.map_some, Option.map_none, Option.bind_some, Option.bind_none, thenO, outOf, upd, List.toList_toArray, isOwn, steal, appArgs, inApps, AV.deg, CV.deg, AV.gv, AV.isIter, absNext, some_bne, Nat.reduceLT, reduceIte, reduceCtorEq, Nat.reduceEqDiff, List.length_nil, List.length_cons, apply_ite (Option.map (outOf _)), List.filterMap_cons, List.filterMap_nil, beq_iff_eq, List.getElem?_cons_zero, List.getElem?_cons_succ, Option.getD_some, K_hook, hookB, Nat.reduceBEq, Bool.false_and, Bool.and_false, Bool.and_self, K_P, K_own, absCall, doCall, getBoxes, lend, back, idx, dedup, AV.ren, CV.ren, TV.ren, AV.ptrs, CV.ptrs, zipBox, AV.flat, CV.flat, absLoad, absStore, cellsOfAV, setAt, newBox, markB, bldTypes, absFieldAddr, absField, absExtract, absAssert, noAssert, absMkIface, ifcOf, CV.pv?, content, pushHead, ownT, fillCells, reps, pvs, chunks, enterSt, leave, resOf, resVars, resVar, outBoxes, lentOnly, TV.deg, TV.av, LK, CV.plain, CV.noBld, nilBin, absUn, bound, List.map_cons, List.map_nil, List.all_cons, List.all_nil, List.any_cons, List.any_nil, List.contains_cons, List.contains_nil, List.elem_cons, List.elem_nil, List.cons_append, List.nil_append, List.append_nil, List.flatMap_cons, List.flatMap_nil, List.zip_cons_cons, List.zip_nil_left, List.zip_nil_right, List.take_succ_cons, List.take_zero, List.take_nil, List.drop_succ_cons, List.drop_zero, List.drop_nil, List.isEmpty_nil, List.isEmpty_cons, Bool.and_true, Bool.true_and, Bool.or_true, Bool.true_or, Bool.or_false, Bool.false_or, Bool.not_true, Bool.not_false, Nat.reduceAdd, Nat.reduceSub, Nat.reduceLeDiff, Nat.add_zero, Nat.zero_add, Nat.reduceMul, Option.isNone_none, Option.isNone_some, Option.getD_none, true_and, and_true, not_true_eq_false, not_false_eq_true, decide_true, decide_false, List.toList_toArray, Nat.le_refl, and_self, Bool.not_eq_true, Nat.sub_self, or_true, true_or, Option.some.injEq, List.length_map, List.nil_eq, and_false, false_and, AV.live, CV.live, CV.liveIn, K_keep, firstReg, Option.orElse_some, Option.orElse_none, head, keepSlots, keepBoxes, Int.lt_irrefl, List.length_append, ite_self, memOK, logOps, opKey, lentBoxes, Key.clash, Key.sees, Key.writes, Nat.lt_irrefl, gt_iff_lt, nobox_at, bot_at, false_or, or_false, beq_self_eq_true, Bool.true_beq, Bool.false_beq, good_62, good_75, good_69, hr, d1, d2, b1, b2, e1, hrun, wrap_nat i (by omega)]
  · rw [h1] at b1
    simp only [exL_seq, exL_region, exL_cond, exL_block, exL_scope, exL_ret, exL_skip, exL_exit, runRegion, runOps, stepOp, guardA, absOp, takeOver, opd, avOf, cvOf, St.degAt, St.put, okPV, okVal, okAV, absBin, intBin, strBin, boolBin, setBoxes, if_true, Bool.false_eq_true, if_false, Option.map_some, Option.map_none, Option.bind_some, Option.bind_none, thenO, outOf, upd, List.toList_toArray, isOwn, steal, appArgs, inApps, AV.deg, CV.deg, AV.gv, AV.isIter, absNext, some_bne, Nat.reduceLT, reduceIte, reduceCtorEq, Nat.reduceEqDiff, List.length_nil, List.length_cons, apply_ite (Option.map (outOf _)), List.filterMap_cons, List.filterMap_nil, beq_iff_eq, List.getElem?_cons_zero, List.getElem?_cons_succ, Option.getD_some, K_hook, hookB, Nat.reduceBEq, Bool.false_and, Bool.and_false, Bool.and_self, K_P, K_own, absCall, doCall, getBoxes, lend, back, idx, dedup, AV.ren, CV.ren, TV.ren, AV.ptrs, CV.ptrs, zipBox, AV.flat, CV.flat, absLoad, absStore, cellsOfAV, setAt, newBox, markB, bldTypes, absFieldAddr, absField, absExtract, absAssert, noAssert, absMkIface, ifcOf, CV.pv?, content, pushHead, ownT, fillCells, reps, pvs, chunks, enterSt, leave, resOf, resVars, resVar, outBoxes, lentOnly, TV.deg, TV.av, LK, CV.plain, CV.noBld, nilBin, absUn, bound, List.map_cons, List.map_nil, List.all_cons, List.all_nil, List.any_cons, List.any_nil, List.contains_cons, List.contains_nil, List.elem_cons, List.elem_nil, List.cons_append, List.nil_append, List.append_nil, List.flatMap_cons, List.flatMap_nil, List.zip_cons_cons, List.zip_nil_left, List.zip_nil_right, List.take_succ_cons, List.take_zero, List.take_nil, List.drop_succ_cons, List.drop_zero, List.drop_nil, List.isEmpty_nil, List.isEmpty_cons, Bool.and_true, Bool.true_and, Bool.or_true, Bool.true_or, Bool.or_false, Bool.false_or, Bool.not_true, Bool.not_false, Nat.reduceAdd, Nat.reduceSub, Nat.reduceLeDiff, Nat.add_zero, Nat.zero_add, Nat.reduceMul, Option.isNone_none, Option.isNone_some, Option.getD_none, true_and, and_true, not_true_eq_false, not_false_eq_true, decide_true, decide_false, List.toList_toArray, Nat.le_refl, and_self, Bool.not_eq_true, Nat.sub_self, or_true, true_or, Option.some.injEq, List.length_map, List.nil_eq, and_false, false_and, AV.live, CV.live, CV.liveIn, K_keep, firstReg, Option.orElse_some, Option.orElse_none, head, keepSlots, keepBoxes, Int.lt_irrefl, List.length_append, ite_self, memOK, logOps, opKey, lentBoxes, Key.clash, Key.sees, Key.writes, Nat.lt_irrefl, gt_iff_lt, nobox_at, bot_at, false_or, or_false, beq_self_eq_true, Bool.true_beq, Bool.false_beq, good_62, good_75, good_69, hr, d1, d2, b1, hrun, wrap_nat i (by omega)]

/-! ### the scanner -/

inductive TS where
  | nils
  | live
  | wr (l : List Tok)
def TS.toks : TS → List Tok
  | .wr l => l
  | _ => []
def TS.cell : TS → CV
  | .nils => .nils
  | .live => .own 0 []
  | .wr l => .own 38 (l.map Tok.enc)
/-- the scanner's box -/
abbrev scan (s : List UInt8) (x : TS) : List CV := [.pv (.str s), x.cell]

theorem lens_tok (a b c : PV) : lens 3 [[a, b, c]] = true := rfl
theorem lens_toks (l : List Tok) : lens 3 (l.map Tok.enc) = true := by simp [lens, Tok.enc]

theorem skip_den (s : List UInt8) (x : TS) (n : Nat) (h : n ≤ s.length) : den K 78 [P0, I n] [scan s x] = some (.ret (.tup []) [scan (s.drop n) x]) := by
  refine den_run rfl Tryd.func78 rfl Tryd.ntmps78 ⟨by simp, by simp [LK]⟩ ?_
  have hr : Tryd.f78.results = #[] := rfl
  have hb : ((0 : Int) ≤ (n : Int) ∧ (n : Int) ≤ (s.length : Int)) = True := eq_true (by omega)
  have hd : (s.take s.length).drop n = s.drop n := by rw [List.take_length]
  cases x <;> simp only [TS.cell, scan, exL_seq, exL_region, exL_cond, exL_block, exL_scope, exL_ret, exL_skip, exL_exit, runRegion, runOps, stepOp, guardA, absOp, takeOver, opd, avOf, cvOf, St.degAt, St.put, okPV, okVal, okAV, absBin, intBin, strBin, boolBin, setBoxes, if_true, Bool.false_eq_true, if_false, Option.map_some, Option.map_none, Option.bind_some, Option.bind_none, thenO, outOf, upd, List.toList_toArray, isOwn, steal, appArgs, inApps, AV.deg, CV.deg, AV.gv, AV.isIter, absNext, some_bne, Nat.reduceLT, reduceIte, reduceCtorEq, Nat.reduceEqDiff, List.length_nil, List.length_cons, apply_ite (Option.map (outOf _)), List.filterMap_cons, List.filterMap_nil, beq_iff_eq, List.getElem?_cons_zero, List.getElem?_cons_succ, Option.getD_some, K_hook, hookB, Nat.reduceBEq, Bool.false_and, Bool.and_false, Bool.and_self, K_P, K_own, absCall, doCall, getBoxes, lend, back, idx, dedup, AV.ren, CV.ren, TV.ren, AV.ptrs, CV.ptrs, zipBox, AV.flat, CV.flat, absLoad, absStore, cellsOfAV, setAt, newBox, markB, bldTypes, absFieldAddr, absField, absExtract, absAssert, noAssert, absMkIface, ifcOf, CV.pv?, content, pushHead, ownT, fillCells, reps, pvs, chunks, enterSt, leave, resOf, resVars, resVar, outBoxes, lentOnly, TV.deg, TV.av, LK, CV.plain, CV.noBld, nilBin, absUn, bound, List.map_cons, List.map_nil, List.all_cons, List.all_nil, List.any_cons, List.any_nil, List.contains_cons, List.contains_nil, List.elem_cons, List.elem_nil, List.cons_append, List.nil_append, List.append_nil, List.flatMap_cons, List.flatMap_nil, List.zip_cons_cons, List.zip_nil_left, List.zip_nil_right, List.take_succ_cons, List.take_zero, List.take_nil, List.drop_succ_cons, List.drop_zero, List.drop_nil, List.isEmpty_nil, List.isEmpty_cons, Bool.and_true, Bool.true_and, Bool.or_true, Bool.true_or, Bool.or_false, Bool.false_or, Bool.not_true, Bool.not_false, Nat.reduceAdd, Nat.reduceSub, Nat.reduceLeDiff, Nat.add_zero, Nat.zero_add, Nat.reduceMul, Option.isNone_none, Option.isNone_some, Option.getD_none, true_and, and_true, not_true_eq_false, not_false_eq_true, decide_true, decide_false, List.toList_toArray, Nat.le_refl, and_self, Bool.not_eq_true, Nat.sub_self, or_true, true_or, Option.some.injEq, List.length_map, List.nil_eq, and_false, false_and, AV.live, CV.live, CV.liveIn, K_keep, firstReg, Option.orElse_some, Option.orElse_none, head, keepSlots, keepBoxes, Int.lt_irrefl, List.length_append, ite_self, memOK, logOps, opKey, lentBoxes, Key.clash, Key.sees, Key.writes, Nat.lt_irrefl, gt_iff_lt, nobox_at, bot_at, false_or, or_false, beq_self_eq_true, Bool.true_beq, Bool.false_beq, ty_fieldOff_84_0, ty_szOf_82, ty_shapeT_82, ev_slice_str ty_descOf_82, hr, hb, Int.toNat_natCast, hd]

theorem put_den (s : List UInt8) (x : TS) (n : Nat) (kind : Int) (text : List UInt8) (v : Int) (h : n ≤ s.length) (hx : x.toks.length < 4000000000) :
    den K 68 [P0, I n, I kind, T text, I v] [scan s x] = some (.ret (.tup []) [scan (s.drop n) (.wr (x.toks ++ [⟨kind, text, v⟩]))]) := by
  refine den_run rfl Tryd.func68 rfl Tryd.ntmps68 ⟨by simp, by simp [LK]⟩ ?_
  have hr : Tryd.f68.results = #[] := rfl
  have hsk := skip_den s (.wr (x.toks ++ [⟨kind, text, v⟩])) n h
  have hl : x.toks.length + 1 < appLim := by simp [appLim]; omega
  cases x <;> simp only [TS.cell, TS.toks, scan, List.map_append, List.map_cons, List.map_nil, Tok.enc, List.nil_append, List.length_nil] at hsk hl ⊢ <;>
    simp only [TS.cell, TS.toks, exL_seq, exL_region, exL_cond, exL_block, exL_scope, exL_ret, exL_skip, exL_exit, runRegion, runOps, stepOp, guardA, absOp, takeOver, opd, avOf, cvOf, St.degAt, St.put, okPV, okVal, okAV, absBin, intBin, strBin, boolBin, setBoxes, if_true, Bool.false_eq_true, if_false, Option.map_some, Option.map_none, Option.bind_some, Option.bind_none, thenO, outOf, upd, List.toList_toArray, isOwn, steal, appArgs, inApps, AV.deg, CV.deg, AV.gv, AV.isIter, absNext, some_bne, Nat.reduceLT, reduceIte, reduceCtorEq, Nat.reduceEqDiff, List.length_nil, List.length_cons, apply_ite (Option.map (outOf _)), List.filterMap_cons, List.filterMap_nil, beq_iff_eq, List.getElem?_cons_zero, List.getElem?_cons_succ, Option.getD_some, K_hook, hookB, Nat.reduceBEq, Bool.false_and, Bool.and_false, Bool.and_self, K_P, K_own, absCall, doCall, getBoxes, lend, back, idx, dedup, AV.ren, CV.ren, TV.ren, AV.ptrs, CV.ptrs, zipBox, AV.flat, CV.flat, absLoad, absStore, cellsOfAV, setAt, newBox, markB, bldTypes, absFieldAddr, absField, absExtract, absAssert, noAssert, absMkIface, ifcOf, CV.pv?, content, pushHead, ownT, fillCells, reps, pvs, chunks, enterSt, leave, resOf, resVars, resVar, outBoxes, lentOnly, TV.deg, TV.av, LK, CV.plain, CV.noBld, nilBin, absUn, bound, List.map_cons, List.map_nil, List.all_cons, List.all_nil, List.any_cons, List.any_nil, List.contains_cons, List.contains_nil, List.elem_cons, List.elem_nil, List.cons_append, List.nil_append, List.append_nil, List.flatMap_cons, List.flatMap_nil, List.zip_cons_cons, List.zip_nil_left, List.zip_nil_right, List.take_succ_cons, List.take_zero, List.take_nil, List.drop_succ_cons, List.drop_zero, List.drop_nil, List.isEmpty_nil, List.isEmpty_cons, Bool.and_true, Bool.true_and, Bool.or_true, Bool.true_or, Bool.or_false, Bool.false_or, Bool.not_true, Bool.not_false, Nat.reduceAdd, Nat.reduceSub, Nat.reduceLeDiff, Nat.add_zero, Nat.zero_add, Nat.reduceMul, Option.isNone_none, Option.isNone_some, Option.getD_none, true_and, and_true, not_true_eq_false, not_false_eq_true, decide_true, decide_false, List.toList_toArray, Nat.le_refl, and_self, Bool.not_eq_true, Nat.sub_self, or_true, true_or, Option.some.injEq, List.length_map, List.nil_eq, and_false, false_and, AV.live, CV.live, CV.liveIn, K_keep, firstReg, Option.orElse_some, Option.orElse_none, head, keepSlots, keepBoxes, Int.lt_irrefl, List.length_append, ite_self, memOK, logOps, opKey, lentBoxes, Key.clash, Key.sees, Key.writes, Nat.lt_irrefl, gt_iff_lt, nobox_at, bot_at, false_or, or_false, beq_self_eq_true, Bool.true_beq, Bool.false_beq, ty_fieldOff_84_1, ty_szOf_22, ty_shapeT_22, ev_build ty_zeroCells_38 ty_placesOf_38, ev_buildSlice (len := 1) ty_descOf_22 ty_szOf_38 ty_zeroCells_38 ⟨rfl, by decide, by decide⟩, ev_append ty_appInfo_22, ev_appNew_sl ty_descOf_22, good_78, hr, hsk, hl, lens_nil, lens_tok, lens_toks, Tok.enc]
end Go.Abs

namespace Go.Abs
open Go Go.Proofs
set_option maxRecDepth 10000

/-! ### plain laws -/

def shutI (r : List UInt8) : Int := match Tk.shut r with | some n => (n : Int) - 2 | none => -1
def innerI (c : UInt8) (r : List UInt8) : Int := match Tk.inner c r with | some n => (n : Int) | none => -1

theorem index_shut : ∀ r : List UInt8, Lib.index r [42, 47] = shutI r
  | [] => rfl
  | b :: l => by
    have ih := index_shut l
    have e : Lib.index (b :: l) [42, 47] = if [42, 47].isPrefixOf (b :: l) then 0 else if Lib.index l [42, 47] == -1 then -1 else Lib.index l [42, 47] + 1 := rfl
    rw [e, ih]
    have hp : ([42, 47].isPrefixOf (b :: l) = true) ↔ (b = 42 ∧ Tk.at0 l = 47) := by
      cases l with
      | nil =>
        refine ⟨fun h => ?_, fun h => absurd h.2 (by decide)⟩
        simp [List.isPrefixOf] at h
      | cons d l =>
        simp only [List.isPrefixOf, Bool.and_true, Bool.and_eq_true, beq_iff_eq, Tk.at0]
        exact ⟨fun h => ⟨h.1.symm, h.2.symm⟩, fun h => ⟨h.1.symm, h.2.symm⟩⟩
    by_cases h : b = 42 ∧ Tk.at0 l = 47
    · rw [if_pos (hp.2 h), shutI, Tk.shut, if_pos h]; rfl
    · rw [if_neg (fun x => h (hp.1 x)), shutI, shutI, Tk.shut, if_neg h]
      cases hs : Tk.shut l with
      | none => rfl
      | some n =>
        have := Tk.shut_le hs
        simp only [Option.map_some]
        rw [if_neg (by rw [beq_iff_eq]; omega)]
        omega

theorem ends_contains (b : UInt8) : ([10, 12, 13] : List UInt8).contains b = Tk.ending b := by
  unfold Tk.ending
  simp only [List.contains_cons, List.contains_nil, Bool.or_false, Bool.or_assoc]

theorem containsAny_cons (b : UInt8) (l : List UInt8) : Lib.containsAny (b :: l) [10, 12, 13] = (Tk.ending b || Lib.containsAny l [10, 12, 13]) := by
  unfold Lib.containsAny
  have e : Lib.indexAny (b :: l) [10, 12, 13] = if ([10, 12, 13] : List UInt8).contains b then 0 else if Lib.indexAny l [10, 12, 13] == -1 then -1 else Lib.indexAny l [10, 12, 13] + 1 := rfl
  rw [e, ends_contains]
  have hge := Lib.indexAny_ge [10, 12, 13] l
  cases Tk.ending b
  · simp only [Bool.false_eq_true, if_false, Bool.false_or]
    by_cases h : Lib.indexAny l [10, 12, 13] = -1
    · rw [if_pos (by rw [h]; rfl), h]
    · rw [if_neg (by simpa using h)]
      exact decide_eq_decide.2 (by omega)
  · rfl

theorem indexByte_app (b : UInt8) (l : List UInt8) (c : UInt8) : Lib.indexByte (b :: l) c = if b == c then 0 else if Lib.indexByte l c == -1 then -1 else Lib.indexByte l c + 1 := rfl

theorem indexByte_lt (c : UInt8) : ∀ r : List UInt8, 0 ≤ Lib.indexByte r c → Lib.indexByte r c < (r.length : Int)
  | [], h => absurd (show (0 : Int) ≤ -1 from h) (by decide)
  | b :: l, h => by
    have ih := indexByte_lt c l
    have hge := Lib.indexByte_ge l c
    rw [indexByte_app] at h ⊢
    simp only [List.length_cons]
    split at h
    · omega
    · split at h
      · omega
      · rename_i h2
        have : Lib.indexByte l c ≠ -1 := by simpa using h2
        have := ih (by omega)
        rw [if_neg h2]; omega

theorem inner_law (c : UInt8) : ∀ r : List UInt8, innerI c r = if 0 ≤ Lib.indexByte r c ∧ Lib.containsAny (r.take (Lib.indexByte r c).toNat) [10, 12, 13] = true then -1 else Lib.indexByte r c
  | [] => rfl
  | b :: l => by
    have ih := inner_law c l
    have hge := Lib.indexByte_ge l c
    by_cases hb : b = c
    · have e : Lib.indexByte (b :: l) c = 0 := by rw [indexByte_app, if_pos (by simp [hb])]
      have hc0 : Lib.containsAny ((b :: l).take (0 : Int).toNat) [10, 12, 13] = false := rfl
      rw [e, innerI, Tk.inner, if_pos hb, hc0]
      rfl
    · by_cases hm : Lib.indexByte l c = -1
      · have e : Lib.indexByte (b :: l) c = -1 := by rw [indexByte_app, if_neg (by simpa using hb), hm]; rfl
        rw [hm, if_neg (by omega)] at ih
        rw [e, if_neg (by omega), innerI, Tk.inner, if_neg hb]
        unfold innerI at ih
        cases hi : Tk.inner c l with
        | none => cases Tk.ending b <;> rfl
        | some n => rw [hi] at ih; simp only at ih; omega
      · have e : Lib.indexByte (b :: l) c = Lib.indexByte l c + 1 := by rw [indexByte_app, if_neg (by simpa using hb), if_neg (by simpa using hm)]
        have ht : (Lib.indexByte l c + 1).toNat = (Lib.indexByte l c).toNat + 1 := by omega
        rw [e, ht, List.take_succ_cons, containsAny_cons, innerI, Tk.inner, if_neg hb]
        unfold innerI at ih
        cases he : Tk.ending b
        · simp only [Bool.false_or, Bool.false_eq_true, if_false]
          by_cases hc : Lib.containsAny (l.take (Lib.indexByte l c).toNat) [10, 12, 13] = true
          · rw [if_pos ⟨by omega, hc⟩]
            rw [if_pos ⟨by omega, hc⟩] at ih
            cases hi : Tk.inner c l with
            | none => rfl
            | some n => rw [hi] at ih; simp only at ih; omega
          · rw [if_neg (fun x => hc x.2)]
            rw [if_neg (fun x => hc x.2)] at ih
            cases hi : Tk.inner c l with
            | none => rw [hi] at ih; simp only at ih; omega
            | some n => rw [hi] at ih; simp only at ih ⊢; simp only [Option.map_some]; omega
        · rw [Bool.true_or, if_pos (⟨by omega, rfl⟩ : 0 ≤ Lib.indexByte l c + 1 ∧ true = true)]
          rfl

/-! ### runs -/

theorem index_den (s p : List UInt8) (h : s.length < 4294967281) : den K 77 [T s, T p] [] = some (.ret (I (Lib.index s p)) []) := by
  refine prim_run (F := pIndex) rfl ?_
  simp [pIndex, h]
theorem indexByte_den (s : List UInt8) (c : UInt8) : den K 66 [T s, U c] [] = some (.ret (I (Lib.indexByte s c)) []) := by
  refine prim_run (F := pIndexByte) rfl ?_
  simp [pIndexByte]
theorem hasPrefix_den (s p : List UInt8) : den K 64 [T s, T p] [] = some (.ret (B (Lib.hasPrefix s p)) []) := prim_run (F := pHasPrefix) rfl rfl
theorem indexAny_den (s : List UInt8) (h : s.length < 4294967281) : den K 87 [T s, T [10, 12, 13]] [] = some (.ret (I (Lib.indexAny s [10, 12, 13])) []) := by
  refine prim_run (F := pIndexAny) rfl ?_
  simp [pIndexAny, h]
theorem containsAny_den (s : List UInt8) (h : s.length < 4294967281) : den K 80 [T s, T [10, 12, 13]] [] = some (.ret (B (Lib.containsAny s [10, 12, 13])) []) := by
  have d := indexAny_den s h
  unfold Lib.containsAny
  refine den_run rfl Tryd.func80 rfl Tryd.ntmps80 ⟨by simp, by simp [LK]⟩ ?_
  have hr : Tryd.f80.results = #[.tmp 4] := rfl
  simp only [exL_seq, exL_region, exL_cond, exL_block, exL_scope, exL_ret, exL_skip, exL_exit, runRegion, runOps, stepOp, guardA, absOp, takeOver, opd, avOf, cvOf, St.degAt, St.put, okPV, okVal, okAV, absBin, intBin, strBin, boolBin, setBoxes, if_true, Bool.false_eq_true, if_false, Option.map_some, Option.map_none, Option.bind_some, Option.bind_none, thenO, outOf, upd, List.toList_toArray, isOwn, steal, appArgs, inApps, AV.deg, CV.deg, AV.gv, AV.isIter, absNext, some_bne, Nat.reduceLT, reduceIte, reduceCtorEq, Nat.reduceEqDiff, List.length_nil, List.length_cons, apply_ite (Option.map (outOf _)), List.filterMap_cons, List.filterMap_nil, beq_iff_eq, List.getElem?_cons_zero, List.getElem?_cons_succ, Option.getD_some, K_hook, hookB, Nat.reduceBEq, Bool.false_and, Bool.and_false, Bool.and_self, K_P, K_own, absCall, doCall, getBoxes, lend, back, idx, dedup, AV.ren, CV.ren, TV.ren, AV.ptrs, CV.ptrs, zipBox, AV.flat, CV.flat, absLoad, absStore, cellsOfAV, setAt, newBox, markB, bldTypes, absFieldAddr, absField, absExtract, absAssert, noAssert, absMkIface, ifcOf, CV.pv?, content, pushHead, ownT, fillCells, reps, pvs, chunks, enterSt, leave, resOf, resVars, resVar, outBoxes, lentOnly, TV.deg, TV.av, LK, CV.plain, CV.noBld, nilBin, absUn, bound, List.map_cons, List.map_nil, List.all_cons, List.all_nil, List.any_cons, List.any_nil, List.contains_cons, List.contains_nil, List.elem_cons, List.elem_nil, List.cons_append, List.nil_append, List.append_nil, List.flatMap_cons, List.flatMap_nil, List.zip_cons_cons, List.zip_nil_left, List.zip_nil_right, List.take_succ_cons, List.take_zero, List.take_nil, List.drop_succ_cons, List.drop_zero, List.drop_nil, List.isEmpty_nil, List.isEmpty_cons, Bool.and_true, Bool.true_and, Bool.or_true, Bool.true_or, Bool.or_false, Bool.false_or, Bool.not_true, Bool.not_false, Nat.reduceAdd, Nat.reduceSub, Nat.reduceLeDiff, Nat.add_zero, Nat.zero_add, Nat.reduceMul, Option.isNone_none, Option.isNone_some, Option.getD_none, true_and, and_true, not_true_eq_false, not_false_eq_true, decide_true, decide_false, List.toList_toArray, Nat.le_refl, and_self, Bool.not_eq_true, Nat.sub_self, or_true, true_or, Option.some.injEq, List.length_map, List.nil_eq, and_false, false_and, AV.live, CV.live, CV.liveIn, K_keep, firstReg, Option.orElse_some, Option.orElse_none, head, keepSlots, keepBoxes, Int.lt_irrefl, List.length_append, ite_self, memOK, logOps, opKey, lentBoxes, Key.clash, Key.sees, Key.writes, Nat.lt_irrefl, gt_iff_lt, nobox_at, bot_at, false_or, or_false, beq_self_eq_true, Bool.true_beq, Bool.false_beq, good_87, hr, d]

theorem comment_den (s : List UInt8) (x : TS) (hs : s.length < 4000000000) (h : 2 ≤ s.length) : den K 65 [P0] [scan s x] = some (.ret (.tup []) [scan (s.drop (Tk.comment (s.drop 2))) x]) := by
  have hi := index_den (s.drop 2) [42, 47] (by simp; omega)
  rw [index_shut] at hi
  unfold shutI at hi
  refine den_run rfl Tryd.func65 rfl Tryd.ntmps65 ⟨by simp, by simp [LK]⟩ ?_
  have hr : Tryd.f65.results = #[] := rfl
  have hb : ((0 : Int) ≤ 2 ∧ (2 : Int) ≤ (s.length : Int)) = True := eq_true (by omega)
  have hd : (s.take s.length).drop 2 = s.drop 2 := by rw [List.take_length]
  have t2 : Int.toNat 2 = 2 := rfl
  unfold Tk.comment
  cases hc : Tk.shut (s.drop 2) with
  | none =>
    rw [hc] at hi
    have hsk := skip_den s x s.length (Nat.le_refl _)
    have hn : decide ((-1 : Int) < 0) = true := by decide
    have hlen : (s.drop 2).length + 2 = s.length := by simp; omega
    rw [hlen]
    cases x <;> simp only [TS.cell, scan] at hsk ⊢ <;> simp only [TS.cell, scan, exL_seq, exL_region, exL_cond, exL_block, exL_scope, exL_ret, exL_skip, exL_exit, runRegion, runOps, stepOp, guardA, absOp, takeOver, opd, avOf, cvOf, St.degAt, St.put, okPV, okVal, okAV, absBin, intBin, strBin, boolBin, setBoxes, if_true, Bool.false_eq_true, if_false, Option.map_some, Option.map_none, Option.bind_some, Option.bind_none, thenO, outOf, upd, List.toList_toArray, isOwn, steal, appArgs, inApps, AV.deg, CV.deg, AV.gv, AV.isIter, absNext, some_bne, Nat.reduceLT, reduceIte, reduceCtorEq, Nat.reduceEqDiff, List.length_nil, List.length_cons, apply_ite (Option.map (outOf _)), List.filterMap_cons, List.filterMap_nil, beq_iff_eq, List.getElem?_cons_zero, List.getElem?_cons_succ, Option.getD_some, K_hook, hookB, Nat.reduceBEq, Bool.false_and, Bool.and_false, Bool.and_self, K_P, K_own, absCall, doCall, getBoxes, lend, back, idx, dedup, AV.ren, CV.ren, TV.ren, AV.ptrs, CV.ptrs, zipBox, AV.flat, CV.flat, absLoad, absStore, cellsOfAV, setAt, newBox, markB, bldTypes, absFieldAddr, absField, absExtract, absAssert, noAssert, absMkIface, ifcOf, CV.pv?, content, pushHead, ownT, fillCells, reps, pvs, chunks, enterSt, leave, resOf, resVars, resVar, outBoxes, lentOnly, TV.deg, TV.av, LK, CV.plain, CV.noBld, nilBin, absUn, bound, List.map_cons, List.map_nil, List.all_cons, List.all_nil, List.any_cons, List.any_nil, List.contains_cons, List.contains_nil, List.elem_cons, List.elem_nil, List.cons_append, List.nil_append, List.append_nil, List.flatMap_cons, List.flatMap_nil, List.zip_cons_cons, List.zip_nil_left, List.zip_nil_right, List.take_succ_cons, List.take_zero, List.take_nil, List.drop_succ_cons, List.drop_zero, List.drop_nil, List.isEmpty_nil, List.isEmpty_cons, Bool.and_true, Bool.true_and, Bool.or_true, Bool.true_or, Bool.or_false, Bool.false_or, Bool.not_true, Bool.not_false, Nat.reduceAdd, Nat.reduceSub, Nat.reduceLeDiff, Nat.add_zero, Nat.zero_add, Nat.reduceMul, Option.isNone_none, Option.isNone_some, Option.getD_none, true_and, and_true, not_true_eq_false, not_false_eq_true, decide_true, decide_false, List.toList_toArray, Nat.le_refl, and_self, Bool.not_eq_true, Nat.sub_self, or_true, true_or, Option.some.injEq, List.length_map, List.nil_eq, and_false, false_and, AV.live, CV.live, CV.liveIn, K_keep, firstReg, Option.orElse_some, Option.orElse_none, head, keepSlots, keepBoxes, Int.lt_irrefl, List.length_append, ite_self, memOK, logOps, opKey, lentBoxes, Key.clash, Key.sees, Key.writes, Nat.lt_irrefl, gt_iff_lt, nobox_at, bot_at, false_or, or_false, beq_self_eq_true, Bool.true_beq, Bool.false_beq, ty_fieldOff_84_0, ty_szOf_82, ty_shapeT_82, ev_slice_str ty_descOf_82, good_77, ev_len_str ty_descOf_82, good_78, hr, hi, hb, t2, Int.toNat_natCast, hd, hn, hsk]
  | some n =>
    rw [hc] at hi
    have hle := Tk.shut_le hc
    simp only [List.length_drop] at hle
    have hsk := skip_den s x (n + 2) (by omega)
    have hn : decide ((n : Int) - 2 < 0) = false := decide_eq_false (by omega)
    have w1 : IntKind.i64.wrap (2 + ((n : Int) - 2)) = (n : Int) := by rw [IntWalk.i64_in _ (by omega)]; omega
    have w2 : IntKind.i64.wrap ((n : Int) + 2) = ((n + 2 : Nat) : Int) := by rw [IntWalk.i64_in _ (by omega)]; rfl
    cases x <;> simp only [TS.cell, scan] at hsk ⊢ <;> simp only [TS.cell, scan, exL_seq, exL_region, exL_cond, exL_block, exL_scope, exL_ret, exL_skip, exL_exit, runRegion, runOps, stepOp, guardA, absOp, takeOver, opd, avOf, cvOf, St.degAt, St.put, okPV, okVal, okAV, absBin, intBin, strBin, boolBin, setBoxes, if_true, Bool.false_eq_true, if_false, Option.map_some, Option.map_none, Option.bind_some, Option.bind_none, thenO, outOf, upd, List.toList_toArray, isOwn, steal, appArgs, inApps, AV.deg, CV.deg, AV.gv, AV.isIter, absNext, some_bne, Nat.reduceLT, reduceIte, reduceCtorEq, Nat.reduceEqDiff, List.length_nil, List.length_cons, apply_ite (Option.map (outOf _)), List.filterMap_cons, List.filterMap_nil, beq_iff_eq, List.getElem?_cons_zero, List.getElem?_cons_succ, Option.getD_some, K_hook, hookB, Nat.reduceBEq, Bool.false_and, Bool.and_false, Bool.and_self, K_P, K_own, absCall, doCall, getBoxes, lend, back, idx, dedup, AV.ren, CV.ren, TV.ren, AV.ptrs, CV.ptrs, zipBox, AV.flat, CV.flat, absLoad, absStore, cellsOfAV, setAt, newBox, markB, bldTypes, absFieldAddr, absField, absExtract, absAssert, noAssert, absMkIface, ifcOf, CV.pv?, content, pushHead, ownT, fillCells, reps, pvs, chunks, enterSt, leave, resOf, resVars, resVar, outBoxes, lentOnly, TV.deg, TV.av, LK, CV.plain, CV.noBld, nilBin, absUn, bound, List.map_cons, List.map_nil, List.all_cons, List.all_nil, List.any_cons, List.any_nil, List.contains_cons, List.contains_nil, List.elem_cons, List.elem_nil, List.cons_append, List.nil_append, List.append_nil, List.flatMap_cons, List.flatMap_nil, List.zip_cons_cons, List.zip_nil_left, List.zip_nil_right, List.take_succ_cons, List.take_zero, List.take_nil, List.drop_succ_cons, List.drop_zero, List.drop_nil, List.isEmpty_nil, List.isEmpty_cons, Bool.and_true, Bool.true_and, Bool.or_true, Bool.true_or, Bool.or_false, Bool.false_or, Bool.not_true, Bool.not_false, Nat.reduceAdd, Nat.reduceSub, Nat.reduceLeDiff, Nat.add_zero, Nat.zero_add, Nat.reduceMul, Option.isNone_none, Option.isNone_some, Option.getD_none, true_and, and_true, not_true_eq_false, not_false_eq_true, decide_true, decide_false, List.toList_toArray, Nat.le_refl, and_self, Bool.not_eq_true, Nat.sub_self, or_true, true_or, Option.some.injEq, List.length_map, List.nil_eq, and_false, false_and, AV.live, CV.live, CV.liveIn, K_keep, firstReg, Option.orElse_some, Option.orElse_none, head, keepSlots, keepBoxes, Int.lt_irrefl, List.length_append, ite_self, memOK, logOps, opKey, lentBoxes, Key.clash, Key.sees, Key.writes, Nat.lt_irrefl, gt_iff_lt, nobox_at, bot_at, false_or, or_false, beq_self_eq_true, Bool.true_beq, Bool.false_beq, ty_fieldOff_84_0, ty_szOf_82, ty_shapeT_82, ev_slice_str ty_descOf_82, good_77, ev_len_str ty_descOf_82, good_78, hr, hi, hb, t2, Int.toNat_natCast, hd, hn, w1, w2, hsk]

theorem inner_den (s : List UInt8) (c : UInt8) (r : List UInt8) (x : TS) (hsr : s = c :: r) (hs : s.length < 4000000000) : den K 70 [P0] [scan s x] = some (.ret (I (innerI c r)) [scan s x]) := by
  have hb : ((0 : Int) ≤ 1 ∧ (1 : Int) ≤ (s.length : Int)) = True := eq_true (by rw [hsr]; simp; omega)
  have hd : (s.take s.length).drop 1 = r := by rw [List.take_length, hsr]; rfl
  have hcell : s[(0 : Int).toNat]? = some c := by rw [hsr]; rfl
  have hrs : r.length ≤ s.length := by rw [hsr]; simp
  clear hsr
  have hi := indexByte_den r c
  have hge := Lib.indexByte_ge r c
  have hlt := indexByte_lt c r
  rw [inner_law]
  generalize Lib.indexByte r c = n at hi hge hlt
  refine den_run rfl Tryd.func70 rfl Tryd.ntmps70 ⟨by simp, by simp [LK]⟩ ?_
  have hr : Tryd.f70.results = #[.tmp 2] := rfl
  have t1 : Int.toNat 1 = 1 := rfl
  by_cases h0 : 0 ≤ n
  · have hc := containsAny_den (r.take n.toNat) (by rw [List.length_take]; omega)
    have hn : decide (0 ≤ n) = true := decide_eq_true h0
    have hb2 : ((0 : Int) ≤ n ∧ n ≤ (r.length : Int)) = True := eq_true (by have := hlt h0; omega)
    cases hv : Lib.containsAny (r.take n.toNat) [10, 12, 13]
    · rw [hv] at hc
      rw [if_neg (fun e => by cases e.2)]
      cases x <;> simp only [TS.cell, scan] <;> simp only [TS.cell, scan, exL_seq, exL_region, exL_cond, exL_block, exL_scope, exL_ret, exL_skip, exL_exit, runRegion, runOps, stepOp, guardA, absOp, takeOver, opd, avOf, cvOf, St.degAt, St.put, okPV, okVal, okAV, absBin, intBin, strBin, boolBin, setBoxes, if_true, Bool.false_eq_true, if_false, Option.map_some, Option.map_none, Option.bind_some, Option.bind_none, thenO, outOf, upd, List.toList_toArray, isOwn, steal, appArgs, inApps, AV.deg, CV.deg, AV.gv, AV.isIter, absNext, some_bne, Nat.reduceLT, reduceIte, reduceCtorEq, Nat.reduceEqDiff, List.length_nil, List.length_cons, apply_ite (Option.map (outOf _)), List.filterMap_cons, List.filterMap_nil, beq_iff_eq, List.getElem?_cons_zero, List.getElem?_cons_succ, Option.getD_some, K_hook, hookB, Nat.reduceBEq, Bool.false_and, Bool.and_false, Bool.and_self, K_P, K_own, absCall, doCall, getBoxes, lend, back, idx, dedup, AV.ren, CV.ren, TV.ren, AV.ptrs, CV.ptrs, zipBox, AV.flat, CV.flat, absLoad, absStore, cellsOfAV, setAt, newBox, markB, bldTypes, absFieldAddr, absField, absExtract, absAssert, noAssert, absMkIface, ifcOf, CV.pv?, content, pushHead, ownT, fillCells, reps, pvs, chunks, enterSt, leave, resOf, resVars, resVar, outBoxes, lentOnly, TV.deg, TV.av, LK, CV.plain, CV.noBld, nilBin, absUn, bound, List.map_cons, List.map_nil, List.all_cons, List.all_nil, List.any_cons, List.any_nil, List.contains_cons, List.contains_nil, List.elem_cons, List.elem_nil, List.cons_append, List.nil_append, List.append_nil, List.flatMap_cons, List.flatMap_nil, List.zip_cons_cons, List.zip_nil_left, List.zip_nil_right, List.take_succ_cons, List.take_zero, List.take_nil, List.drop_succ_cons, List.drop_zero, List.drop_nil, List.isEmpty_nil, List.isEmpty_cons, Bool.and_true, Bool.true_and, Bool.or_true, Bool.true_or, Bool.or_false, Bool.false_or, Bool.not_true, Bool.not_false, Nat.reduceAdd, Nat.reduceSub, Nat.reduceLeDiff, Nat.add_zero, Nat.zero_add, Nat.reduceMul, Option.isNone_none, Option.isNone_some, Option.getD_none, true_and, and_true, not_true_eq_false, not_false_eq_true, decide_true, decide_false, List.toList_toArray, Nat.le_refl, and_self, Bool.not_eq_true, Nat.sub_self, or_true, true_or, Option.some.injEq, List.length_map, List.nil_eq, and_false, false_and, AV.live, CV.live, CV.liveIn, K_keep, firstReg, Option.orElse_some, Option.orElse_none, head, keepSlots, keepBoxes, Int.lt_irrefl, List.length_append, ite_self, memOK, logOps, opKey, lentBoxes, Key.clash, Key.sees, Key.writes, Nat.lt_irrefl, gt_iff_lt, nobox_at, bot_at, false_or, or_false, beq_self_eq_true, Bool.true_beq, Bool.false_beq, ty_fieldOff_84_0, ty_szOf_82, ty_shapeT_82, ev_slice_str ty_descOf_82, ev_index ty_descOf_82, good_66, ev_slice_str ty_descOf_9, good_80, hr, hi, hb, hd, hn, t1, hb2, hc, hcell, Int.le_refl]
    · rw [hv] at hc
      rw [if_pos ⟨h0, rfl⟩]
      cases x <;> simp only [TS.cell, scan] <;> simp only [TS.cell, scan, exL_seq, exL_region, exL_cond, exL_block, exL_scope, exL_ret, exL_skip, exL_exit, runRegion, runOps, stepOp, guardA, absOp, takeOver, opd, avOf, cvOf, St.degAt, St.put, okPV, okVal, okAV, absBin, intBin, strBin, boolBin, setBoxes, if_true, Bool.false_eq_true, if_false, Option.map_some, Option.map_none, Option.bind_some, Option.bind_none, thenO, outOf, upd, List.toList_toArray, isOwn, steal, appArgs, inApps, AV.deg, CV.deg, AV.gv, AV.isIter, absNext, some_bne, Nat.reduceLT, reduceIte, reduceCtorEq, Nat.reduceEqDiff, List.length_nil, List.length_cons, apply_ite (Option.map (outOf _)), List.filterMap_cons, List.filterMap_nil, beq_iff_eq, List.getElem?_cons_zero, List.getElem?_cons_succ, Option.getD_some, K_hook, hookB, Nat.reduceBEq, Bool.false_and, Bool.and_false, Bool.and_self, K_P, K_own, absCall, doCall, getBoxes, lend, back, idx, dedup, AV.ren, CV.ren, TV.ren, AV.ptrs, CV.ptrs, zipBox, AV.flat, CV.flat, absLoad, absStore, cellsOfAV, setAt, newBox, markB, bldTypes, absFieldAddr, absField, absExtract, absAssert, noAssert, absMkIface, ifcOf, CV.pv?, content, pushHead, ownT, fillCells, reps, pvs, chunks, enterSt, leave, resOf, resVars, resVar, outBoxes, lentOnly, TV.deg, TV.av, LK, CV.plain, CV.noBld, nilBin, absUn, bound, List.map_cons, List.map_nil, List.all_cons, List.all_nil, List.any_cons, List.any_nil, List.contains_cons, List.contains_nil, List.elem_cons, List.elem_nil, List.cons_append, List.nil_append, List.append_nil, List.flatMap_cons, List.flatMap_nil, List.zip_cons_cons, List.zip_nil_left, List.zip_nil_right, List.take_succ_cons, List.take_zero, List.take_nil, List.drop_succ_cons, List.drop_zero, List.drop_nil, List.isEmpty_nil, List.isEmpty_cons, Bool.and_true, Bool.true_and, Bool.or_true, Bool.true_or, Bool.or_false, Bool.false_or, Bool.not_true, Bool.not_false, Nat.reduceAdd, Nat.reduceSub, Nat.reduceLeDiff, Nat.add_zero, Nat.zero_add, Nat.reduceMul, Option.isNone_none, Option.isNone_some, Option.getD_none, true_and, and_true, not_true_eq_false, not_false_eq_true, decide_true, decide_false, List.toList_toArray, Nat.le_refl, and_self, Bool.not_eq_true, Nat.sub_self, or_true, true_or, Option.some.injEq, List.length_map, List.nil_eq, and_false, false_and, AV.live, CV.live, CV.liveIn, K_keep, firstReg, Option.orElse_some, Option.orElse_none, head, keepSlots, keepBoxes, Int.lt_irrefl, List.length_append, ite_self, memOK, logOps, opKey, lentBoxes, Key.clash, Key.sees, Key.writes, Nat.lt_irrefl, gt_iff_lt, nobox_at, bot_at, false_or, or_false, beq_self_eq_true, Bool.true_beq, Bool.false_beq, ty_fieldOff_84_0, ty_szOf_82, ty_shapeT_82, ev_slice_str ty_descOf_82, ev_index ty_descOf_82, good_66, ev_slice_str ty_descOf_9, good_80, hr, hi, hb, hd, hn, t1, hb2, hc, hcell, Int.le_refl]
  · have hn : decide (0 ≤ n) = false := decide_eq_false h0
    rw [if_neg (fun e => h0 e.1)]
    cases x <;> simp only [TS.cell, scan] <;> simp only [TS.cell, scan, exL_seq, exL_region, exL_cond, exL_block, exL_scope, exL_ret, exL_skip, exL_exit, runRegion, runOps, stepOp, guardA, absOp, takeOver, opd, avOf, cvOf, St.degAt, St.put, okPV, okVal, okAV, absBin, intBin, strBin, boolBin, setBoxes, if_true, Bool.false_eq_true, if_false, Option.map_some, Option.map_none, Option.bind_some, Option.bind_none, thenO, outOf, upd, List.toList_toArray, isOwn, steal, appArgs, inApps, AV.deg, CV.deg, AV.gv, AV.isIter, absNext, some_bne, Nat.reduceLT, reduceIte, reduceCtorEq, Nat.reduceEqDiff, List.length_nil, List.length_cons, apply_ite (Option.map (outOf _)), List.filterMap_cons, List.filterMap_nil, beq_iff_eq, List.getElem?_cons_zero, List.getElem?_cons_succ, Option.getD_some, K_hook, hookB, Nat.reduceBEq, Bool.false_and, Bool.and_false, Bool.and_self, K_P, K_own, absCall, doCall, getBoxes, lend, back, idx, dedup, AV.ren, CV.ren, TV.ren, AV.ptrs, CV.ptrs, zipBox, AV.flat, CV.flat, absLoad, absStore, cellsOfAV, setAt, newBox, markB, bldTypes, absFieldAddr, absField, absExtract, absAssert, noAssert, absMkIface, ifcOf, CV.pv?, content, pushHead, ownT, fillCells, reps, pvs, chunks, enterSt, leave, resOf, resVars, resVar, outBoxes, lentOnly, TV.deg, TV.av, LK, CV.plain, CV.noBld, nilBin, absUn, bound, List.map_cons, List.map_nil, List.all_cons, List.all_nil, List.any_cons, List.any_nil, List.contains_cons, List.contains_nil, List.elem_cons, List.elem_nil, List.cons_append, List.nil_append, List.append_nil, List.flatMap_cons, List.flatMap_nil, List.zip_cons_cons, List.zip_nil_left, List.zip_nil_right, List.take_succ_cons, List.take_zero, List.take_nil, List.drop_succ_cons, List.drop_zero, List.drop_nil, List.isEmpty_nil, List.isEmpty_cons, Bool.and_true, Bool.true_and, Bool.or_true, Bool.true_or, Bool.or_false, Bool.false_or, Bool.not_true, Bool.not_false, Nat.reduceAdd, Nat.reduceSub, Nat.reduceLeDiff, Nat.add_zero, Nat.zero_add, Nat.reduceMul, Option.isNone_none, Option.isNone_some, Option.getD_none, true_and, and_true, not_true_eq_false, not_false_eq_true, decide_true, decide_false, List.toList_toArray, Nat.le_refl, and_self, Bool.not_eq_true, Nat.sub_self, or_true, true_or, Option.some.injEq, List.length_map, List.nil_eq, and_false, false_and, AV.live, CV.live, CV.liveIn, K_keep, firstReg, Option.orElse_some, Option.orElse_none, head, keepSlots, keepBoxes, Int.lt_irrefl, List.length_append, ite_self, memOK, logOps, opKey, lentBoxes, Key.clash, Key.sees, Key.writes, Nat.lt_irrefl, gt_iff_lt, nobox_at, bot_at, false_or, or_false, beq_self_eq_true, Bool.true_beq, Bool.false_beq, ty_fieldOff_84_0, ty_szOf_82, ty_shapeT_82, ev_slice_str ty_descOf_82, ev_index ty_descOf_82, good_66, ev_slice_str ty_descOf_9, good_80, hr, hi, hb, hd, hn, t1, hcell, Int.le_refl]
end Go.Abs
