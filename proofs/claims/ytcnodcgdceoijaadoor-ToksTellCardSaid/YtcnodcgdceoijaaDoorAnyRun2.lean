/-
  strings.IndexAny of a text of at most eight bytes, as an interpreter runs it: where the first byte stands that ends a line.
-/
import Derived.Test.YtcnodcgdceoijaaDoorAnyRun
set_option linter.unusedSimpArgs false
set_option linter.unusedVariables false
namespace Go.Abs
open Go Go.Proofs
set_option maxRecDepth 10000

/-! ### what an iterator meets -/

theorem decode_width (s : ByteArray) (pos : Nat) (h : pos < s.size) : pos + (Utf8.decode s pos).2 ≤ s.size := by
  simp only [Utf8.decode]
  repeat' split
  all_goals simp_all
  all_goals omega
theorem decode_bytes (s : ByteArray) (pos : Nat) (h : pos < s.size) (ha : 128 ≤ (s[pos]'h).toNat) : ∀ j, pos ≤ j → j < pos + (Utf8.decode s pos).2 → 128 ≤ (s.get! j).toNat := by
  have hn : ¬ (s[pos]'h).toNat < 128 := by omega
  have h0 : 128 ≤ (s.get! pos).toNat := by have := get_at s pos h; rw [Nat.add_zero] at this; rw [this]; exact ha
  intro j h1 h2
  obtain ⟨k, rfl⟩ : ∃ k, j = pos + k := ⟨j - pos, by omega⟩
  have h3 : k < (Utf8.decode s pos).2 := by omega
  clear h1 h2
  simp only [Utf8.decode, get_at s pos h, hn, if_false] at h3
  have key : k = 0 ∨ k = 1 ∧ (s.get! (pos + 1)).toNat / 64 = 2 ∨ k = 2 ∧ (s.get! (pos + 2)).toNat / 64 = 2 ∨ k = 3 ∧ (s.get! (pos + 3)).toNat / 64 = 2 := by
    revert h3
    repeat' split
    all_goals simp_all
    all_goals omega
  rcases key with rfl | ⟨rfl, e⟩ | ⟨rfl, e⟩ | ⟨rfl, e⟩
  · exact h0
  all_goals omega

/-- what is read at a place of a text -/
theorem decode_at (s : List UInt8) (pos : Nat) (h : pos < s.length) : ∃ (r wd : Nat), Utf8.decode ⟨s.toArray⟩ pos = (r, wd) ∧ 1 ≤ wd ∧ pos + wd ≤ s.length ∧ r ≤ 2147483647 ∧
    ((r < 128 ∧ wd = 1 ∧ ∃ b, s[pos]? = some b ∧ b.toNat = r) ∨ (128 ≤ r ∧ ∀ j b, pos ≤ j → j < pos + wd → s[j]? = some b → 128 ≤ b.toNat)) := by
  have hs : (⟨s.toArray⟩ : ByteArray).size = s.length := by simp [ByteArray.size]
  have hp : pos < (⟨s.toArray⟩ : ByteArray).size := by rw [hs]; exact h
  have hb : s[pos]? = some ((⟨s.toArray⟩ : ByteArray)[pos]'hp) := by
    rw [List.getElem?_eq_getElem h]; rfl
  have hw := decode_width ⟨s.toArray⟩ pos hp
  have hle := decode_le ⟨s.toArray⟩ pos
  rw [hs] at hw
  by_cases hc : ((⟨s.toArray⟩ : ByteArray)[pos]'hp).toNat < 128
  · have e := decode_ascii ⟨s.toArray⟩ pos hp hc
    refine ⟨_, _, e, Nat.le_refl _, by omega, by omega, .inl ⟨hc, rfl, _, hb, rfl⟩⟩
  · have e := decode_high ⟨s.toArray⟩ pos hp (by omega)
    refine ⟨_, _, rfl, e.2, hw, hle, .inr ⟨e.1, fun j b h1 h2 hj => ?_⟩⟩
    have h3 := decode_bytes ⟨s.toArray⟩ pos hp (by omega) j h1 h2
    have h4 : (⟨s.toArray⟩ : ByteArray).get! j = b := by
      have hlt : j < s.length := (List.getElem?_eq_some_iff.1 hj).1
      have := get_at ⟨s.toArray⟩ j (by rw [hs]; exact hlt)
      rw [Nat.add_zero] at this
      rw [this]
      rw [List.getElem?_eq_getElem hlt] at hj
      exact Option.some.inj hj
    rw [h4] at h3
    exact h3

theorem NoAny_more {s chars : List UInt8} {i j : Nat} (h : Lib.NoAny s chars i) (h2 : ∀ k b, i ≤ k → k < j → s[k]? = some b → chars.contains b = false) : Lib.NoAny s chars j := fun k b hk hb => by
  by_cases hki : k < i
  · exact h k b hki hb
  · exact h2 k b (by omega) hk hb
/-! ### the short road -/

/-- the loop whose first region has a number -/
def findLoop0 (r : Nat) : Code → Option Code
  | .loop a => bif Nat.beq ((firstReg a).getD 0) r then some a else findLoop0 r a
  | .seq a b => (findLoop0 r a).orElse fun _ => findLoop0 r b
  | .cond _ a b => (findLoop0 r a).orElse fun _ => findLoop0 r b
  | .block _ a => findLoop0 r a
  | .scope a => findLoop0 r a
  | _ => none
def loopAt0 (fn : Func) (r : Nat) : Code := ((fn.body.bind (findLoop0 r))).getD .skip

abbrev anyH (s : List UInt8) (i : Nat) : St := { sl := upd (upd bot 45 (.c (.iter s i))) 1 (.c (.pv (.str endsL))), bx := nobox, nt := 55 }

theorem high_not {b : UInt8} (h : 128 ≤ b.toNat) : endsL.contains b = false := by
  cases hc : endsL.contains b
  · rfl
  · have : b ∈ endsL := by simpa using hc
    have : b = 10 ∨ b = 12 ∨ b = 13 := by simpa [endsL] using this
    rcases this with rfl | rfl | rfl <;> exact absurd h (by decide)

theorem any0_loop (s : List UInt8) (h8 : s.length ≤ 8) : ∀ (k i : Nat) (S : St), s.length - i ≤ k → i ≤ s.length → head ([1, 45], []) S = anyH s i → Lib.NoAny s endsL i →
    Ends (exL K0 114 (.loop (loopAt0 Tryd.f114 18)) S) fun o S => (o = .ret ∧ S.sl 4 = .c (.pv (.int .i64 (Lib.indexAny s endsL))) ∨ Lib.indexAny s endsL = -1 ∧ o = .exit 2) ∧ S.nt = 55 := by
  intro k
  induction k with
  | zero =>
    intro i S hk hi hS hno
    obtain rfl : i = s.length := by omega
    have e := Lib.indexAny_none hno
    conv in loopAt0 _ _ => whnf
    rw [exL_loop]
    simp only [firstReg, Option.orElse_some, Option.getD_some, K0_keep, K0_keep18, hS]
    simp only [exL_seq, exL_cond, exL_block, exL_scope, exL_ret, exL_skip, exL_exit, runRegion, runOps, stepOp, guardA, absOp, takeOver, opd, avOf, cvOf, St.degAt, St.put, okPV, okVal, okAV, absBin, intBin, strBin, boolBin, setBoxes, if_true, Bool.false_eq_true, if_false, Option.map_some, Option.map_none, Option.bind_some, Option.bind_none, thenO, outOf, upd, List.toList_toArray, isOwn, steal, appArgs, inApps, AV.deg, CV.deg, AV.gv, AV.isIter, absNext, some_bne, Nat.reduceLT, reduceIte, reduceCtorEq, Nat.reduceEqDiff, List.length_nil, List.length_cons, apply_ite (Option.map (outOf _)), List.filterMap_cons, List.filterMap_nil, beq_iff_eq, List.getElem?_cons_zero, List.getElem?_cons_succ, Option.getD_some, Nat.reduceBEq, Bool.false_and, Bool.and_false, Bool.and_self, absCall, doCall, getBoxes, lend, back, idx, dedup, AV.ren, CV.ren, TV.ren, AV.ptrs, CV.ptrs, zipBox, AV.flat, CV.flat, absLoad, absStore, cellsOfAV, setAt, newBox, markB, bldTypes, absFieldAddr, absField, absExtract, absAssert, noAssert, absMkIface, ifcOf, CV.pv?, content, pushHead, ownT, fillCells, reps, pvs, chunks, enterSt, leave, resOf, resVars, resVar, outBoxes, lentOnly, TV.deg, TV.av, LK, CV.plain, CV.noBld, nilBin, absUn, bound, List.map_cons, List.map_nil, List.all_cons, List.all_nil, List.any_cons, List.any_nil, List.contains_cons, List.contains_nil, List.elem_cons, List.elem_nil, List.cons_append, List.nil_append, List.append_nil, List.flatMap_cons, List.flatMap_nil, List.zip_cons_cons, List.zip_nil_left, List.zip_nil_right, List.take_succ_cons, List.take_zero, List.take_nil, List.drop_succ_cons, List.drop_zero, List.drop_nil, List.isEmpty_nil, List.isEmpty_cons, Bool.and_true, Bool.true_and, Bool.or_true, Bool.true_or, Bool.or_false, Bool.false_or, Bool.not_true, Bool.not_false, Nat.reduceAdd, Nat.reduceSub, Nat.reduceLeDiff, Nat.add_zero, Nat.zero_add, Nat.reduceMul, Option.isNone_none, Option.isNone_some, Option.getD_none, true_and, and_true, not_true_eq_false, not_false_eq_true, decide_true, decide_false, List.toList_toArray, Nat.le_refl, and_self, Bool.not_eq_true, Nat.sub_self, or_true, true_or, Option.some.injEq, List.length_map, List.nil_eq, and_false, false_and, AV.live, CV.live, CV.liveIn, firstReg, Option.orElse_some, Option.orElse_none, head, keepSlots, keepBoxes, Int.lt_irrefl, List.length_append, ite_self, memOK, logOps, opKey, lentBoxes, Key.clash, Key.sees, Key.writes, Nat.lt_irrefl, gt_iff_lt, nobox_at, bot_at, false_or, or_false, beq_self_eq_true, Bool.true_beq, Bool.false_beq, region0, K0_own, K0_keep, K0_P, ends_some, e]
  | succ k ih =>
    intro i S hk hi hS hno
    by_cases hlt : i < s.length
    case neg => exact ih i S (by omega) hi hS hno
    obtain ⟨r, wd, hd, hw1, hw2, hr, hcase⟩ := decode_at s i hlt
    have hit : iterNext s i = i + wd := by unfold iterNext; rw [hd]
    have hr0 : (0 : Int) ≤ (r : Int) ∧ (r : Int) ≤ 2147483647 := by omega
    have hru := rune0_den (r : Int) hr0
    obtain ⟨v, hv⟩ : ∃ v, (if (r : Int) < 128 then Lib.indexByte endsL (r : Int).toNat.toUInt8 else -1) = v := ⟨_, rfl⟩
    rw [hv] at hru
    have ih' := ih (i + wd)
    conv at ih' in loopAt0 _ _ => whnf
    conv in loopAt0 _ _ => whnf
    rw [exL_loop]
    simp only [firstReg, Option.orElse_some, Option.getD_some, K0_keep, K0_keep18, hS]
    cases hdec : decide (0 ≤ v)
    · have hno' : Lib.NoAny s endsL (i + wd) := by
        refine NoAny_more hno fun j b h1 h2 hj => ?_
        rcases hcase with ⟨hr1, rfl, b', hb', hbr⟩ | ⟨hr1, hall⟩
        · obtain rfl : j = i := by omega
          rw [hj] at hb'
          cases hb'
          rw [if_pos (by omega)] at hv
          have hback : ((r : Int)).toNat.toUInt8 = b := by rw [← hbr]; simp
          rw [hback] at hv
          rw [Lib.contains_iff_indexByte, hv, hdec]
        · exact high_not (hall j b h1 h2 hj)
      simp only [exL_seq, exL_cond, exL_block, exL_scope, exL_ret, exL_skip, exL_exit, runRegion, runOps, stepOp, guardA, absOp, takeOver, opd, avOf, cvOf, St.degAt, St.put, okPV, okVal, okAV, absBin, intBin, strBin, boolBin, setBoxes, if_true, Bool.false_eq_true, if_false, Option.map_some, Option.map_none, Option.bind_some, Option.bind_none, thenO, outOf, upd, List.toList_toArray, isOwn, steal, appArgs, inApps, AV.deg, CV.deg, AV.gv, AV.isIter, absNext, some_bne, Nat.reduceLT, reduceIte, reduceCtorEq, Nat.reduceEqDiff, List.length_nil, List.length_cons, apply_ite (Option.map (outOf _)), List.filterMap_cons, List.filterMap_nil, beq_iff_eq, List.getElem?_cons_zero, List.getElem?_cons_succ, Option.getD_some, Nat.reduceBEq, Bool.false_and, Bool.and_false, Bool.and_self, absCall, doCall, getBoxes, lend, back, idx, dedup, AV.ren, CV.ren, TV.ren, AV.ptrs, CV.ptrs, zipBox, AV.flat, CV.flat, absLoad, absStore, cellsOfAV, setAt, newBox, markB, bldTypes, absFieldAddr, absField, absExtract, absAssert, noAssert, absMkIface, ifcOf, CV.pv?, content, pushHead, ownT, fillCells, reps, pvs, chunks, enterSt, leave, resOf, resVars, resVar, outBoxes, lentOnly, TV.deg, TV.av, LK, CV.plain, CV.noBld, nilBin, absUn, bound, List.map_cons, List.map_nil, List.all_cons, List.all_nil, List.any_cons, List.any_nil, List.contains_cons, List.contains_nil, List.elem_cons, List.elem_nil, List.cons_append, List.nil_append, List.append_nil, List.flatMap_cons, List.flatMap_nil, List.zip_cons_cons, List.zip_nil_left, List.zip_nil_right, List.take_succ_cons, List.take_zero, List.take_nil, List.drop_succ_cons, List.drop_zero, List.drop_nil, List.isEmpty_nil, List.isEmpty_cons, Bool.and_true, Bool.true_and, Bool.or_true, Bool.true_or, Bool.or_false, Bool.false_or, Bool.not_true, Bool.not_false, Nat.reduceAdd, Nat.reduceSub, Nat.reduceLeDiff, Nat.add_zero, Nat.zero_add, Nat.reduceMul, Option.isNone_none, Option.isNone_some, Option.getD_none, true_and, and_true, not_true_eq_false, not_false_eq_true, decide_true, decide_false, List.toList_toArray, Nat.le_refl, and_self, Bool.not_eq_true, Nat.sub_self, or_true, true_or, Option.some.injEq, List.length_map, List.nil_eq, and_false, false_and, AV.live, CV.live, CV.liveIn, firstReg, Option.orElse_some, Option.orElse_none, head, keepSlots, keepBoxes, Int.lt_irrefl, List.length_append, ite_self, memOK, logOps, opKey, lentBoxes, Key.clash, Key.sees, Key.writes, Nat.lt_irrefl, gt_iff_lt, nobox_at, bot_at, false_or, or_false, beq_self_eq_true, Bool.true_beq, Bool.false_beq, region0, K0_own, K0_keep, K0_P, K0_good2, hlt, hd, hit, hru, hdec]
      refine ih' _ (by omega) hw2 ?_ hno'
      rfl
    · have hgo : Lib.indexAny s endsL = (i : Int) := by
        rcases hcase with ⟨hr1, rfl, b', hb', hbr⟩ | ⟨hr1, hall⟩
        · rw [if_pos (by omega)] at hv
          have hback : ((r : Int)).toNat.toUInt8 = b' := by rw [← hbr]; simp
          rw [hback] at hv
          exact Lib.indexAny_hit hno hb' (by rw [Lib.contains_iff_indexByte, hv, hdec])
        · rw [if_neg (by omega)] at hv
          rw [← hv] at hdec
          cases hdec
      simp only [exL_seq, exL_cond, exL_block, exL_scope, exL_ret, exL_skip, exL_exit, runRegion, runOps, stepOp, guardA, absOp, takeOver, opd, avOf, cvOf, St.degAt, St.put, okPV, okVal, okAV, absBin, intBin, strBin, boolBin, setBoxes, if_true, Bool.false_eq_true, if_false, Option.map_some, Option.map_none, Option.bind_some, Option.bind_none, thenO, outOf, upd, List.toList_toArray, isOwn, steal, appArgs, inApps, AV.deg, CV.deg, AV.gv, AV.isIter, absNext, some_bne, Nat.reduceLT, reduceIte, reduceCtorEq, Nat.reduceEqDiff, List.length_nil, List.length_cons, apply_ite (Option.map (outOf _)), List.filterMap_cons, List.filterMap_nil, beq_iff_eq, List.getElem?_cons_zero, List.getElem?_cons_succ, Option.getD_some, Nat.reduceBEq, Bool.false_and, Bool.and_false, Bool.and_self, absCall, doCall, getBoxes, lend, back, idx, dedup, AV.ren, CV.ren, TV.ren, AV.ptrs, CV.ptrs, zipBox, AV.flat, CV.flat, absLoad, absStore, cellsOfAV, setAt, newBox, markB, bldTypes, absFieldAddr, absField, absExtract, absAssert, noAssert, absMkIface, ifcOf, CV.pv?, content, pushHead, ownT, fillCells, reps, pvs, chunks, enterSt, leave, resOf, resVars, resVar, outBoxes, lentOnly, TV.deg, TV.av, LK, CV.plain, CV.noBld, nilBin, absUn, bound, List.map_cons, List.map_nil, List.all_cons, List.all_nil, List.any_cons, List.any_nil, List.contains_cons, List.contains_nil, List.elem_cons, List.elem_nil, List.cons_append, List.nil_append, List.append_nil, List.flatMap_cons, List.flatMap_nil, List.zip_cons_cons, List.zip_nil_left, List.zip_nil_right, List.take_succ_cons, List.take_zero, List.take_nil, List.drop_succ_cons, List.drop_zero, List.drop_nil, List.isEmpty_nil, List.isEmpty_cons, Bool.and_true, Bool.true_and, Bool.or_true, Bool.true_or, Bool.or_false, Bool.false_or, Bool.not_true, Bool.not_false, Nat.reduceAdd, Nat.reduceSub, Nat.reduceLeDiff, Nat.add_zero, Nat.zero_add, Nat.reduceMul, Option.isNone_none, Option.isNone_some, Option.getD_none, true_and, and_true, not_true_eq_false, not_false_eq_true, decide_true, decide_false, List.toList_toArray, Nat.le_refl, and_self, Bool.not_eq_true, Nat.sub_self, or_true, true_or, Option.some.injEq, List.length_map, List.nil_eq, and_false, false_and, AV.live, CV.live, CV.liveIn, firstReg, Option.orElse_some, Option.orElse_none, head, keepSlots, keepBoxes, Int.lt_irrefl, List.length_append, ite_self, memOK, logOps, opKey, lentBoxes, Key.clash, Key.sees, Key.writes, Nat.lt_irrefl, gt_iff_lt, nobox_at, bot_at, false_or, or_false, beq_self_eq_true, Bool.true_beq, Bool.false_beq, region0, K0_own, K0_keep, K0_P, K0_good2, hlt, hd, hit, hru, hdec, ends_some, hgo]

theorem any0_den (s : List UInt8) (h8 : s.length ≤ 8) : den K0 114 [.c (.pv (.str s)), .c (.pv (.str endsL))] [] = some (.ret (.c (.pv (.int .i64 (Lib.indexAny s endsL)))) []) := by
  have hr : Tryd.f114.results = #[.tmp 4] := rfl
  have hu := use0_den (s.length : Int)
  have h8d : decide ((8 : Int) < (s.length : Int)) = false := decide_eq_false (by omega)
  rw [h8d] at hu
  have hloop := any0_loop s h8 s.length 0
  conv at hloop in loopAt0 _ _ => whnf
  refine den_run0 rfl Tryd.func114 rfl Tryd.ntmps114 ⟨by simp, by simp [LK]⟩ ?_
  have e0 : (endsL == []) = false := by decide
  have e1 : (((3 : Nat) : Int) == 1) = false := by decide
  simp only [exL_seq, exL_cond, exL_block, exL_scope, exL_ret, exL_skip, exL_exit, runRegion, runOps, stepOp, guardA, absOp, takeOver, opd, avOf, cvOf, St.degAt, St.put, okPV, okVal, okAV, absBin, intBin, strBin, boolBin, setBoxes, if_true, Bool.false_eq_true, if_false, Option.map_some, Option.map_none, Option.bind_some, Option.bind_none, thenO, outOf, upd, List.toList_toArray, isOwn, steal, appArgs, inApps, AV.deg, CV.deg, AV.gv, AV.isIter, absNext, some_bne, Nat.reduceLT, reduceIte, reduceCtorEq, Nat.reduceEqDiff, List.length_nil, List.length_cons, apply_ite (Option.map (outOf _)), List.filterMap_cons, List.filterMap_nil, beq_iff_eq, List.getElem?_cons_zero, List.getElem?_cons_succ, Option.getD_some, Nat.reduceBEq, Bool.false_and, Bool.and_false, Bool.and_self, absCall, doCall, getBoxes, lend, back, idx, dedup, AV.ren, CV.ren, TV.ren, AV.ptrs, CV.ptrs, zipBox, AV.flat, CV.flat, absLoad, absStore, cellsOfAV, setAt, newBox, markB, bldTypes, absFieldAddr, absField, absExtract, absAssert, noAssert, absMkIface, ifcOf, CV.pv?, content, pushHead, ownT, fillCells, reps, pvs, chunks, enterSt, leave, resOf, resVars, resVar, outBoxes, lentOnly, TV.deg, TV.av, LK, CV.plain, CV.noBld, nilBin, absUn, bound, List.map_cons, List.map_nil, List.all_cons, List.all_nil, List.any_cons, List.any_nil, List.contains_cons, List.contains_nil, List.elem_cons, List.elem_nil, List.cons_append, List.nil_append, List.append_nil, List.flatMap_cons, List.flatMap_nil, List.zip_cons_cons, List.zip_nil_left, List.zip_nil_right, List.take_succ_cons, List.take_zero, List.take_nil, List.drop_succ_cons, List.drop_zero, List.drop_nil, List.isEmpty_nil, List.isEmpty_cons, Bool.and_true, Bool.true_and, Bool.or_true, Bool.true_or, Bool.or_false, Bool.false_or, Bool.not_true, Bool.not_false, Nat.reduceAdd, Nat.reduceSub, Nat.reduceLeDiff, Nat.add_zero, Nat.zero_add, Nat.reduceMul, Option.isNone_none, Option.isNone_some, Option.getD_none, true_and, and_true, not_true_eq_false, not_false_eq_true, decide_true, decide_false, List.toList_toArray, Nat.le_refl, and_self, Bool.not_eq_true, Nat.sub_self, or_true, true_or, Option.some.injEq, List.length_map, List.nil_eq, and_false, false_and, AV.live, CV.live, CV.liveIn, firstReg, Option.orElse_some, Option.orElse_none, head, keepSlots, keepBoxes, Int.lt_irrefl, List.length_append, ite_self, memOK, logOps, opKey, lentBoxes, Key.clash, Key.sees, Key.writes, Nat.lt_irrefl, gt_iff_lt, nobox_at, bot_at, false_or, or_false, beq_self_eq_true, Bool.true_beq, Bool.false_beq, region0, K0_own, K0_keep, K0_P, K0_good1, hr, hu, ev_len_str K0_str, ev_range K0_str, e0, e1]
  obtain ⟨o, S', e, hq, hn⟩ := hloop (anyH s 0) (by omega) (Nat.zero_le _) rfl (Lib.NoAny.zero _ _)
  rw [exL_loop] at e ⊢
  simp only [firstReg, Option.orElse_some, Option.getD_some, K0_keep, K0_keep18] at e ⊢
  rw [show head ([1, 45], []) (anyH s 0) = anyH s 0 from rfl] at e
  simp only [head, keepSlots, keepBoxes, upd, AV.live, CV.live, reduceIte, Nat.reduceEqDiff]
  erw [e]
  rcases hq with ⟨rfl, hv⟩ | ⟨hv, rfl⟩
  · simp only [exL_seq, exL_cond, exL_block, exL_scope, exL_ret, exL_skip, exL_exit, runRegion, runOps, stepOp, guardA, absOp, takeOver, opd, avOf, cvOf, St.degAt, St.put, okPV, okVal, okAV, absBin, intBin, strBin, boolBin, setBoxes, if_true, Bool.false_eq_true, if_false, Option.map_some, Option.map_none, Option.bind_some, Option.bind_none, thenO, outOf, upd, List.toList_toArray, isOwn, steal, appArgs, inApps, AV.deg, CV.deg, AV.gv, AV.isIter, absNext, some_bne, Nat.reduceLT, reduceIte, reduceCtorEq, Nat.reduceEqDiff, List.length_nil, List.length_cons, apply_ite (Option.map (outOf _)), List.filterMap_cons, List.filterMap_nil, beq_iff_eq, List.getElem?_cons_zero, List.getElem?_cons_succ, Option.getD_some, Nat.reduceBEq, Bool.false_and, Bool.and_false, Bool.and_self, absCall, doCall, getBoxes, lend, back, idx, dedup, AV.ren, CV.ren, TV.ren, AV.ptrs, CV.ptrs, zipBox, AV.flat, CV.flat, absLoad, absStore, cellsOfAV, setAt, newBox, markB, bldTypes, absFieldAddr, absField, absExtract, absAssert, noAssert, absMkIface, ifcOf, CV.pv?, content, pushHead, ownT, fillCells, reps, pvs, chunks, enterSt, leave, resOf, resVars, resVar, outBoxes, lentOnly, TV.deg, TV.av, LK, CV.plain, CV.noBld, nilBin, absUn, bound, List.map_cons, List.map_nil, List.all_cons, List.all_nil, List.any_cons, List.any_nil, List.contains_cons, List.contains_nil, List.elem_cons, List.elem_nil, List.cons_append, List.nil_append, List.append_nil, List.flatMap_cons, List.flatMap_nil, List.zip_cons_cons, List.zip_nil_left, List.zip_nil_right, List.take_succ_cons, List.take_zero, List.take_nil, List.drop_succ_cons, List.drop_zero, List.drop_nil, List.isEmpty_nil, List.isEmpty_cons, Bool.and_true, Bool.true_and, Bool.or_true, Bool.true_or, Bool.or_false, Bool.false_or, Bool.not_true, Bool.not_false, Nat.reduceAdd, Nat.reduceSub, Nat.reduceLeDiff, Nat.add_zero, Nat.zero_add, Nat.reduceMul, Option.isNone_none, Option.isNone_some, Option.getD_none, true_and, and_true, not_true_eq_false, not_false_eq_true, decide_true, decide_false, List.toList_toArray, Nat.le_refl, and_self, Bool.not_eq_true, Nat.sub_self, or_true, true_or, Option.some.injEq, List.length_map, List.nil_eq, and_false, false_and, AV.live, CV.live, CV.liveIn, firstReg, Option.orElse_some, Option.orElse_none, head, keepSlots, keepBoxes, Int.lt_irrefl, List.length_append, ite_self, memOK, logOps, opKey, lentBoxes, Key.clash, Key.sees, Key.writes, Nat.lt_irrefl, gt_iff_lt, nobox_at, bot_at, false_or, or_false, beq_self_eq_true, Bool.true_beq, Bool.false_beq, region0, K0_own, K0_keep, K0_P, hr, hv]
  · simp only [exL_seq, exL_cond, exL_block, exL_scope, exL_ret, exL_skip, exL_exit, runRegion, runOps, stepOp, guardA, absOp, takeOver, opd, avOf, cvOf, St.degAt, St.put, okPV, okVal, okAV, absBin, intBin, strBin, boolBin, setBoxes, if_true, Bool.false_eq_true, if_false, Option.map_some, Option.map_none, Option.bind_some, Option.bind_none, thenO, outOf, upd, List.toList_toArray, isOwn, steal, appArgs, inApps, AV.deg, CV.deg, AV.gv, AV.isIter, absNext, some_bne, Nat.reduceLT, reduceIte, reduceCtorEq, Nat.reduceEqDiff, List.length_nil, List.length_cons, apply_ite (Option.map (outOf _)), List.filterMap_cons, List.filterMap_nil, beq_iff_eq, List.getElem?_cons_zero, List.getElem?_cons_succ, Option.getD_some, Nat.reduceBEq, Bool.false_and, Bool.and_false, Bool.and_self, absCall, doCall, getBoxes, lend, back, idx, dedup, AV.ren, CV.ren, TV.ren, AV.ptrs, CV.ptrs, zipBox, AV.flat, CV.flat, absLoad, absStore, cellsOfAV, setAt, newBox, markB, bldTypes, absFieldAddr, absField, absExtract, absAssert, noAssert, absMkIface, ifcOf, CV.pv?, content, pushHead, ownT, fillCells, reps, pvs, chunks, enterSt, leave, resOf, resVars, resVar, outBoxes, lentOnly, TV.deg, TV.av, LK, CV.plain, CV.noBld, nilBin, absUn, bound, List.map_cons, List.map_nil, List.all_cons, List.all_nil, List.any_cons, List.any_nil, List.contains_cons, List.contains_nil, List.elem_cons, List.elem_nil, List.cons_append, List.nil_append, List.append_nil, List.flatMap_cons, List.flatMap_nil, List.zip_cons_cons, List.zip_nil_left, List.zip_nil_right, List.take_succ_cons, List.take_zero, List.take_nil, List.drop_succ_cons, List.drop_zero, List.drop_nil, List.isEmpty_nil, List.isEmpty_cons, Bool.and_true, Bool.true_and, Bool.or_true, Bool.true_or, Bool.or_false, Bool.false_or, Bool.not_true, Bool.not_false, Nat.reduceAdd, Nat.reduceSub, Nat.reduceLeDiff, Nat.add_zero, Nat.zero_add, Nat.reduceMul, Option.isNone_none, Option.isNone_some, Option.getD_none, true_and, and_true, not_true_eq_false, not_false_eq_true, decide_true, decide_false, List.toList_toArray, Nat.le_refl, and_self, Bool.not_eq_true, Nat.sub_self, or_true, true_or, Option.some.injEq, List.length_map, List.nil_eq, and_false, false_and, AV.live, CV.live, CV.liveIn, firstReg, Option.orElse_some, Option.orElse_none, head, keepSlots, keepBoxes, Int.lt_irrefl, List.length_append, ite_self, memOK, logOps, opKey, lentBoxes, Key.clash, Key.sees, Key.writes, Nat.lt_irrefl, gt_iff_lt, nobox_at, bot_at, false_or, or_false, beq_self_eq_true, Bool.true_beq, Bool.false_beq, region0, K0_own, K0_keep, K0_P, hr, hv, hn]
end Go.Abs
