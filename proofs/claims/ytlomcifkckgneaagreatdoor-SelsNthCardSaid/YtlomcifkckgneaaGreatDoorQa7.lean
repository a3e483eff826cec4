/-
  WHAT THE FUNCTIONS COMPUTE, layer 1: the scanner's comment, string, number.
  WHAT THE FUNCTIONS COMPUTE, layer 4, the program's reader of selectors: what comes, tokens, signs, blanks, names, numbers.
  WHAT THE FUNCTIONS COMPUTE, layer 4, the document's reader of selectors: numbers; where a compound one ends; combinators.
  WHAT THE FUNCTIONS COMPUTE, layer 4, the document's reader of selectors: simple selectors.
  WHAT THE FUNCTIONS COMPUTE, layer 4, the document's reader of selectors: an nth; attributes.
  WHAT THE FUNCTIONS COMPUTE, layer 1: the scanner's number.
-/
import Derived.Test.YtlomcifkckgneaaGreatDoorQa1
import Derived.Test.YtlomcifkckgneaaGreatDoorQa3
import Derived.Test.YtlomcifkckgneaaGreatDoorQa4
import Derived.Test.YtlomcifkckgneaaGreatDoorQa6
set_option linter.unusedSimpArgs false
set_option linter.unusedVariables false
namespace Go.Abs
open Go Go.Proofs
set_option maxRecDepth 10000
def shutI (r : List UInt8) : Int := match Tk.shut r with | some n => (n : Int) - 2 | none => -1
def innerI (c : UInt8) (r : List UInt8) : Int := match Tk.inner c r with | some n => (n : Int) | none => -1
theorem index_shut : ∀ r : List UInt8, Lib.index r [42, 47] = shutI r
  | [] => rfl
  | b :: l => by
    have ih := index_shut l
    have e : Lib.index (b :: l) [42, 47] = if [42, 47].isPrefixOf (b :: l) then 0 else if Lib.index l [42, 47] == -1 then -1 else Lib.index l [42, 47] + 1 := rfl
    rw [e, ih]
    have hp : ([42, 47].isPrefixOf (b :: l) = true) ↔ (b = 42 ∧ Tk.at0 l = 47) := by
      cases l with
      | nil =>
        refine ⟨fun h => ?_, fun h => absurd h.2 (by decide)⟩
        simp [List.isPrefixOf] at h
      | cons d l =>
        simp only [List.isPrefixOf, Bool.and_true, Bool.and_eq_true, beq_iff_eq, Tk.at0]
        exact ⟨fun h => ⟨h.1.symm, h.2.symm⟩, fun h => ⟨h.1.symm, h.2.symm⟩⟩
    by_cases h : b = 42 ∧ Tk.at0 l = 47
    · rw [if_pos (hp.2 h), shutI, Tk.shut, if_pos h]; rfl
    · rw [if_neg (fun x => h (hp.1 x)), shutI, shutI, Tk.shut, if_neg h]
      cases hs : Tk.shut l with
      | none => rfl
      | some n =>
        have := Tk.shut_le hs
        simp only [Option.map_some]
        rw [if_neg (by rw [beq_iff_eq]; omega)]
        omega
theorem ends_contains (b : UInt8) : ([10, 12, 13] : List UInt8).contains b = Tk.ending b := by
  unfold Tk.ending
  simp only [List.contains_cons, List.contains_nil, Bool.or_false, Bool.or_assoc]
theorem containsAny_cons (b : UInt8) (l : List UInt8) : Lib.containsAny (b :: l) [10, 12, 13] = (Tk.ending b || Lib.containsAny l [10, 12, 13]) := by
  unfold Lib.containsAny
  have e : Lib.indexAny (b :: l) [10, 12, 13] = if ([10, 12, 13] : List UInt8).contains b then 0 else if Lib.indexAny l [10, 12, 13] == -1 then -1 else Lib.indexAny l [10, 12, 13] + 1 := rfl
  rw [e, ends_contains]
  have hge := Lib.indexAny_ge [10, 12, 13] l
  cases Tk.ending b
  · simp only [Bool.false_eq_true, if_false, Bool.false_or]
    by_cases h : Lib.indexAny l [10, 12, 13] = -1
    · rw [if_pos (by rw [h]; rfl), h]
    · rw [if_neg (by simpa using h)]
      exact decide_eq_decide.2 (by omega)
  · rfl
theorem indexByte_app (b : UInt8) (l : List UInt8) (c : UInt8) : Lib.indexByte (b :: l) c = if b == c then 0 else if Lib.indexByte l c == -1 then -1 else Lib.indexByte l c + 1 := rfl
theorem indexByte_lt (c : UInt8) : ∀ r : List UInt8, 0 ≤ Lib.indexByte r c → Lib.indexByte r c < (r.length : Int)
  | [], h => absurd (show (0 : Int) ≤ -1 from h) (by decide)
  | b :: l, h => by
    have ih := indexByte_lt c l
    have hge := Lib.indexByte_ge l c
    rw [indexByte_app] at h ⊢
    simp only [List.length_cons]
    split at h
    · omega
    · split at h
      · omega
      · rename_i h2
        have : Lib.indexByte l c ≠ -1 := by simpa using h2
        have := ih (by omega)
        rw [if_neg h2]; omega
theorem inner_law (c : UInt8) : ∀ r : List UInt8, innerI c r = if 0 ≤ Lib.indexByte r c ∧ Lib.containsAny (r.take (Lib.indexByte r c).toNat) [10, 12, 13] = true then -1 else Lib.indexByte r c
  | [] => rfl
  | b :: l => by
    have ih := inner_law c l
    have hge := Lib.indexByte_ge l c
    by_cases hb : b = c
    · have e : Lib.indexByte (b :: l) c = 0 := by rw [indexByte_app, if_pos (by simp [hb])]
      have hc0 : Lib.containsAny ((b :: l).take (0 : Int).toNat) [10, 12, 13] = false := rfl
      rw [e, innerI, Tk.inner, if_pos hb, hc0]
      rfl
    · by_cases hm : Lib.indexByte l c = -1
      · have e : Lib.indexByte (b :: l) c = -1 := by rw [indexByte_app, if_neg (by simpa using hb), hm]; rfl
        rw [hm, if_neg (by omega)] at ih
        rw [e, if_neg (by omega), innerI, Tk.inner, if_neg hb]
        unfold innerI at ih
        cases hi : Tk.inner c l with
        | none => cases Tk.ending b <;> rfl
        | some n => rw [hi] at ih; simp only at ih; omega
      · have e : Lib.indexByte (b :: l) c = Lib.indexByte l c + 1 := by rw [indexByte_app, if_neg (by simpa using hb), if_neg (by simpa using hm)]
        have ht : (Lib.indexByte l c + 1).toNat = (Lib.indexByte l c).toNat + 1 := by omega
        rw [e, ht, List.take_succ_cons, containsAny_cons, innerI, Tk.inner, if_neg hb]
        unfold innerI at ih
        cases he : Tk.ending b
        · simp only [Bool.false_or, Bool.false_eq_true, if_false]
          by_cases hc : Lib.containsAny (l.take (Lib.indexByte l c).toNat) [10, 12, 13] = true
          · rw [if_pos ⟨by omega, hc⟩]
            rw [if_pos ⟨by omega, hc⟩] at ih
            cases hi : Tk.inner c l with
            | none => rfl
            | some n => rw [hi] at ih; simp only at ih; omega
          · rw [if_neg (fun x => hc x.2)]
            rw [if_neg (fun x => hc x.2)] at ih
            cases hi : Tk.inner c l with
            | none => rw [hi] at ih; simp only at ih; omega
            | some n => rw [hi] at ih; simp only at ih ⊢; simp only [Option.map_some]; omega
        · rw [Bool.true_or, if_pos (⟨by omega, rfl⟩ : 0 ≤ Lib.indexByte l c + 1 ∧ true = true)]
          rfl
theorem index_den (s p : List UInt8) (h : s.length < 4294967281) : den K 193 [T s, T p] [] = some (.ret (I (Lib.index s p)) []) := by
  refine prim_run (F := pIndex) rfl ?_
  simp [pIndex, h]
theorem indexByte_den (s : List UInt8) (c : UInt8) : den K 179 [T s, U c] [] = some (.ret (I (Lib.indexByte s c)) []) := by
  refine prim_run (F := pIndexByte) rfl ?_
  simp [pIndexByte]
theorem hasPrefix_den (s p : List UInt8) : den K 177 [T s, T p] [] = some (.ret (B (Lib.hasPrefix s p)) []) := prim_run (F := pHasPrefix) rfl rfl
theorem indexAny_den (s : List UInt8) (h : s.length < 4294967281) : den K 230 [T s, T [10, 12, 13]] [] = some (.ret (I (Lib.indexAny s [10, 12, 13])) []) := by
  refine prim_run (F := pIndexAny) rfl ?_
  simp [pIndexAny, h]
theorem containsAny_den (s : List UInt8) (h : s.length < 4294967281) : den K 212 [T s, T [10, 12, 13]] [] = some (.ret (B (Lib.containsAny s [10, 12, 13])) []) := by
  have d := indexAny_den s h
  unfold Lib.containsAny
  refine den_run rfl rfl Tryz.func212 rfl Tryz.ntmps212 ⟨by simp, by simp [LK]⟩ ?_
  have hr : Tryz.f212.results = #[.tmp 4] := rfl
  simp only [exL_seq, exL_region, exL_cond, exL_block, exL_scope, exL_ret, exL_skip, exL_exit, runRegion, runOps, stepOp, guardA, absOp, takeOver, opd, avOf, cvOf, St.degAt, St.put, okPV, okVal, okAV, absBin, intBin, strBin, boolBin, setBoxes, if_true, Bool.false_eq_true, if_false, Option.map_some, Option.map_none, Option.bind_some, Option.bind_none, thenO, outOf, upd, List.toList_toArray, isOwn, steal, appArgs, mvB, fullAt, absFull, inApps, AV.deg, CV.deg, AV.gv, AV.isIter, absNext, some_bne, some_beqN, Nat.reduceLT, reduceIte, reduceCtorEq, Nat.reduceEqDiff, List.length_nil, List.length_cons, apply_ite (Option.map (outOf _)), List.filterMap_cons, List.filterMap_nil, beq_iff_eq, List.getElem?_cons_zero, List.getElem?_cons_succ, Option.getD_some, K_hook, hookB, Nat.reduceBEq, Bool.false_and, Bool.and_false, Bool.and_self, K_P, K_own, absCall, doCall, getBoxes, lend, back, idx, dedup, AV.ren, CV.ren, TV.ren, AV.ptrs, CV.ptrs, zipBox, AV.flat, CV.flat, absLoad, absStore, cellsOfAV, setAt, newBox, markB, bldTypes, absFieldAddr, absField, absExtract, absAssert, noAssert, absMkIface, ifcOf, CV.pv?, content, pushHead, ownT, fillCells, reps, pvs, chunks, enterSt, leave, resOf, resVars, resVar, outBoxes, lentOnly, TV.deg, TV.av, LK, CV.plain, CV.noBld, nilBin, absUn, bound, List.map_cons, List.map_nil, List.all_cons, List.all_nil, List.any_cons, List.any_nil, List.contains_cons, List.contains_nil, List.elem_cons, List.elem_nil, List.cons_append, List.nil_append, List.append_nil, List.flatMap_cons, List.flatMap_nil, List.zip_cons_cons, List.zip_nil_left, List.zip_nil_right, List.take_succ_cons, List.take_zero, List.take_nil, List.drop_succ_cons, List.drop_zero, List.drop_nil, List.isEmpty_nil, List.isEmpty_cons, Bool.and_true, Bool.true_and, Bool.or_true, Bool.true_or, Bool.or_false, Bool.false_or, Bool.not_true, Bool.not_false, Nat.reduceAdd, Nat.reduceSub, Nat.reduceLeDiff, Nat.add_zero, Nat.zero_add, Nat.reduceMul, Option.isNone_none, Option.isNone_some, Option.getD_none, true_and, and_true, not_true_eq_false, not_false_eq_true, decide_true, decide_false, List.toList_toArray, Nat.le_refl, and_self, Bool.not_eq_true, Nat.sub_self, or_true, true_or, Option.some.injEq, List.length_map, List.nil_eq, and_false, false_and, AV.live, CV.live, CV.liveIn, K_keep, firstReg, Option.orElse_some, Option.orElse_none, head, keepSlots, keepBoxes, Int.lt_irrefl, List.length_append, ite_self, memOK, logOps, opKey, lentBoxes, Key.clash, Key.sees, Key.writes, Nat.lt_irrefl, gt_iff_lt, nobox_at, bot_at, false_or, or_false, beq_self_eq_true, Bool.true_beq, Bool.false_beq, good_230, hr, d]
theorem comment_den (s : List UInt8) (x : TS) (hs : s.length < 4000000000) (h : 2 ≤ s.length) : den K 178 [P0] [scan s x] = some (.ret (.tup []) [scan (s.drop (Tk.comment (s.drop 2))) x]) := by
  have hi := index_den (s.drop 2) [42, 47] (by simp; omega)
  rw [index_shut] at hi
  unfold shutI at hi
  refine den_run rfl rfl Tryz.func178 rfl Tryz.ntmps178 ⟨by simp, by simp [LK]⟩ ?_
  have hr : Tryz.f178.results = #[] := rfl
  have hb : ((0 : Int) ≤ 2 ∧ (2 : Int) ≤ (s.length : Int)) = True := eq_true (by omega)
  have hd : (s.take s.length).drop 2 = s.drop 2 := by rw [List.take_length]
  have t2 : Int.toNat 2 = 2 := rfl
  unfold Tk.comment
  cases hc : Tk.shut (s.drop 2) with
  | none =>
    rw [hc] at hi
    have hsk := skip_den s x s.length (Nat.le_refl _)
    have hn : decide ((-1 : Int) < 0) = true := by decide
    have hlen : (s.drop 2).length + 2 = s.length := by simp; omega
    rw [hlen]
    cases x <;> simp only [TS.cell, scan] at hsk ⊢ <;> simp only [TS.cell, scan, exL_seq, exL_region, exL_cond, exL_block, exL_scope, exL_ret, exL_skip, exL_exit, runRegion, runOps, stepOp, guardA, absOp, takeOver, opd, avOf, cvOf, St.degAt, St.put, okPV, okVal, okAV, absBin, intBin, strBin, boolBin, setBoxes, if_true, Bool.false_eq_true, if_false, Option.map_some, Option.map_none, Option.bind_some, Option.bind_none, thenO, outOf, upd, List.toList_toArray, isOwn, steal, appArgs, mvB, fullAt, absFull, inApps, AV.deg, CV.deg, AV.gv, AV.isIter, absNext, some_bne, some_beqN, Nat.reduceLT, reduceIte, reduceCtorEq, Nat.reduceEqDiff, List.length_nil, List.length_cons, apply_ite (Option.map (outOf _)), List.filterMap_cons, List.filterMap_nil, beq_iff_eq, List.getElem?_cons_zero, List.getElem?_cons_succ, Option.getD_some, K_hook, hookB, Nat.reduceBEq, Bool.false_and, Bool.and_false, Bool.and_self, K_P, K_own, absCall, doCall, getBoxes, lend, back, idx, dedup, AV.ren, CV.ren, TV.ren, AV.ptrs, CV.ptrs, zipBox, AV.flat, CV.flat, absLoad, absStore, cellsOfAV, setAt, newBox, markB, bldTypes, absFieldAddr, absField, absExtract, absAssert, noAssert, absMkIface, ifcOf, CV.pv?, content, pushHead, ownT, fillCells, reps, pvs, chunks, enterSt, leave, resOf, resVars, resVar, outBoxes, lentOnly, TV.deg, TV.av, LK, CV.plain, CV.noBld, nilBin, absUn, bound, List.map_cons, List.map_nil, List.all_cons, List.all_nil, List.any_cons, List.any_nil, List.contains_cons, List.contains_nil, List.elem_cons, List.elem_nil, List.cons_append, List.nil_append, List.append_nil, List.flatMap_cons, List.flatMap_nil, List.zip_cons_cons, List.zip_nil_left, List.zip_nil_right, List.take_succ_cons, List.take_zero, List.take_nil, List.drop_succ_cons, List.drop_zero, List.drop_nil, List.isEmpty_nil, List.isEmpty_cons, Bool.and_true, Bool.true_and, Bool.or_true, Bool.true_or, Bool.or_false, Bool.false_or, Bool.not_true, Bool.not_false, Nat.reduceAdd, Nat.reduceSub, Nat.reduceLeDiff, Nat.add_zero, Nat.zero_add, Nat.reduceMul, Option.isNone_none, Option.isNone_some, Option.getD_none, true_and, and_true, not_true_eq_false, not_false_eq_true, decide_true, decide_false, List.toList_toArray, Nat.le_refl, and_self, Bool.not_eq_true, Nat.sub_self, or_true, true_or, Option.some.injEq, List.length_map, List.nil_eq, and_false, false_and, AV.live, CV.live, CV.liveIn, K_keep, firstReg, Option.orElse_some, Option.orElse_none, head, keepSlots, keepBoxes, Int.lt_irrefl, List.length_append, ite_self, memOK, logOps, opKey, lentBoxes, Key.clash, Key.sees, Key.writes, Nat.lt_irrefl, gt_iff_lt, nobox_at, bot_at, false_or, or_false, beq_self_eq_true, Bool.true_beq, Bool.false_beq, ty_fieldOff_183_0, ty_szOf_181, ty_shapeT_181, ev_slice_str ty_descOf_181, good_193, ev_len_str ty_descOf_181, good_210, hr, hi, hb, t2, Int.toNat_natCast, hd, hn, hsk]
  | some n =>
    rw [hc] at hi
    have hle := Tk.shut_le hc
    simp only [List.length_drop] at hle
    have hsk := skip_den s x (n + 2) (by omega)
    have hn : decide ((n : Int) - 2 < 0) = false := decide_eq_false (by omega)
    have w1 : IntKind.i64.wrap (2 + ((n : Int) - 2)) = (n : Int) := by rw [IntWalk.i64_in _ (by omega)]; omega
    have w2 : IntKind.i64.wrap ((n : Int) + 2) = ((n + 2 : Nat) : Int) := by rw [IntWalk.i64_in _ (by omega)]; rfl
    cases x <;> simp only [TS.cell, scan] at hsk ⊢ <;> simp only [TS.cell, scan, exL_seq, exL_region, exL_cond, exL_block, exL_scope, exL_ret, exL_skip, exL_exit, runRegion, runOps, stepOp, guardA, absOp, takeOver, opd, avOf, cvOf, St.degAt, St.put, okPV, okVal, okAV, absBin, intBin, strBin, boolBin, setBoxes, if_true, Bool.false_eq_true, if_false, Option.map_some, Option.map_none, Option.bind_some, Option.bind_none, thenO, outOf, upd, List.toList_toArray, isOwn, steal, appArgs, mvB, fullAt, absFull, inApps, AV.deg, CV.deg, AV.gv, AV.isIter, absNext, some_bne, some_beqN, Nat.reduceLT, reduceIte, reduceCtorEq, Nat.reduceEqDiff, List.length_nil, List.length_cons, apply_ite (Option.map (outOf _)), List.filterMap_cons, List.filterMap_nil, beq_iff_eq, List.getElem?_cons_zero, List.getElem?_cons_succ, Option.getD_some, K_hook, hookB, Nat.reduceBEq, Bool.false_and, Bool.and_false, Bool.and_self, K_P, K_own, absCall, doCall, getBoxes, lend, back, idx, dedup, AV.ren, CV.ren, TV.ren, AV.ptrs, CV.ptrs, zipBox, AV.flat, CV.flat, absLoad, absStore, cellsOfAV, setAt, newBox, markB, bldTypes, absFieldAddr, absField, absExtract, absAssert, noAssert, absMkIface, ifcOf, CV.pv?, content, pushHead, ownT, fillCells, reps, pvs, chunks, enterSt, leave, resOf, resVars, resVar, outBoxes, lentOnly, TV.deg, TV.av, LK, CV.plain, CV.noBld, nilBin, absUn, bound, List.map_cons, List.map_nil, List.all_cons, List.all_nil, List.any_cons, List.any_nil, List.contains_cons, List.contains_nil, List.elem_cons, List.elem_nil, List.cons_append, List.nil_append, List.append_nil, List.flatMap_cons, List.flatMap_nil, List.zip_cons_cons, List.zip_nil_left, List.zip_nil_right, List.take_succ_cons, List.take_zero, List.take_nil, List.drop_succ_cons, List.drop_zero, List.drop_nil, List.isEmpty_nil, List.isEmpty_cons, Bool.and_true, Bool.true_and, Bool.or_true, Bool.true_or, Bool.or_false, Bool.false_or, Bool.not_true, Bool.not_false, Nat.reduceAdd, Nat.reduceSub, Nat.reduceLeDiff, Nat.add_zero, Nat.zero_add, Nat.reduceMul, Option.isNone_none, Option.isNone_some, Option.getD_none, true_and, and_true, not_true_eq_false, not_false_eq_true, decide_true, decide_false, List.toList_toArray, Nat.le_refl, and_self, Bool.not_eq_true, Nat.sub_self, or_true, true_or, Option.some.injEq, List.length_map, List.nil_eq, and_false, false_and, AV.live, CV.live, CV.liveIn, K_keep, firstReg, Option.orElse_some, Option.orElse_none, head, keepSlots, keepBoxes, Int.lt_irrefl, List.length_append, ite_self, memOK, logOps, opKey, lentBoxes, Key.clash, Key.sees, Key.writes, Nat.lt_irrefl, gt_iff_lt, nobox_at, bot_at, false_or, or_false, beq_self_eq_true, Bool.true_beq, Bool.false_beq, ty_fieldOff_183_0, ty_szOf_181, ty_shapeT_181, ev_slice_str ty_descOf_181, good_193, ev_len_str ty_descOf_181, good_210, hr, hi, hb, t2, Int.toNat_natCast, hd, hn, w1, w2, hsk]
theorem inner_den (s : List UInt8) (c : UInt8) (r : List UInt8) (x : TS) (hsr : s = c :: r) (hs : s.length < 4000000000) : den K 183 [P0] [scan s x] = some (.ret (I (innerI c r)) [scan s x]) := by
  have hb : ((0 : Int) ≤ 1 ∧ (1 : Int) ≤ (s.length : Int)) = True := eq_true (by rw [hsr]; simp; omega)
  have hd : (s.take s.length).drop 1 = r := by rw [List.take_length, hsr]; rfl
  have hcell : s[(0 : Int).toNat]? = some c := by rw [hsr]; rfl
  have hrs : r.length ≤ s.length := by rw [hsr]; simp
  clear hsr
  have hi := indexByte_den r c
  have hge := Lib.indexByte_ge r c
  have hlt := indexByte_lt c r
  rw [inner_law]
  generalize Lib.indexByte r c = n at hi hge hlt
  refine den_run rfl rfl Tryz.func183 rfl Tryz.ntmps183 ⟨by simp, by simp [LK]⟩ ?_
  have hr : Tryz.f183.results = #[.tmp 2] := rfl
  have t1 : Int.toNat 1 = 1 := rfl
  by_cases h0 : 0 ≤ n
  · have hc := containsAny_den (r.take n.toNat) (by rw [List.length_take]; omega)
    have hn : decide (0 ≤ n) = true := decide_eq_true h0
    have hb2 : ((0 : Int) ≤ n ∧ n ≤ (r.length : Int)) = True := eq_true (by have := hlt h0; omega)
    cases hv : Lib.containsAny (r.take n.toNat) [10, 12, 13]
    · rw [hv] at hc
      rw [if_neg (fun e => by cases e.2)]
      cases x <;> simp only [TS.cell, scan] <;> simp only [TS.cell, scan, exL_seq, exL_region, exL_cond, exL_block, exL_scope, exL_ret, exL_skip, exL_exit, runRegion, runOps, stepOp, guardA, absOp, takeOver, opd, avOf, cvOf, St.degAt, St.put, okPV, okVal, okAV, absBin, intBin, strBin, boolBin, setBoxes, if_true, Bool.false_eq_true, if_false, Option.map_some, Option.map_none, Option.bind_some, Option.bind_none, thenO, outOf, upd, List.toList_toArray, isOwn, steal, appArgs, mvB, fullAt, absFull, inApps, AV.deg, CV.deg, AV.gv, AV.isIter, absNext, some_bne, some_beqN, Nat.reduceLT, reduceIte, reduceCtorEq, Nat.reduceEqDiff, List.length_nil, List.length_cons, apply_ite (Option.map (outOf _)), List.filterMap_cons, List.filterMap_nil, beq_iff_eq, List.getElem?_cons_zero, List.getElem?_cons_succ, Option.getD_some, K_hook, hookB, Nat.reduceBEq, Bool.false_and, Bool.and_false, Bool.and_self, K_P, K_own, absCall, doCall, getBoxes, lend, back, idx, dedup, AV.ren, CV.ren, TV.ren, AV.ptrs, CV.ptrs, zipBox, AV.flat, CV.flat, absLoad, absStore, cellsOfAV, setAt, newBox, markB, bldTypes, absFieldAddr, absField, absExtract, absAssert, noAssert, absMkIface, ifcOf, CV.pv?, content, pushHead, ownT, fillCells, reps, pvs, chunks, enterSt, leave, resOf, resVars, resVar, outBoxes, lentOnly, TV.deg, TV.av, LK, CV.plain, CV.noBld, nilBin, absUn, bound, List.map_cons, List.map_nil, List.all_cons, List.all_nil, List.any_cons, List.any_nil, List.contains_cons, List.contains_nil, List.elem_cons, List.elem_nil, List.cons_append, List.nil_append, List.append_nil, List.flatMap_cons, List.flatMap_nil, List.zip_cons_cons, List.zip_nil_left, List.zip_nil_right, List.take_succ_cons, List.take_zero, List.take_nil, List.drop_succ_cons, List.drop_zero, List.drop_nil, List.isEmpty_nil, List.isEmpty_cons, Bool.and_true, Bool.true_and, Bool.or_true, Bool.true_or, Bool.or_false, Bool.false_or, Bool.not_true, Bool.not_false, Nat.reduceAdd, Nat.reduceSub, Nat.reduceLeDiff, Nat.add_zero, Nat.zero_add, Nat.reduceMul, Option.isNone_none, Option.isNone_some, Option.getD_none, true_and, and_true, not_true_eq_false, not_false_eq_true, decide_true, decide_false, List.toList_toArray, Nat.le_refl, and_self, Bool.not_eq_true, Nat.sub_self, or_true, true_or, Option.some.injEq, List.length_map, List.nil_eq, and_false, false_and, AV.live, CV.live, CV.liveIn, K_keep, firstReg, Option.orElse_some, Option.orElse_none, head, keepSlots, keepBoxes, Int.lt_irrefl, List.length_append, ite_self, memOK, logOps, opKey, lentBoxes, Key.clash, Key.sees, Key.writes, Nat.lt_irrefl, gt_iff_lt, nobox_at, bot_at, false_or, or_false, beq_self_eq_true, Bool.true_beq, Bool.false_beq, ty_fieldOff_183_0, ty_szOf_181, ty_shapeT_181, ev_slice_str ty_descOf_181, ev_index ty_descOf_181, good_179, ev_slice_str ty_descOf_9, good_212, hr, hi, hb, hd, hn, t1, hb2, hc, hcell, Int.le_refl]
    · rw [hv] at hc
      rw [if_pos ⟨h0, rfl⟩]
      cases x <;> simp only [TS.cell, scan] <;> simp only [TS.cell, scan, exL_seq, exL_region, exL_cond, exL_block, exL_scope, exL_ret, exL_skip, exL_exit, runRegion, runOps, stepOp, guardA, absOp, takeOver, opd, avOf, cvOf, St.degAt, St.put, okPV, okVal, okAV, absBin, intBin, strBin, boolBin, setBoxes, if_true, Bool.false_eq_true, if_false, Option.map_some, Option.map_none, Option.bind_some, Option.bind_none, thenO, outOf, upd, List.toList_toArray, isOwn, steal, appArgs, mvB, fullAt, absFull, inApps, AV.deg, CV.deg, AV.gv, AV.isIter, absNext, some_bne, some_beqN, Nat.reduceLT, reduceIte, reduceCtorEq, Nat.reduceEqDiff, List.length_nil, List.length_cons, apply_ite (Option.map (outOf _)), List.filterMap_cons, List.filterMap_nil, beq_iff_eq, List.getElem?_cons_zero, List.getElem?_cons_succ, Option.getD_some, K_hook, hookB, Nat.reduceBEq, Bool.false_and, Bool.and_false, Bool.and_self, K_P, K_own, absCall, doCall, getBoxes, lend, back, idx, dedup, AV.ren, CV.ren, TV.ren, AV.ptrs, CV.ptrs, zipBox, AV.flat, CV.flat, absLoad, absStore, cellsOfAV, setAt, newBox, markB, bldTypes, absFieldAddr, absField, absExtract, absAssert, noAssert, absMkIface, ifcOf, CV.pv?, content, pushHead, ownT, fillCells, reps, pvs, chunks, enterSt, leave, resOf, resVars, resVar, outBoxes, lentOnly, TV.deg, TV.av, LK, CV.plain, CV.noBld, nilBin, absUn, bound, List.map_cons, List.map_nil, List.all_cons, List.all_nil, List.any_cons, List.any_nil, List.contains_cons, List.contains_nil, List.elem_cons, List.elem_nil, List.cons_append, List.nil_append, List.append_nil, List.flatMap_cons, List.flatMap_nil, List.zip_cons_cons, List.zip_nil_left, List.zip_nil_right, List.take_succ_cons, List.take_zero, List.take_nil, List.drop_succ_cons, List.drop_zero, List.drop_nil, List.isEmpty_nil, List.isEmpty_cons, Bool.and_true, Bool.true_and, Bool.or_true, Bool.true_or, Bool.or_false, Bool.false_or, Bool.not_true, Bool.not_false, Nat.reduceAdd, Nat.reduceSub, Nat.reduceLeDiff, Nat.add_zero, Nat.zero_add, Nat.reduceMul, Option.isNone_none, Option.isNone_some, Option.getD_none, true_and, and_true, not_true_eq_false, not_false_eq_true, decide_true, decide_false, List.toList_toArray, Nat.le_refl, and_self, Bool.not_eq_true, Nat.sub_self, or_true, true_or, Option.some.injEq, List.length_map, List.nil_eq, and_false, false_and, AV.live, CV.live, CV.liveIn, K_keep, firstReg, Option.orElse_some, Option.orElse_none, head, keepSlots, keepBoxes, Int.lt_irrefl, List.length_append, ite_self, memOK, logOps, opKey, lentBoxes, Key.clash, Key.sees, Key.writes, Nat.lt_irrefl, gt_iff_lt, nobox_at, bot_at, false_or, or_false, beq_self_eq_true, Bool.true_beq, Bool.false_beq, ty_fieldOff_183_0, ty_szOf_181, ty_shapeT_181, ev_slice_str ty_descOf_181, ev_index ty_descOf_181, good_179, ev_slice_str ty_descOf_9, good_212, hr, hi, hb, hd, hn, t1, hb2, hc, hcell, Int.le_refl]
  · have hn : decide (0 ≤ n) = false := decide_eq_false h0
    rw [if_neg (fun e => h0 e.1)]
    cases x <;> simp only [TS.cell, scan] <;> simp only [TS.cell, scan, exL_seq, exL_region, exL_cond, exL_block, exL_scope, exL_ret, exL_skip, exL_exit, runRegion, runOps, stepOp, guardA, absOp, takeOver, opd, avOf, cvOf, St.degAt, St.put, okPV, okVal, okAV, absBin, intBin, strBin, boolBin, setBoxes, if_true, Bool.false_eq_true, if_false, Option.map_some, Option.map_none, Option.bind_some, Option.bind_none, thenO, outOf, upd, List.toList_toArray, isOwn, steal, appArgs, mvB, fullAt, absFull, inApps, AV.deg, CV.deg, AV.gv, AV.isIter, absNext, some_bne, some_beqN, Nat.reduceLT, reduceIte, reduceCtorEq, Nat.reduceEqDiff, List.length_nil, List.length_cons, apply_ite (Option.map (outOf _)), List.filterMap_cons, List.filterMap_nil, beq_iff_eq, List.getElem?_cons_zero, List.getElem?_cons_succ, Option.getD_some, K_hook, hookB, Nat.reduceBEq, Bool.false_and, Bool.and_false, Bool.and_self, K_P, K_own, absCall, doCall, getBoxes, lend, back, idx, dedup, AV.ren, CV.ren, TV.ren, AV.ptrs, CV.ptrs, zipBox, AV.flat, CV.flat, absLoad, absStore, cellsOfAV, setAt, newBox, markB, bldTypes, absFieldAddr, absField, absExtract, absAssert, noAssert, absMkIface, ifcOf, CV.pv?, content, pushHead, ownT, fillCells, reps, pvs, chunks, enterSt, leave, resOf, resVars, resVar, outBoxes, lentOnly, TV.deg, TV.av, LK, CV.plain, CV.noBld, nilBin, absUn, bound, List.map_cons, List.map_nil, List.all_cons, List.all_nil, List.any_cons, List.any_nil, List.contains_cons, List.contains_nil, List.elem_cons, List.elem_nil, List.cons_append, List.nil_append, List.append_nil, List.flatMap_cons, List.flatMap_nil, List.zip_cons_cons, List.zip_nil_left, List.zip_nil_right, List.take_succ_cons, List.take_zero, List.take_nil, List.drop_succ_cons, List.drop_zero, List.drop_nil, List.isEmpty_nil, List.isEmpty_cons, Bool.and_true, Bool.true_and, Bool.or_true, Bool.true_or, Bool.or_false, Bool.false_or, Bool.not_true, Bool.not_false, Nat.reduceAdd, Nat.reduceSub, Nat.reduceLeDiff, Nat.add_zero, Nat.zero_add, Nat.reduceMul, Option.isNone_none, Option.isNone_some, Option.getD_none, true_and, and_true, not_true_eq_false, not_false_eq_true, decide_true, decide_false, List.toList_toArray, Nat.le_refl, and_self, Bool.not_eq_true, Nat.sub_self, or_true, true_or, Option.some.injEq, List.length_map, List.nil_eq, and_false, false_and, AV.live, CV.live, CV.liveIn, K_keep, firstReg, Option.orElse_some, Option.orElse_none, head, keepSlots, keepBoxes, Int.lt_irrefl, List.length_append, ite_self, memOK, logOps, opKey, lentBoxes, Key.clash, Key.sees, Key.writes, Nat.lt_irrefl, gt_iff_lt, nobox_at, bot_at, false_or, or_false, beq_self_eq_true, Bool.true_beq, Bool.false_beq, ty_fieldOff_183_0, ty_szOf_181, ty_shapeT_181, ev_slice_str ty_descOf_181, ev_index ty_descOf_181, good_179, ev_slice_str ty_descOf_9, good_212, hr, hi, hb, hd, hn, t1, hcell, Int.le_refl]
end Go.Abs
namespace Go.Abs
open Go Go.Proofs
set_option maxRecDepth 10000
attribute [local go_sem] exL_seq exL_region exL_cond exL_block exL_scope exL_ret exL_skip exL_exit runRegion runOps stepOp guardA absOp takeOver opd avOf cvOf St.degAt St.put okPV okVal okAV absBin intBin strBin boolBin setBoxes if_true Bool.false_eq_true if_false Option.map_some Option.map_none Option.bind_some Option.bind_none thenO outOf upd List.toList_toArray isOwn steal appArgs mvB fullAt absFull inApps AV.deg CV.deg AV.gv AV.isIter absNext some_bne some_beqN List.length_nil List.length_cons List.filterMap_cons List.filterMap_nil beq_iff_eq List.getElem?_cons_zero List.getElem?_cons_succ Option.getD_some K_hook hookB Bool.false_and Bool.and_false Bool.and_self K_P K_own absCall doCall getBoxes lend back idx dedup AV.ren CV.ren TV.ren AV.ptrs CV.ptrs zipBox AV.flat CV.flat absLoad absStore cellsOfAV setAt newBox markB bldTypes absFieldAddr absField absExtract absAssert noAssert absMkIface ifcOf CV.pv? content pushHead ownT fillCells reps pvs chunks enterSt leave resOf resVars resVar outBoxes lentOnly TV.deg TV.av LK CV.plain CV.noBld nilBin absUn bound List.map_cons List.map_nil List.all_cons List.all_nil List.any_cons List.any_nil List.contains_cons List.contains_nil List.elem_cons List.elem_nil List.cons_append List.nil_append List.append_nil List.flatMap_cons List.flatMap_nil List.zip_cons_cons List.zip_nil_left List.zip_nil_right List.take_succ_cons List.take_zero List.take_nil List.drop_succ_cons List.drop_zero List.drop_nil List.isEmpty_nil List.isEmpty_cons Bool.and_true Bool.true_and Bool.or_true Bool.true_or Bool.or_false Bool.false_or Bool.not_true Bool.not_false Nat.add_zero Nat.zero_add Option.isNone_none Option.isNone_some Option.getD_none true_and and_true not_true_eq_false not_false_eq_true decide_true decide_false Nat.le_refl and_self Bool.not_eq_true Nat.sub_self or_true true_or Option.some.injEq List.length_map List.nil_eq and_false false_and AV.live CV.live CV.liveIn K_keep firstReg Option.orElse_some Option.orElse_none head keepSlots keepBoxes Int.lt_irrefl List.length_append ite_self memOK logOps opKey lentBoxes Key.clash Key.sees Key.writes Nat.lt_irrefl gt_iff_lt nobox_at bot_at false_or or_false beq_self_eq_true Bool.true_beq Bool.false_beq
abbrev rdB (l : List Val) : List CV := [.pv (.sl (encL l))]
abbrev wrongC : CV := .pv (.ifa 115 [])
def nxCv : List Val → List CV
  | [] => [.pv (.int .i64 0), .pv (.int .i64 0), .pv (.str []), .pv (.int .i64 0), .nils]
  | .mk k t c :: _ => valCv k t c
theorem nx_nil : nxCv [] = [.pv (.int .i64 0), .pv (.int .i64 0), .pv (.str []), .pv (.int .i64 0), .nils] := rfl
theorem nx_cons (k : Int) (t : Tok) (c r : List Val) : nxCv (.mk k t c :: r) = [.pv (.int .i64 k), .pv (.int .i64 t.kind), .pv (.str t.text), .pv (.int .i64 t.n), .pv (.sl (encL c))] := rfl
theorem must_yes : den K 40 [B true] [] = some (.ret (.tup []) []) := by
  refine den_run rfl rfl Tryz.func40 rfl Tryz.ntmps40 ⟨by simp, by simp [LK]⟩ ?_
  have hr : Tryz.f40.results = #[] := rfl
  simp only [go_sem, Nat.reduceLT, reduceIte, reduceCtorEq, Nat.reduceEqDiff, apply_ite (Option.map (outOf _)), Nat.reduceBEq, Nat.reduceAdd, Nat.reduceSub, Nat.reduceLeDiff, Nat.reduceMul, ev_build ty_zeroCells_115 ty_placesOf_115, ty_concreteT_115, hr]
theorem must_no : den K 40 [B false] [] = some (.pan wrongC []) := by
  refine den_run rfl rfl Tryz.func40 rfl Tryz.ntmps40 ⟨by simp, by simp [LK]⟩ ?_
  have hr : Tryz.f40.results = #[] := rfl
  simp only [go_sem, Nat.reduceLT, reduceIte, reduceCtorEq, Nat.reduceEqDiff, apply_ite (Option.map (outOf _)), Nat.reduceBEq, Nat.reduceAdd, Nat.reduceSub, Nat.reduceLeDiff, Nat.reduceMul, ev_build ty_zeroCells_115 ty_placesOf_115, ty_concreteT_115, hr]
theorem rdNext_den (l : List Val) (hl : l.length ≤ 100000000) : den K 74 [P0] [rdB l] = some (.ret (.agg (nxCv l)) [rdB l]) := by
  have hr : Tryz.f74.results = #[.cell 2 93] := rfl
  cases l with
  | nil =>
    have q0 : (((0 : Nat) : Int) == 0) = true := rfl
    rw [nx_nil]
    simp only [rdB]
    refine den_run rfl rfl Tryz.func74 rfl Tryz.ntmps74 ⟨by simp, by simp [LK]⟩ ?_
    simp only [go_sem, Nat.reduceLT, reduceIte, reduceCtorEq, Nat.reduceEqDiff, apply_ite (Option.map (outOf _)), Nat.reduceBEq, Nat.reduceAdd, Nat.reduceSub, Nat.reduceLeDiff, Nat.reduceMul, ty_shapeT_93, ty_zeroCells_93, ty_fieldOff_118_0, ty_szOf_23, ty_shapeT_23, ev_len_sl ty_descOf_23, ev_build ty_zeroCells_93 ty_placesOf_93, ty_szOf_93, ev_indexAddr ty_descOf_23, hr, encL_len, q0]
  | cons v r =>
    obtain ⟨k, t, c⟩ := v
    rw [List.length_cons] at hl
    have hn0 : (((r.length + 1 : Nat) : Int) == 0) = false := by rw [beq_eq_false_iff_ne]; omega
    have hget := head_val k t c r
    rw [nx_cons]
    simp only [rdB]
    refine den_run rfl rfl Tryz.func74 rfl Tryz.ntmps74 ⟨by simp, by simp [LK]⟩ ?_
    simp only [go_sem, Nat.reduceLT, reduceIte, reduceCtorEq, Nat.reduceEqDiff, apply_ite (Option.map (outOf _)), Nat.reduceBEq, Nat.reduceAdd, Nat.reduceSub, Nat.reduceLeDiff, Nat.reduceMul, ty_shapeT_93, ty_zeroCells_93, ty_fieldOff_118_0, ty_szOf_23, ty_shapeT_23, ev_len_sl ty_descOf_23, ev_build ty_zeroCells_93 ty_placesOf_93, ty_szOf_93, ev_indexAddr ty_descOf_23, hr, encL_len, hn0, hget, le00]
theorem rdTake_cons (k : Int) (t : Tok) (c r : List Val) (hl : r.length ≤ 90000000) : den K 77 [P0] [rdB (.mk k t c :: r)] = some (.ret (.agg (nxCv (.mk k t c :: r))) [rdB r]) := by
  have hr : Tryz.f77.results = #[.cell 2 93] := rfl
  have h := rdNext_den (.mk k t c :: r) (by rw [List.length_cons]; omega)
  rw [nx_cons] at h ⊢
  simp only [rdB] at h ⊢
  have hlt : decide ((0 : Int) < (((r.length + 1 : Nat)) : Int)) = true := decide_eq_true (by omega)
  have hcut := cut_head (.mk k t c) r (r.length + 1) rfl
  have hb1 : ((0 : Int) ≤ 1 ∧ (1 : Int) ≤ ((r.length + 1 : Nat) : Int)) = True := by rw [eq_iff_iff]; simp; omega
  have hlv := lens_valsK (.mk k t c :: r)
  refine den_run rfl rfl Tryz.func77 rfl Tryz.ntmps77 ⟨by simp, by simp [LK]⟩ ?_
  simp only [go_sem, Nat.reduceLT, reduceIte, reduceCtorEq, Nat.reduceEqDiff, apply_ite (Option.map (outOf _)), Nat.reduceBEq, Nat.reduceAdd, Nat.reduceSub, Nat.reduceLeDiff, Nat.reduceMul, ty_shapeT_93, ty_zeroCells_93, good_74, ty_szOf_93, ty_fieldOff_118_0, ty_szOf_23, ty_shapeT_23, ev_len_sl ty_descOf_23, ev_slice_sl ty_descOf_23 ty_szOf_93, hr, encL_len, h, hlt, hcut, hb1, hlv]
def tokB (kind : Int) : List Val → Bool
  | .mk k t _ :: _ => (k == 1) && (t.kind == kind)
  | [] => false
theorem tokB_some {kind : Int} {l : List Val} {t : Tok} (h : Sl.tokK kind l = some t) : tokB kind l = true ∧ ∃ c r, l = .mk 1 t c :: r ∧ t.kind = kind := by
  cases l with
  | nil => cases h
  | cons v r =>
    obtain ⟨k, u, c⟩ := v
    unfold Sl.tokK at h
    simp only at h
    split at h
    · rename_i hh
      cases h
      obtain ⟨rfl, h2⟩ := hh
      exact ⟨by show (((1 : Int) == 1) && (t.kind == kind)) = true; rw [h2]; simp, c, r, rfl, h2⟩
    · cases h
theorem tokB_none {kind : Int} {l : List Val} (h : Sl.tokK kind l = none) : tokB kind l = false := by
  cases l with
  | nil => rfl
  | cons v r =>
    obtain ⟨k, u, c⟩ := v
    unfold Sl.tokK at h
    simp only at h
    split at h
    · cases h
    · rename_i hh
      show ((k == 1) && (u.kind == kind)) = false
      rw [Bool.and_eq_false_iff, beq_eq_false_iff_ne, beq_eq_false_iff_ne]
      by_cases h1 : k = 1
      · exact .inr fun h2 => hh ⟨h1, h2⟩
      · exact .inl h1
theorem rdTok_den (l : List Val) (kind : Int) (hl : l.length ≤ 100000000) : den K 71 [P0, I kind] [rdB l] = some (.ret (B (tokB kind l)) [rdB l]) := by
  have hr : Tryz.f71.results = #[.tmp 4] := rfl
  have h := rdNext_den l hl
  cases l with
  | nil =>
    rw [nx_nil] at h
    have q0 : ((0 : Int) == 1) = false := rfl
    show _ = (some (.ret (B false) [rdB []]) : Option Res)
    simp only [rdB] at h ⊢
    refine den_run rfl rfl Tryz.func71 rfl Tryz.ntmps71 ⟨by simp, by simp [LK]⟩ ?_
    simp only [go_sem, Nat.reduceLT, reduceIte, reduceCtorEq, Nat.reduceEqDiff, apply_ite (Option.map (outOf _)), Nat.reduceBEq, Nat.reduceAdd, Nat.reduceSub, Nat.reduceLeDiff, Nat.reduceMul, good_74, ty_fieldOff_93_0, ty_shapeT_3, ty_fieldOff_93_1, ty_shapeT_91, ty_fieldOff_91_0, hr, h, q0]
  | cons v r =>
    obtain ⟨k, t, c⟩ := v
    rw [nx_cons] at h
    show _ = (some (.ret (B ((k == 1) && (t.kind == kind))) [rdB (.mk k t c :: r)]) : Option Res)
    simp only [rdB] at h ⊢
    cases e1 : (k == 1)
    · refine den_run rfl rfl Tryz.func71 rfl Tryz.ntmps71 ⟨by simp, by simp [LK]⟩ ?_
      simp only [go_sem, Nat.reduceLT, reduceIte, reduceCtorEq, Nat.reduceEqDiff, apply_ite (Option.map (outOf _)), Nat.reduceBEq, Nat.reduceAdd, Nat.reduceSub, Nat.reduceLeDiff, Nat.reduceMul, good_74, ty_fieldOff_93_0, ty_shapeT_3, ty_fieldOff_93_1, ty_shapeT_91, ty_fieldOff_91_0, hr, h, e1]
    · refine den_run rfl rfl Tryz.func71 rfl Tryz.ntmps71 ⟨by simp, by simp [LK]⟩ ?_
      simp only [go_sem, Nat.reduceLT, reduceIte, reduceCtorEq, Nat.reduceEqDiff, apply_ite (Option.map (outOf _)), Nat.reduceBEq, Nat.reduceAdd, Nat.reduceSub, Nat.reduceLeDiff, Nat.reduceMul, good_74, ty_fieldOff_93_0, ty_shapeT_3, ty_fieldOff_93_1, ty_shapeT_91, ty_fieldOff_91_0, hr, h, e1]
abbrev ixtH (l : List (List UInt8)) (s : List UInt8) (i : Nat) : St :=
  { sl := upd (upd (upd (upd bot 8 (I i)) 7 (I l.length)) 1 (T s)) 0 (L (encT l)), bx := nobox, nt := 19 }
noncomputable def ixtlp : Code := .loop (loopAt Tryz.f151 2)
theorem ixt_loop (l : List (List UInt8)) (s : List UInt8) (hl : l.length ≤ 1000000000) : ∀ (rest : List (List UInt8)) (i : Nat), l.drop i = rest → i ≤ l.length →
    Ends (exL K 151 ixtlp (ixtH l s i)) fun o S => match rest.findIdx? (s == ·) with
      | none => o = .exit 0 ∧ S.nt = 19
      | some j => o = .ret ∧ S.sl 4 = I ((i + j : Nat) : Int)
  | [], i, hd, hi => by
    have hin : i = l.length := by
      have := List.drop_eq_nil_iff.1 hd
      omega
    subst hin
    have hlt : decide ((l.length : Int) < (l.length : Int)) = false := decide_eq_false (by omega)
    unfold ixtlp
    conv in loopAt _ _ => whnf
    rw [exL_loop]
    simp only [go_sem, Nat.reduceLT, reduceIte, reduceCtorEq, Nat.reduceEqDiff, apply_ite (Option.map (outOf _)), Nat.reduceBEq, Nat.reduceAdd, Nat.reduceSub, Nat.reduceLeDiff, Nat.reduceMul, ev_len_sl ty_descOf_97, ev_indexAddr ty_descOf_97, ty_szOf_9, ty_shapeT_9, keep_151_2, hlt, ends_some, List.findIdx?_nil]
  | x :: rest, i, hd, hi => by
    obtain ⟨g1, g2, g3⟩ := drop_cons hd
    have hlt : decide ((i : Int) < (l.length : Int)) = true := decide_eq_true (by omega)
    have hget := txt_at l i x g1
    have ih := ixt_loop l s hl rest (i + 1) g2 (by omega)
    have hws : IntKind.i64.wrap ((i : Int) + 1) = ((i + 1 : Nat) : Int) := wrap_nat i (by omega)
    unfold ixtlp at ih ⊢
    conv at ih in loopAt _ _ => whnf
    rw [List.findIdx?_cons]
    conv in loopAt _ _ => whnf
    rw [exL_loop]
    cases hv : (s == x)
    · rw [if_neg (by simp)]
      simp only [go_sem, Nat.reduceLT, reduceIte, reduceCtorEq, Nat.reduceEqDiff, apply_ite (Option.map (outOf _)), Nat.reduceBEq, Nat.reduceAdd, Nat.reduceSub, Nat.reduceLeDiff, Nat.reduceMul, ev_len_sl ty_descOf_97, ev_indexAddr ty_descOf_97, ty_szOf_9, ty_shapeT_9, keep_151_2, hlt, hget, Int.natCast_nonneg, hv, hws]
      rw [exL_head]
      simp only [go_sem, Nat.reduceLT, reduceIte, reduceCtorEq, Nat.reduceEqDiff, apply_ite (Option.map (outOf _)), Nat.reduceBEq, Nat.reduceAdd, Nat.reduceSub, Nat.reduceLeDiff, Nat.reduceMul, ev_len_sl ty_descOf_97, ev_indexAddr ty_descOf_97, ty_szOf_9, ty_shapeT_9, keep_151_2]
      refine ends_imp ih fun o S q => ?_
      cases hf : rest.findIdx? (s == ·) with
      | none => rw [hf] at q; exact q
      | some j =>
        rw [hf] at q
        refine ⟨q.1, q.2.trans ?_⟩
        rw [show i + 1 + j = i + (j + 1) by omega]
    · rw [if_pos rfl]
      simp only [go_sem, Nat.reduceLT, reduceIte, reduceCtorEq, Nat.reduceEqDiff, apply_ite (Option.map (outOf _)), Nat.reduceBEq, Nat.reduceAdd, Nat.reduceSub, Nat.reduceLeDiff, Nat.reduceMul, ev_len_sl ty_descOf_97, ev_indexAddr ty_descOf_97, ty_szOf_9, ty_shapeT_9, keep_151_2, hlt, hget, Int.natCast_nonneg, hv, ends_some, Nat.add_zero]
theorem IndexTx_den (l : List (List UInt8)) (s : List UInt8) (hl : l.length ≤ 1000000000) :
    den K 151 [L (encT l), T s] [] = some (.ret (I (ixI (l.findIdx? (s == ·)))) []) := by
  have hr : Tryz.f151.results = #[.tmp 4] := rfl
  have h := ixt_loop l s hl l 0 rfl (Nat.zero_le _)
  unfold ixtlp at h
  conv at h in loopAt _ _ => whnf
  obtain ⟨o, S', w, hq⟩ := h
  have z0 : ((0 : Nat) : Int) = 0 := rfl
  simp only [ixtH, z0] at w
  refine den_run rfl rfl Tryz.func151 rfl Tryz.ntmps151 ⟨by simp, by simp [LK]⟩ ?_
  cases hf : l.findIdx? (s == ·) with
  | none =>
    rw [hf] at hq
    obtain ⟨rfl, hn⟩ := hq
    unfold ixI
    simp only [go_sem, Nat.reduceLT, reduceIte, reduceCtorEq, Nat.reduceEqDiff, apply_ite (Option.map (outOf _)), Nat.reduceBEq, Nat.reduceAdd, Nat.reduceSub, Nat.reduceLeDiff, Nat.reduceMul, ev_len_sl ty_descOf_97, ev_indexAddr ty_descOf_97, ty_szOf_9, ty_shapeT_9, keep_151_2, encT_len]
    rw [exL_head]
    simp only [go_sem, Nat.reduceLT, reduceIte, reduceCtorEq, Nat.reduceEqDiff, apply_ite (Option.map (outOf _)), Nat.reduceBEq, Nat.reduceAdd, Nat.reduceSub, Nat.reduceLeDiff, Nat.reduceMul, ev_len_sl ty_descOf_97, ev_indexAddr ty_descOf_97, ty_szOf_9, ty_shapeT_9, keep_151_2]
    erw [w]
    simp only [go_sem, Nat.reduceLT, reduceIte, reduceCtorEq, Nat.reduceEqDiff, apply_ite (Option.map (outOf _)), Nat.reduceBEq, Nat.reduceAdd, Nat.reduceSub, Nat.reduceLeDiff, Nat.reduceMul, ev_len_sl ty_descOf_97, ev_indexAddr ty_descOf_97, ty_szOf_9, ty_shapeT_9, keep_151_2, hr, hn]
  | some j =>
    rw [hf] at hq
    obtain ⟨rfl, h4⟩ := hq
    rw [Nat.zero_add] at h4
    unfold ixI
    simp only [go_sem, Nat.reduceLT, reduceIte, reduceCtorEq, Nat.reduceEqDiff, apply_ite (Option.map (outOf _)), Nat.reduceBEq, Nat.reduceAdd, Nat.reduceSub, Nat.reduceLeDiff, Nat.reduceMul, ev_len_sl ty_descOf_97, ev_indexAddr ty_descOf_97, ty_szOf_9, ty_shapeT_9, keep_151_2, encT_len]
    rw [exL_head]
    simp only [go_sem, Nat.reduceLT, reduceIte, reduceCtorEq, Nat.reduceEqDiff, apply_ite (Option.map (outOf _)), Nat.reduceBEq, Nat.reduceAdd, Nat.reduceSub, Nat.reduceLeDiff, Nat.reduceMul, ev_len_sl ty_descOf_97, ev_indexAddr ty_descOf_97, ty_szOf_9, ty_shapeT_9, keep_151_2]
    erw [w]
    simp only [go_sem, Nat.reduceLT, reduceIte, reduceCtorEq, Nat.reduceEqDiff, apply_ite (Option.map (outOf _)), Nat.reduceBEq, Nat.reduceAdd, Nat.reduceSub, Nat.reduceLeDiff, Nat.reduceMul, ev_len_sl ty_descOf_97, ev_indexAddr ty_descOf_97, ty_szOf_9, ty_shapeT_9, keep_151_2, hr, h4]
theorem ContainsTx_den (l : List (List UInt8)) (s : List UInt8) (hl : l.length ≤ 1000000000) :
    den K 106 [L (encT l), T s] [] = some (.ret (B (l.any (s == ·))) []) := by
  have hr : Tryz.f106.results = #[.tmp 4] := rfl
  have h := IndexTx_den l s hl
  rw [← ix_any]
  refine den_run rfl rfl Tryz.func106 rfl Tryz.ntmps106 ⟨by simp, by simp [LK]⟩ ?_
  simp only [go_sem, Nat.reduceLT, reduceIte, reduceCtorEq, Nat.reduceEqDiff, apply_ite (Option.map (outOf _)), Nat.reduceBEq, Nat.reduceAdd, Nat.reduceSub, Nat.reduceLeDiff, Nat.reduceMul, good_151, hr, h]
def signP (ss : List (List UInt8)) : List Val → Option (List UInt8 × List Val)
  | .mk k t _ :: r => if k = 1 ∧ t.kind = 7 ∧ t.n = 0 ∧ ss.any (t.text == ·) = true then some (t.text, r) else none
  | [] => none
def signA (ss : List (List UInt8)) (l : List Val) : Option Res := match signP ss l with
  | some (s, r) => some (.ret (T s) [rdB r])
  | none => some (.ret (T []) [rdB l])
set_option maxHeartbeats 4000000 in
theorem rdSign_den (l : List Val) (ss : List (List UInt8)) (hl : l.length ≤ 90000000) (hs : ss.length ≤ 1000) : den K 78 [P0, L (encT ss)] [rdB l] = signA ss l := by
  have hr : Tryz.f78.results = #[.tmp 4] := rfl
  have h := rdNext_den l (by omega)
  have ht := rdTok_den l 7 (by omega)
  unfold signA
  cases l with
  | nil =>
    rw [nx_nil] at h
    simp only [signP, rdB, tokB] at h ht ⊢
    refine den_run rfl rfl Tryz.func78 rfl Tryz.ntmps78 ⟨by simp, by simp [LK]⟩ ?_
    simp only [go_sem, Nat.reduceLT, reduceIte, reduceCtorEq, Nat.reduceEqDiff, apply_ite (Option.map (outOf _)), Nat.reduceBEq, Nat.reduceAdd, Nat.reduceSub, Nat.reduceLeDiff, Nat.reduceMul, good_74, ty_fieldOff_93_1, ty_shapeT_91, ty_zeroCells_91, ty_szOf_91, good_71, ty_fieldOff_91_2, ty_szOf_3, ty_shapeT_3, ty_fieldOff_91_1, ty_szOf_9, ty_shapeT_9, good_106, good_77, hr, h, ht]
  | cons v r =>
    obtain ⟨k, t, c⟩ := v
    rw [nx_cons] at h
    have hk := rdTake_cons k t c r (by rw [List.length_cons] at hl; omega)
    have hc := ContainsTx_den ss t.text (by omega)
    rw [nx_cons] at hk
    simp only [signP, rdB, tokB] at h ht hk ⊢
    cases e1 : (k == 1)
    · have n1 : k ≠ 1 := by simpa using e1
      rw [if_neg fun h => n1 h.1]
      refine den_run rfl rfl Tryz.func78 rfl Tryz.ntmps78 ⟨by simp, by simp [LK]⟩ ?_
      simp only [go_sem, Nat.reduceLT, reduceIte, reduceCtorEq, Nat.reduceEqDiff, apply_ite (Option.map (outOf _)), Nat.reduceBEq, Nat.reduceAdd, Nat.reduceSub, Nat.reduceLeDiff, Nat.reduceMul, good_74, ty_fieldOff_93_1, ty_shapeT_91, ty_zeroCells_91, ty_szOf_91, good_71, ty_fieldOff_91_2, ty_szOf_3, ty_shapeT_3, ty_fieldOff_91_1, ty_szOf_9, ty_shapeT_9, good_106, good_77, hr, h, ht, e1]
    · have n1 : k = 1 := by simpa using e1
      cases e2 : (t.kind == 7)
      · have n2 : t.kind ≠ 7 := by simpa using e2
        rw [if_neg fun h => n2 h.2.1]
        refine den_run rfl rfl Tryz.func78 rfl Tryz.ntmps78 ⟨by simp, by simp [LK]⟩ ?_
        simp only [go_sem, Nat.reduceLT, reduceIte, reduceCtorEq, Nat.reduceEqDiff, apply_ite (Option.map (outOf _)), Nat.reduceBEq, Nat.reduceAdd, Nat.reduceSub, Nat.reduceLeDiff, Nat.reduceMul, good_74, ty_fieldOff_93_1, ty_shapeT_91, ty_zeroCells_91, ty_szOf_91, good_71, ty_fieldOff_91_2, ty_szOf_3, ty_shapeT_3, ty_fieldOff_91_1, ty_szOf_9, ty_shapeT_9, good_106, good_77, hr, h, ht, e1, e2]
      · have n2 : t.kind = 7 := by simpa using e2
        cases e3 : (t.n == 0)
        · have n3 : t.n ≠ 0 := by simpa using e3
          rw [if_neg fun h => n3 h.2.2.1]
          refine den_run rfl rfl Tryz.func78 rfl Tryz.ntmps78 ⟨by simp, by simp [LK]⟩ ?_
          simp only [go_sem, Nat.reduceLT, reduceIte, reduceCtorEq, Nat.reduceEqDiff, apply_ite (Option.map (outOf _)), Nat.reduceBEq, Nat.reduceAdd, Nat.reduceSub, Nat.reduceLeDiff, Nat.reduceMul, good_74, ty_fieldOff_93_1, ty_shapeT_91, ty_zeroCells_91, ty_szOf_91, good_71, ty_fieldOff_91_2, ty_szOf_3, ty_shapeT_3, ty_fieldOff_91_1, ty_szOf_9, ty_shapeT_9, good_106, good_77, hr, h, ht, e1, e2, e3]
        · have n3 : t.n = 0 := by simpa using e3
          cases e4 : ss.any (t.text == ·)
          · rw [if_neg fun h => absurd h.2.2.2 (by simp)]
            refine den_run rfl rfl Tryz.func78 rfl Tryz.ntmps78 ⟨by simp, by simp [LK]⟩ ?_
            simp only [go_sem, Nat.reduceLT, reduceIte, reduceCtorEq, Nat.reduceEqDiff, apply_ite (Option.map (outOf _)), Nat.reduceBEq, Nat.reduceAdd, Nat.reduceSub, Nat.reduceLeDiff, Nat.reduceMul, good_74, ty_fieldOff_93_1, ty_shapeT_91, ty_zeroCells_91, ty_szOf_91, good_71, ty_fieldOff_91_2, ty_szOf_3, ty_shapeT_3, ty_fieldOff_91_1, ty_szOf_9, ty_shapeT_9, good_106, good_77, hr, h, ht, e1, e2, e3, hc, e4]
          · rw [if_pos ⟨n1, n2, n3, rfl⟩]
            refine den_run rfl rfl Tryz.func78 rfl Tryz.ntmps78 ⟨by simp, by simp [LK]⟩ ?_
            simp only [go_sem, Nat.reduceLT, reduceIte, reduceCtorEq, Nat.reduceEqDiff, apply_ite (Option.map (outOf _)), Nat.reduceBEq, Nat.reduceAdd, Nat.reduceSub, Nat.reduceLeDiff, Nat.reduceMul, good_74, ty_fieldOff_93_1, ty_shapeT_91, ty_zeroCells_91, ty_szOf_91, good_71, ty_fieldOff_91_2, ty_szOf_3, ty_shapeT_3, ty_fieldOff_91_1, ty_szOf_9, ty_shapeT_9, good_106, good_77, hr, h, ht, e1, e2, e3, hc, e4, hk]
theorem signP_one (s : List UInt8) (l : List Val) : signP [s] l = (Sl.sign s l).map fun r => (s, r) := by
  cases l with
  | nil => rfl
  | cons v r =>
    obtain ⟨k, t, c⟩ := v
    have hs : Sl.isSign s (.mk k t c) = true ↔ k = 1 ∧ t = ⟨7, s, 0⟩ := by
      show ((k == 1) && decide (t = ⟨7, s, 0⟩)) = true ↔ _
      simp
    unfold signP Sl.sign
    simp only [List.any_cons, List.any_nil, Bool.or_false, beq_iff_eq]
    by_cases h : k = 1 ∧ t.kind = 7 ∧ t.n = 0 ∧ t.text = s
    · obtain ⟨h1, h2, h3, h4⟩ := h
      have e : t = ⟨7, s, 0⟩ := by cases t; simp_all
      rw [if_pos ⟨h1, h2, h3, h4⟩, if_pos (hs.2 ⟨h1, e⟩), h4]
      rfl
    · rw [if_neg h, if_neg fun x => h (by obtain ⟨x1, x2⟩ := hs.1 x; rw [x2]; exact ⟨x1, rfl, rfl, rfl⟩)]
      rfl
theorem sign1_yes {s : List UInt8} {l r : List Val} (hl : l.length ≤ 90000000) (h : Sl.sign s l = some r) : den K 78 [P0, L [[.str s]]] [rdB l] = some (.ret (T s) [rdB r]) := by
  have := rdSign_den l [s] hl (by simp)
  unfold signA at this
  rw [signP_one, h] at this
  exact this
theorem sign1_no {s : List UInt8} {l : List Val} (hl : l.length ≤ 90000000) (h : Sl.sign s l = none) : den K 78 [P0, L [[.str s]]] [rdB l] = some (.ret (T []) [rdB l]) := by
  have := rdSign_den l [s] hl (by simp)
  unfold signA at this
  rw [signP_one, h] at this
  exact this
abbrev rdblH (l : List Val) (w : Bool) : St := { sl := upd (upd bot 3 (B w)) 0 P0, bx := upd nobox 100000 (some (rdB l)), nt := 9 }
noncomputable def rdblp : Code := .loop (loopAt Tryz.f141 2)
theorem rdbl_no (l : List Val) (w : Bool) (hl : l.length ≤ 80000000) (hb : tokB 8 l = false) :
    Ends (exL K 141 rdblp (rdblH l w)) fun o S => o = .exit 0 ∧ S.nt = 9 ∧ S.sl 0 = P0 ∧ S.sl 3 = B w ∧ S.bx 100000 = some (rdB l) := by
  have ht := rdTok_den l 8 (by omega)
  rw [hb] at ht
  simp only [rdB] at ht
  unfold rdblp
  conv in loopAt _ _ => whnf
  rw [exL_loop]
  simp only [go_sem, Nat.reduceLT, reduceIte, reduceCtorEq, Nat.reduceEqDiff, apply_ite (Option.map (outOf _)), Nat.reduceBEq, Nat.reduceAdd, Nat.reduceSub, Nat.reduceLeDiff, Nat.reduceMul, good_71, good_77, keep_141_2, ht, ends_some]
def RdOut {α : Type} (enc : α → AV) (o : Option (α × List Val)) (r : Option Res) : Prop := match o with
  | some (x, m) => r = some (.ret (enc x) [rdB m])
  | none => ∃ m, r = some (.pan wrongC [rdB m])
theorem rdName_den (l : List Val) (hl : l.length ≤ 80000000) : RdOut T (Sl.name l) (den K 73 [P0] [rdB l]) := by
  have hr : Tryz.f73.results = #[.tmp 2] := rfl
  have ht := rdTok_den l 1 (by omega)
  unfold Sl.name
  cases hk : Sl.tokK 1 l with
  | none =>
    rw [tokB_none hk] at ht
    have hm := must_no
    refine ⟨l, ?_⟩
    simp only [rdB] at ht ⊢
    refine den_run rfl rfl Tryz.func73 rfl Tryz.ntmps73 ⟨by simp, by simp [LK]⟩ ?_
    simp only [go_sem, Nat.reduceLT, reduceIte, reduceCtorEq, Nat.reduceEqDiff, apply_ite (Option.map (outOf _)), Nat.reduceBEq, Nat.reduceAdd, Nat.reduceSub, Nat.reduceLeDiff, Nat.reduceMul, good_71, good_40, good_77, ty_fieldOff_93_1, ty_shapeT_91, ty_fieldOff_91_1, ty_shapeT_9, hr, ht, hm]
  | some t =>
    obtain ⟨e, c, r, rfl, h1⟩ := tokB_some hk
    rw [e] at ht
    have hm := must_yes
    have htk := rdTake_cons 1 t c r (by rw [List.length_cons] at hl; omega)
    rw [nx_cons] at htk
    show den K 73 [P0] [rdB (.mk 1 t c :: r)] = some (.ret (T t.text) [rdB r])
    simp only [rdB] at ht htk ⊢
    refine den_run rfl rfl Tryz.func73 rfl Tryz.ntmps73 ⟨by simp, by simp [LK]⟩ ?_
    simp only [go_sem, Nat.reduceLT, reduceIte, reduceCtorEq, Nat.reduceEqDiff, apply_ite (Option.map (outOf _)), Nat.reduceBEq, Nat.reduceAdd, Nat.reduceSub, Nat.reduceLeDiff, Nat.reduceMul, good_71, good_40, good_77, ty_fieldOff_93_1, ty_shapeT_91, ty_fieldOff_91_1, ty_shapeT_9, hr, ht, hm, htk]
theorem rdNum_den (l : List Val) (hl : l.length ≤ 80000000) : RdOut I (Sl.numP l) (den K 76 [P0] [rdB l]) := by
  have hr : Tryz.f76.results = #[.tmp 2] := rfl
  have ht := rdTok_den l 5 (by omega)
  unfold Sl.numP
  cases hk : Sl.tokK 5 l with
  | none =>
    rw [tokB_none hk] at ht
    have hm := must_no
    refine ⟨l, ?_⟩
    simp only [rdB] at ht ⊢
    refine den_run rfl rfl Tryz.func76 rfl Tryz.ntmps76 ⟨by simp, by simp [LK]⟩ ?_
    simp only [go_sem, Nat.reduceLT, reduceIte, reduceCtorEq, Nat.reduceEqDiff, apply_ite (Option.map (outOf _)), Nat.reduceBEq, Nat.reduceAdd, Nat.reduceSub, Nat.reduceLeDiff, Nat.reduceMul, good_71, good_74, ty_fieldOff_93_1, ty_shapeT_91, ty_fieldOff_91_1, ty_shapeT_9, good_40, good_77, ty_fieldOff_91_2, ty_shapeT_3, hr, ht, hm]
  | some t =>
    obtain ⟨e, c, r, rfl, h1⟩ := tokB_some hk
    rw [e] at ht
    have hx := rdNext_den (.mk 1 t c :: r) (by omega)
    have htk := rdTake_cons 1 t c r (by rw [List.length_cons] at hl; omega)
    rw [nx_cons] at htk hx
    simp only
    by_cases hs : t.text = []
    · rw [if_pos hs]
      have hm := must_yes
      have e0 : (t.text == []) = true := by rw [hs]; rfl
      show den K 76 [P0] [rdB (.mk 1 t c :: r)] = some (.ret (I t.n) [rdB r])
      simp only [rdB] at ht htk hx ⊢
      refine den_run rfl rfl Tryz.func76 rfl Tryz.ntmps76 ⟨by simp, by simp [LK]⟩ ?_
      simp only [go_sem, Nat.reduceLT, reduceIte, reduceCtorEq, Nat.reduceEqDiff, apply_ite (Option.map (outOf _)), Nat.reduceBEq, Nat.reduceAdd, Nat.reduceSub, Nat.reduceLeDiff, Nat.reduceMul, good_71, good_74, ty_fieldOff_93_1, ty_shapeT_91, ty_fieldOff_91_1, ty_shapeT_9, good_40, good_77, ty_fieldOff_91_2, ty_shapeT_3, hr, ht, hm, hx, htk, e0]
    · rw [if_neg hs]
      have hm := must_no
      have e0 : (t.text == []) = false := by rw [beq_eq_false_iff_ne]; exact hs
      refine ⟨.mk 1 t c :: r, ?_⟩
      simp only [rdB] at ht htk hx ⊢
      refine den_run rfl rfl Tryz.func76 rfl Tryz.ntmps76 ⟨by simp, by simp [LK]⟩ ?_
      simp only [go_sem, Nat.reduceLT, reduceIte, reduceCtorEq, Nat.reduceEqDiff, apply_ite (Option.map (outOf _)), Nat.reduceBEq, Nat.reduceAdd, Nat.reduceSub, Nat.reduceLeDiff, Nat.reduceMul, good_71, good_74, ty_fieldOff_93_1, ty_shapeT_91, ty_fieldOff_91_1, ty_shapeT_9, good_40, good_77, ty_fieldOff_91_2, ty_shapeT_3, hr, ht, hm, hx, e0]
end Go.Abs
namespace Go.Abs
open Go Go.Proofs
set_option maxRecDepth 10000
attribute [local go_sem] exL_seq exL_region exL_cond exL_block exL_scope exL_ret exL_skip exL_exit runRegion runOps stepOp guardA absOp takeOver opd avOf cvOf St.degAt St.put okPV okVal okAV absBin intBin strBin boolBin setBoxes if_true Bool.false_eq_true if_false Option.map_some Option.map_none Option.bind_some Option.bind_none thenO outOf upd List.toList_toArray isOwn steal appArgs mvB fullAt absFull inApps AV.deg CV.deg AV.gv AV.isIter absNext some_bne some_beqN List.length_nil List.length_cons List.filterMap_cons List.filterMap_nil beq_iff_eq List.getElem?_cons_zero List.getElem?_cons_succ Option.getD_some K_hook hookB Bool.false_and Bool.and_false Bool.and_self K_P K_own absCall doCall getBoxes lend back idx dedup AV.ren CV.ren TV.ren AV.ptrs CV.ptrs zipBox AV.flat CV.flat absLoad absStore cellsOfAV setAt newBox markB bldTypes absFieldAddr absField absExtract absAssert noAssert absMkIface ifcOf CV.pv? content pushHead ownT fillCells reps pvs chunks enterSt leave resOf resVars resVar outBoxes lentOnly TV.deg TV.av LK CV.plain CV.noBld nilBin absUn bound List.map_cons List.map_nil List.all_cons List.all_nil List.any_cons List.any_nil List.contains_cons List.contains_nil List.elem_cons List.elem_nil List.cons_append List.nil_append List.append_nil List.flatMap_cons List.flatMap_nil List.zip_cons_cons List.zip_nil_left List.zip_nil_right List.take_succ_cons List.take_zero List.take_nil List.drop_succ_cons List.drop_zero List.drop_nil List.isEmpty_nil List.isEmpty_cons Bool.and_true Bool.true_and Bool.or_true Bool.true_or Bool.or_false Bool.false_or Bool.not_true Bool.not_false Nat.add_zero Nat.zero_add Option.isNone_none Option.isNone_some Option.getD_none true_and and_true not_true_eq_false not_false_eq_true decide_true decide_false Nat.le_refl and_self Bool.not_eq_true Nat.sub_self or_true true_or Option.some.injEq List.length_map List.nil_eq and_false false_and AV.live CV.live CV.liveIn K_keep firstReg Option.orElse_some Option.orElse_none head keepSlots keepBoxes Int.lt_irrefl List.length_append ite_self memOK logOps opKey lentBoxes Key.clash Key.sees Key.writes Nat.lt_irrefl gt_iff_lt nobox_at bot_at false_or or_false beq_self_eq_true Bool.true_beq Bool.false_beq
theorem reach_if2 {α : Type} {ops ops' : List Oper} {n j i n' j' i' : Nat} {a b : α} (h : (reach ops n j i && reach ops' n' j' i') = true) : (if (reach ops n j i && reach ops' n' j' i') = true then a else b) = a := if_pos h
end Go.Abs
namespace Go.Abs
open Go Go.Proofs
set_option maxRecDepth 10000
attribute [local go_sem] exL_seq exL_region exL_cond exL_block exL_scope exL_ret exL_skip exL_exit runRegion runOps stepOp guardA absOp takeOver opd avOf cvOf St.degAt St.put okPV okVal okAV absBin intBin strBin boolBin setBoxes if_true Bool.false_eq_true if_false Option.map_some Option.map_none Option.bind_some Option.bind_none thenO outOf upd List.toList_toArray isOwn steal appArgs mvB fullAt absFull inApps AV.deg CV.deg AV.gv AV.isIter absNext some_bne some_beqN List.length_nil List.length_cons List.filterMap_cons List.filterMap_nil beq_iff_eq List.getElem?_cons_zero List.getElem?_cons_succ Option.getD_some K_hook hookB Bool.false_and Bool.and_false Bool.and_self K_P K_own absCall doCall getBoxes lend back idx dedup AV.ren CV.ren TV.ren AV.ptrs CV.ptrs zipBox AV.flat CV.flat absLoad absStore cellsOfAV setAt newBox markB bldTypes absFieldAddr absField absExtract absAssert noAssert absMkIface ifcOf CV.pv? content pushHead ownT fillCells reps pvs chunks enterSt leave resOf resVars resVar outBoxes lentOnly TV.deg TV.av LK CV.plain CV.noBld nilBin absUn bound List.map_cons List.map_nil List.all_cons List.all_nil List.any_cons List.any_nil List.contains_cons List.contains_nil List.elem_cons List.elem_nil List.cons_append List.nil_append List.append_nil List.flatMap_cons List.flatMap_nil List.zip_cons_cons List.zip_nil_left List.zip_nil_right List.take_succ_cons List.take_zero List.take_nil List.drop_succ_cons List.drop_zero List.drop_nil List.isEmpty_nil List.isEmpty_cons Bool.and_true Bool.true_and Bool.or_true Bool.true_or Bool.or_false Bool.false_or Bool.not_true Bool.not_false Nat.add_zero Nat.zero_add Option.isNone_none Option.isNone_some Option.getD_none true_and and_true not_true_eq_false not_false_eq_true decide_true decide_false Nat.le_refl and_self Bool.not_eq_true Nat.sub_self or_true true_or Option.some.injEq List.length_map List.nil_eq and_false false_and AV.live CV.live CV.liveIn K_keep firstReg Option.orElse_some Option.orElse_none head keepSlots keepBoxes Int.lt_irrefl List.length_append ite_self memOK logOps opKey lentBoxes Key.clash Key.sees Key.writes Nat.lt_irrefl gt_iff_lt nobox_at bot_at false_or or_false beq_self_eq_true Bool.true_beq Bool.false_beq
def TSh (l : List Val) : Prop := ∀ t ∈ Ne.flat l, t.text.length < 1000000000
theorem ts_sub {l m : List Val} (h : TSh l) (hs : ∀ v ∈ m, v ∈ l) : TSh m := fun t ht => by
  obtain ⟨v, hv, ht⟩ := Sl.flat_mem.1 ht
  exact h t (Sl.flat_mem.2 ⟨v, hs v hv, ht⟩)
theorem ts_trim {l : List Val} (h : TSh l) : TSh (Sl.trim l) := ts_sub h fun v hv => Sl.mem_trim hv
theorem ts_tok {t : Tok} {c l : List Val} (h : TSh (.mk 1 t c :: l)) : t.text.length < 1000000000 := h t (Sl.flat_mem.2 ⟨.mk 1 t c, by simp, by rw [Ne.flatV, if_pos rfl]; simp⟩)
theorem size_appL (a b : List Val) : Ne.size (a ++ b) = Ne.size a + Ne.size b := by
  induction a with
  | nil => rw [Ne.size]; simp
  | cons v a ih => rw [List.cons_append, Ne.size, Ne.size, ih]; omega
theorem size_dropW (p : Val → Bool) (l : List Val) : Ne.size (l.dropWhile p) ≤ Ne.size l := by
  have h : l.takeWhile p ++ l.dropWhile p = l := List.takeWhile_append_dropWhile
  have := size_appL (l.takeWhile p) (l.dropWhile p)
  rw [h] at this
  omega
theorem size_revL (l : List Val) : Ne.size l.reverse = Ne.size l := by
  induction l with
  | nil => rfl
  | cons v l ih =>
    rw [List.reverse_cons, size_appL, ih, Ne.size, Ne.size, Ne.size]
    omega
theorem size_trimL (l : List Val) : Ne.size (Sl.trim l) ≤ Ne.size l := by
  unfold Sl.trim
  rw [size_revL]
  have h1 := size_dropW Sl.isBlank (l.dropWhile Sl.isBlank).reverse
  have h2 := size_dropW Sl.isBlank l
  rw [size_revL] at h1
  omega
end Go.Abs
namespace Go.Abs
open Go Go.Proofs
set_option maxRecDepth 10000
attribute [local go_sem] exL_seq exL_region exL_cond exL_block exL_scope exL_ret exL_skip exL_exit runRegion runOps stepOp guardA absOp takeOver opd avOf cvOf St.degAt St.put okPV okVal okAV absBin intBin strBin boolBin setBoxes if_true Bool.false_eq_true if_false Option.map_some Option.map_none Option.bind_some Option.bind_none thenO outOf upd List.toList_toArray isOwn steal appArgs mvB fullAt absFull inApps AV.deg CV.deg AV.gv AV.isIter absNext some_bne some_beqN List.length_nil List.length_cons List.filterMap_cons List.filterMap_nil beq_iff_eq List.getElem?_cons_zero List.getElem?_cons_succ Option.getD_some K_hook hookB Bool.false_and Bool.and_false Bool.and_self K_P K_own absCall doCall getBoxes lend back idx dedup AV.ren CV.ren TV.ren AV.ptrs CV.ptrs zipBox AV.flat CV.flat absLoad absStore cellsOfAV setAt newBox markB bldTypes absFieldAddr absField absExtract absAssert noAssert absMkIface ifcOf CV.pv? content pushHead ownT fillCells reps pvs chunks enterSt leave resOf resVars resVar outBoxes lentOnly TV.deg TV.av LK CV.plain CV.noBld nilBin absUn bound List.map_cons List.map_nil List.all_cons List.all_nil List.any_cons List.any_nil List.contains_cons List.contains_nil List.elem_cons List.elem_nil List.cons_append List.nil_append List.append_nil List.flatMap_cons List.flatMap_nil List.zip_cons_cons List.zip_nil_left List.zip_nil_right List.take_succ_cons List.take_zero List.take_nil List.drop_succ_cons List.drop_zero List.drop_nil List.isEmpty_nil List.isEmpty_cons Bool.and_true Bool.true_and Bool.or_true Bool.true_or Bool.or_false Bool.false_or Bool.not_true Bool.not_false Nat.add_zero Nat.zero_add Option.isNone_none Option.isNone_some Option.getD_none true_and and_true not_true_eq_false not_false_eq_true decide_true decide_false Nat.le_refl and_self Bool.not_eq_true Nat.sub_self or_true true_or Option.some.injEq List.length_map List.nil_eq and_false false_and AV.live CV.live CV.liveIn K_keep firstReg Option.orElse_some Option.orElse_none head keepSlots keepBoxes Int.lt_irrefl List.length_append ite_self memOK logOps opKey lentBoxes Key.clash Key.sees Key.writes Nat.lt_irrefl gt_iff_lt nobox_at bot_at false_or or_false beq_self_eq_true Bool.true_beq Bool.false_beq
def nthA (x : Option (Int × Int)) : AV := match x with
  | some x => .tup [.c (.pv (.int .i64 x.1)), .c (.pv (.int .i64 x.2)), .c (.pv (.int .i64 0))]
  | none => .tup [.c (.pv (.int .i64 0)), .c (.pv (.int .i64 0)), .c (.pv (.int .i64 40))]
end Go.Abs
namespace Go.Abs
open Go Go.Proofs
set_option maxRecDepth 10000
attribute [local go_sem] exL_seq exL_region exL_cond exL_block exL_scope exL_ret exL_skip exL_exit runRegion runOps stepOp guardA absOp takeOver opd avOf cvOf St.degAt St.put okPV okVal okAV absBin intBin strBin boolBin setBoxes if_true Bool.false_eq_true if_false Option.map_some Option.map_none Option.bind_some Option.bind_none thenO outOf upd List.toList_toArray isOwn steal appArgs mvB fullAt absFull inApps AV.deg CV.deg AV.gv AV.isIter absNext some_bne some_beqN List.length_nil List.length_cons List.filterMap_cons List.filterMap_nil beq_iff_eq List.getElem?_cons_zero List.getElem?_cons_succ Option.getD_some K_hook hookB Bool.false_and Bool.and_false Bool.and_self K_P K_own absCall doCall getBoxes lend back idx dedup AV.ren CV.ren TV.ren AV.ptrs CV.ptrs zipBox AV.flat CV.flat absLoad absStore cellsOfAV setAt newBox markB bldTypes absFieldAddr absField absExtract absAssert noAssert absMkIface ifcOf CV.pv? content pushHead ownT fillCells reps pvs chunks enterSt leave resOf resVars resVar outBoxes lentOnly TV.deg TV.av LK CV.plain CV.noBld nilBin absUn bound List.map_cons List.map_nil List.all_cons List.all_nil List.any_cons List.any_nil List.contains_cons List.contains_nil List.elem_cons List.elem_nil List.cons_append List.nil_append List.append_nil List.flatMap_cons List.flatMap_nil List.zip_cons_cons List.zip_nil_left List.zip_nil_right List.take_succ_cons List.take_zero List.take_nil List.drop_succ_cons List.drop_zero List.drop_nil List.isEmpty_nil List.isEmpty_cons Bool.and_true Bool.true_and Bool.or_true Bool.true_or Bool.or_false Bool.false_or Bool.not_true Bool.not_false Nat.add_zero Nat.zero_add Option.isNone_none Option.isNone_some Option.getD_none true_and and_true not_true_eq_false not_false_eq_true decide_true decide_false Nat.le_refl and_self Bool.not_eq_true Nat.sub_self or_true true_or Option.some.injEq List.length_map List.nil_eq and_false false_and AV.live CV.live CV.liveIn K_keep firstReg Option.orElse_some Option.orElse_none head keepSlots keepBoxes Int.lt_irrefl List.length_append ite_self memOK logOps opKey lentBoxes Key.clash Key.sees Key.writes Nat.lt_irrefl gt_iff_lt nobox_at bot_at false_or or_false beq_self_eq_true Bool.true_beq Bool.false_beq
def TS.live' : TS → TS
  | .nils => .live
  | x => x
theorem TS.live_toks (x : TS) : x.live'.toks = x.toks := by cases x <;> rfl
abbrev numH (s : List UInt8) (et : Nat) (ct : List (List PV)) (from_ e : Nat) (d : List UInt8) (n : Int) (i : Nat) : St :=
  { sl := upd (upd (upd (upd (upd bot 29 (.c (.iter d i))) 4 (I n)) 3 (I e)) 2 (I from_)) 0 P0, bx := upd nobox 100000 (some [.pv (.str s), .own et ct]), nt := 72 }
theorem min_law (v : Int) : (if (999999999 : Int) < v then (999999999 : Int) else v) = min v 999999999 := by
  split <;> omega
theorem num_loop (s : List UInt8) (et : Nat) (ct : List (List PV)) (from_ e : Nat) (d : List UInt8) (hd : ∀ b ∈ d, Tk.digit b = true) : ∀ (rest : List UInt8) (i : Nat) (n : Int), d.drop i = rest → i ≤ d.length → 0 ≤ n → n ≤ 999999999 →
    Ends (exL K 186 (.loop (loopAt Tryz.f186 6)) (numH s et ct from_ e d n i)) fun o S => o = .exit 0 ∧ S.sl 0 = P0 ∧ S.sl 2 = I from_ ∧ S.sl 3 = I e ∧ S.sl 4 = I (Tk.num n rest) ∧ S.nt = 72 ∧ S.bx = upd nobox 100000 (some [.pv (.str s), .own et ct]) := by
  intro rest
  induction rest with
  | nil =>
    intro i n hr hi h0 h1
    have hin : i = d.length := by
      have := List.drop_eq_nil_iff.1 hr
      omega
    subst hin
    have hlt : (d.length < d.length) = False := by simp
    conv in loopAt _ _ => whnf
    rw [exL_loop]
    simp only [go_sem, Nat.reduceLT, reduceIte, reduceCtorEq, Nat.reduceEqDiff, apply_ite (Option.map (outOf _)), Nat.reduceBEq, Nat.reduceAdd, Nat.reduceSub, Nat.reduceLeDiff, Nat.reduceMul, ty_fieldOff_183_0, ty_szOf_181, ty_shapeT_181, good_175, good_182, ev_slice_str ty_descOf_181, ev_range ty_descOf_181, ev_conv_int ty_descOf_21 ty_descOf_3, good_176, good_181, keep_186_6, ends_some, hlt, Tk.num]
  | cons c rest ih =>
    intro i n hr hi h0 h1
    obtain ⟨g1, g2, g3⟩ := drop_cons hr
    have hc : Tk.digit c = true := hd c (List.mem_of_getElem? g1)
    have hcn : 48 ≤ c.toNat ∧ c.toNat ≤ 57 := by simpa [Tk.digit] using hc
    obtain ⟨r, wd, hdec, hw1, hw2, hr2, hcase⟩ := decode_at d i g3
    have hrc : r = c.toNat ∧ wd = 1 := by
      rcases hcase with ⟨_, hw, b, hb, hbr⟩ | ⟨_, hall⟩
      · rw [g1] at hb; cases hb; exact ⟨hbr.symm, hw⟩
      · have := hall i c (Nat.le_refl _) (by omega) g1; omega
    obtain ⟨rfl, rfl⟩ := hrc
    have hit : iterNext d i = i + 1 := by unfold iterNext; rw [hdec]
    have hlt : (i < d.length) = True := eq_true g3
    have w1 : IntKind.i64.wrap (10 * n) = 10 * n := IntWalk.i64_in _ (by omega)
    have w2 : IntKind.i32.wrap ((c.toNat : Int) - 48) = (c.toNat : Int) - 48 := IntWalk.i32_in _ (by omega)
    have w3 : IntKind.i64.wrap ((c.toNat : Int) - 48) = (c.toNat : Int) - 48 := IntWalk.i64_in _ (by omega)
    have w4 : IntKind.i64.wrap (10 * n + ((c.toNat : Int) - 48)) = 10 * n + ((c.toNat : Int) - 48) := IntWalk.i64_in _ (by omega)
    have hv : Tk.num n (c :: rest) = Tk.num (min (10 * n + ((c.toNat : Int) - 48)) 999999999) rest := by rw [Tk.num, if_pos hc]
    rw [hv]
    have ih' := ih (i + 1) (min (10 * n + ((c.toNat : Int) - 48)) 999999999) g2 (by omega) (by omega) (by omega)
    conv at ih' in loopAt _ _ => whnf
    conv in loopAt _ _ => whnf
    rw [exL_loop]
    simp only [go_sem, Nat.reduceLT, reduceIte, reduceCtorEq, Nat.reduceEqDiff, apply_ite (Option.map (outOf _)), Nat.reduceBEq, Nat.reduceAdd, Nat.reduceSub, Nat.reduceLeDiff, Nat.reduceMul, ty_fieldOff_183_0, ty_szOf_181, ty_shapeT_181, good_175, good_182, ev_slice_str ty_descOf_181, ev_range ty_descOf_181, ev_conv_int ty_descOf_21 ty_descOf_3, good_176, good_181, keep_186_6, hlt, hdec, hit, w1, w2, w3, w4, absMin, allInts, List.foldl_cons, List.foldl_nil, min_law]
    rw [exL_head]
    simp only [go_sem, Nat.reduceLT, reduceIte, reduceCtorEq, Nat.reduceEqDiff, apply_ite (Option.map (outOf _)), Nat.reduceBEq, Nat.reduceAdd, Nat.reduceSub, Nat.reduceLeDiff, Nat.reduceMul, ty_fieldOff_183_0, ty_szOf_181, ty_shapeT_181, good_175, good_182, ev_slice_str ty_descOf_181, ev_range ty_descOf_181, ev_conv_int ty_descOf_21 ty_descOf_3, good_176, good_181, keep_186_6]
    exact ih'
set_option maxHeartbeats 8000000 in
theorem number_den (s : List UInt8) (x : TS) (neg : Bool) (from_ : Nat) (l : List UInt8) (hf : from_ = if neg then 1 else 0) (hl : s.drop from_ = l) (hle : from_ ≤ s.length) (h45 : (Tk.at0 s == 45) = neg) (hs : s.length < 4000000000) (hx : x.toks.length < 4000000000) :
    den K 186 [P0] [scan s x] = some (.ret (.tup []) [scan (s.drop (from_ + (Tk.number neg l).2)) (.wr (x.toks ++ [(Tk.number neg l).1]))]) := by
  have d0 := at_den s 0 (by omega)
  rw [List.drop_zero] at d0
  have e45 : (((Tk.at0 s).toNat : Int) == 45) = neg := by rw [← h45]; exact u8_beq _ 45
  have hrun := run_den s (by omega) Tk.digit 185 good_185 rfl digit_den from_ hle
  rw [hl] at hrun
  have hrl := Tk.run_le (p := Tk.digit) l
  have hll : l.length = s.length - from_ := by rw [← hl, List.length_drop]
  have hnum := Tk.num_bound (l := l) (n := 0) (by omega) (by omega)
  have hdig := Tk.run_take (p := Tk.digit) l
  generalize hk : Tk.run Tk.digit l = k at hrun hrl hdig
  have hle2 : from_ + k ≤ s.length := by omega
  have hde : s.drop (from_ + k) = l.drop k := by rw [← List.drop_drop, hl]
  have dn := name_den s (by omega) (from_ + k) hle2
  have da := at_den s (from_ + k) (by omega)
  rw [hde] at dn da
  have hul := Tk.unit_le (l.drop k)
  rw [List.length_drop] at hul
  have e37 : (((Tk.at0 (l.drop k)).toNat : Int) == 37) = (Tk.at0 (l.drop k) == 37) := u8_beq _ 37
  have hnn : Tk.num 0 (l.take k) = Tk.num 0 l := by
    have : l = l.take k ++ l.drop k := (List.take_append_drop k l).symm
    conv => rhs; rw [this]
    rw [Tk.num_app hdig]
    exact (Tk.num_stop (n := Tk.num 0 (l.take k)) (by rw [← hk]; exact Tk.run_stop Tk.digit_zero l)).symm
  have hin := fun et ct => num_loop s et ct from_ (from_ + k) (l.take k) hdig (l.take k) 0 0 rfl (Nat.zero_le _) (by omega) (by omega)
  rw [hnn] at hin
  conv at hin in loopAt _ _ => whnf
  have hsub : (s.take (from_ + k)).drop from_ = l.take k := by rw [List.drop_take, hl]; congr 1; omega
  unfold Tk.number
  simp only [hk]
  rw [← Nat.add_assoc]
  generalize hu : Tk.unit (l.drop k) = u at hul
  have hput := fun v => put_den s x.live' (from_ + k + u) 5 ((l.drop k).take u) v (by omega) (by rw [TS.live_toks]; exact hx)
  rw [TS.live_toks] at hput
  have hsub2 : (s.take (from_ + k + u)).drop (from_ + k) = (l.drop k).take u := by rw [List.drop_take, hde]; congr 1; omega
  have b1 : ((0 : Int) ≤ ((from_ + k : Nat) : Int) ∧ ((from_ + k : Nat) : Int) ≤ (s.length : Int)) = True := eq_true (by omega)
  have b2 : ((0 : Int) ≤ (from_ : Int) ∧ (from_ : Int) ≤ ((from_ + k : Nat) : Int)) = True := eq_true (by omega)
  have b3 : ((0 : Int) ≤ ((from_ + k + u : Nat) : Int) ∧ ((from_ + k + u : Nat) : Int) ≤ (s.length : Int)) = True := eq_true (by omega)
  have b4 : ((0 : Int) ≤ ((from_ + k : Nat) : Int) ∧ ((from_ + k : Nat) : Int) ≤ ((from_ + k + u : Nat) : Int)) = True := eq_true (by omega)
  have w1 : IntKind.i64.wrap ((from_ : Int) + (k : Int)) = ((from_ + k : Nat) : Int) := by rw [IntWalk.i64_in _ (by omega)]; rfl
  have w2 : IntKind.i64.wrap (((from_ + k : Nat) : Int) + (u : Int)) = ((from_ + k + u : Nat) : Int) := by rw [IntWalk.i64_in _ (by omega)]; rfl
  have w3 : IntKind.i64.wrap (0 - Tk.num 0 l) = -Tk.num 0 l := by rw [IntWalk.i64_in _ (by omega)]; omega
  have t0 : Int.toNat 0 = 0 := rfl
  have t1 : Int.toNat 1 = 1 := rfl
  have z01 : ((0 : Int) = 1) = False := by simp
  have z0 : ((0 : Nat) : Int) = 0 := rfl
  have z1 : ((1 : Nat) : Int) = 1 := rfl
  have hu37 : (Tk.at0 (l.drop k) == 37) = false → Tk.name (l.drop k) = u := fun h => by
    rw [← hu, Tk.unit, if_neg (by simpa using h)]
  have hu1 : (Tk.at0 (l.drop k) == 37) = true → u = 1 := fun h => by
    rw [← hu, Tk.unit, if_pos (by simpa using h)]
  refine den_run rfl rfl Tryz.func186 rfl Tryz.ntmps186 ⟨by simp, by simp [LK]⟩ ?_
  have hr : Tryz.f186.results = #[] := rfl
  cases neg
  all_goals (
    simp only [Bool.false_eq_true, if_true, if_false] at hf
    subst hf
    simp only [z0, z1, Nat.zero_add] at d0 hrun w1 b1 b2 b3 b4 w2 hin hsub hsub2 hput dn da hu37 hu1 e45
    first | (rw [List.drop_zero] at hl; subst hl) | skip
    cases x)
  · obtain ⟨o, S', e, rfl, f0, f2, f3, f4, fn, fb⟩ := hin 0 []
    simp only [TS.cell, TS.live', TS.toks, scan, List.map_append, List.map_cons, List.map_nil, Tok.enc, List.nil_append] at hput ⊢
    simp only [go_sem, Nat.reduceLT, reduceIte, reduceCtorEq, Nat.reduceEqDiff, apply_ite (Option.map (outOf _)), Nat.reduceBEq, Nat.reduceAdd, Nat.reduceSub, Nat.reduceLeDiff, Nat.reduceMul, ty_fieldOff_183_0, ty_szOf_181, ty_shapeT_181, good_175, good_182, ev_slice_str ty_descOf_181, ev_range ty_descOf_181, ev_conv_int ty_descOf_21 ty_descOf_3, good_176, good_181, keep_186_6, d0, e45, hrun, w1, b1, b2, Int.toNat_natCast, hsub, z0, z1, t0, t1]
    rw [exL_head]
    simp only [go_sem, Nat.reduceLT, reduceIte, reduceCtorEq, Nat.reduceEqDiff, apply_ite (Option.map (outOf _)), Nat.reduceBEq, Nat.reduceAdd, Nat.reduceSub, Nat.reduceLeDiff, Nat.reduceMul, ty_fieldOff_183_0, ty_szOf_181, ty_shapeT_181, good_175, good_182, ev_slice_str ty_descOf_181, ev_range ty_descOf_181, ev_conv_int ty_descOf_21 ty_descOf_3, good_176, good_181, keep_186_6]
    erw [e]
    cases h37 : (Tk.at0 (s.drop k) == 37)
    · rw [h37] at e37
      rw [hu37 h37] at dn
      simp only [go_sem, Nat.reduceLT, reduceIte, reduceCtorEq, Nat.reduceEqDiff, apply_ite (Option.map (outOf _)), Nat.reduceBEq, Nat.reduceAdd, Nat.reduceSub, Nat.reduceLeDiff, Nat.reduceMul, ty_fieldOff_183_0, ty_szOf_181, ty_shapeT_181, good_175, good_182, ev_slice_str ty_descOf_181, ev_range ty_descOf_181, ev_conv_int ty_descOf_21 ty_descOf_3, good_176, good_181, keep_186_6, hr, z01, f0, f2, f3, f4, fn, fb, dn, da, e37, w2, w3, b3, b4, Int.toNat_natCast, hsub2, hput]
    · rw [h37] at e37
      rw [hu1 h37] at w2 b3 b4 hput hsub2 ⊢
      simp only [z1] at w2
      simp only [go_sem, Nat.reduceLT, reduceIte, reduceCtorEq, Nat.reduceEqDiff, apply_ite (Option.map (outOf _)), Nat.reduceBEq, Nat.reduceAdd, Nat.reduceSub, Nat.reduceLeDiff, Nat.reduceMul, ty_fieldOff_183_0, ty_szOf_181, ty_shapeT_181, good_175, good_182, ev_slice_str ty_descOf_181, ev_range ty_descOf_181, ev_conv_int ty_descOf_21 ty_descOf_3, good_176, good_181, keep_186_6, hr, z01, f0, f2, f3, f4, fn, fb, dn, da, e37, w2, w3, b3, b4, Int.toNat_natCast, hsub2, hput]

  · obtain ⟨o, S', e, rfl, f0, f2, f3, f4, fn, fb⟩ := hin 0 []
    simp only [TS.cell, TS.live', TS.toks, scan, List.map_append, List.map_cons, List.map_nil, Tok.enc, List.nil_append] at hput ⊢
    simp only [go_sem, Nat.reduceLT, reduceIte, reduceCtorEq, Nat.reduceEqDiff, apply_ite (Option.map (outOf _)), Nat.reduceBEq, Nat.reduceAdd, Nat.reduceSub, Nat.reduceLeDiff, Nat.reduceMul, ty_fieldOff_183_0, ty_szOf_181, ty_shapeT_181, good_175, good_182, ev_slice_str ty_descOf_181, ev_range ty_descOf_181, ev_conv_int ty_descOf_21 ty_descOf_3, good_176, good_181, keep_186_6, d0, e45, hrun, w1, b1, b2, Int.toNat_natCast, hsub, z0, z1, t0, t1]
    rw [exL_head]
    simp only [go_sem, Nat.reduceLT, reduceIte, reduceCtorEq, Nat.reduceEqDiff, apply_ite (Option.map (outOf _)), Nat.reduceBEq, Nat.reduceAdd, Nat.reduceSub, Nat.reduceLeDiff, Nat.reduceMul, ty_fieldOff_183_0, ty_szOf_181, ty_shapeT_181, good_175, good_182, ev_slice_str ty_descOf_181, ev_range ty_descOf_181, ev_conv_int ty_descOf_21 ty_descOf_3, good_176, good_181, keep_186_6]
    erw [e]
    cases h37 : (Tk.at0 (s.drop k) == 37)
    · rw [h37] at e37
      rw [hu37 h37] at dn
      simp only [go_sem, Nat.reduceLT, reduceIte, reduceCtorEq, Nat.reduceEqDiff, apply_ite (Option.map (outOf _)), Nat.reduceBEq, Nat.reduceAdd, Nat.reduceSub, Nat.reduceLeDiff, Nat.reduceMul, ty_fieldOff_183_0, ty_szOf_181, ty_shapeT_181, good_175, good_182, ev_slice_str ty_descOf_181, ev_range ty_descOf_181, ev_conv_int ty_descOf_21 ty_descOf_3, good_176, good_181, keep_186_6, hr, z01, f0, f2, f3, f4, fn, fb, dn, da, e37, w2, w3, b3, b4, Int.toNat_natCast, hsub2, hput]
    · rw [h37] at e37
      rw [hu1 h37] at w2 b3 b4 hput hsub2 ⊢
      simp only [z1] at w2
      simp only [go_sem, Nat.reduceLT, reduceIte, reduceCtorEq, Nat.reduceEqDiff, apply_ite (Option.map (outOf _)), Nat.reduceBEq, Nat.reduceAdd, Nat.reduceSub, Nat.reduceLeDiff, Nat.reduceMul, ty_fieldOff_183_0, ty_szOf_181, ty_shapeT_181, good_175, good_182, ev_slice_str ty_descOf_181, ev_range ty_descOf_181, ev_conv_int ty_descOf_21 ty_descOf_3, good_176, good_181, keep_186_6, hr, z01, f0, f2, f3, f4, fn, fb, dn, da, e37, w2, w3, b3, b4, Int.toNat_natCast, hsub2, hput]

  · rename_i lt
    obtain ⟨o, S', e, rfl, f0, f2, f3, f4, fn, fb⟩ := hin 91 (lt.map Tok.enc)
    simp only [TS.cell, TS.live', TS.toks, scan, List.map_append, List.map_cons, List.map_nil, Tok.enc, List.nil_append] at hput ⊢
    simp only [go_sem, Nat.reduceLT, reduceIte, reduceCtorEq, Nat.reduceEqDiff, apply_ite (Option.map (outOf _)), Nat.reduceBEq, Nat.reduceAdd, Nat.reduceSub, Nat.reduceLeDiff, Nat.reduceMul, ty_fieldOff_183_0, ty_szOf_181, ty_shapeT_181, good_175, good_182, ev_slice_str ty_descOf_181, ev_range ty_descOf_181, ev_conv_int ty_descOf_21 ty_descOf_3, good_176, good_181, keep_186_6, d0, e45, hrun, w1, b1, b2, Int.toNat_natCast, hsub, z0, z1, t0, t1]
    rw [exL_head]
    simp only [go_sem, Nat.reduceLT, reduceIte, reduceCtorEq, Nat.reduceEqDiff, apply_ite (Option.map (outOf _)), Nat.reduceBEq, Nat.reduceAdd, Nat.reduceSub, Nat.reduceLeDiff, Nat.reduceMul, ty_fieldOff_183_0, ty_szOf_181, ty_shapeT_181, good_175, good_182, ev_slice_str ty_descOf_181, ev_range ty_descOf_181, ev_conv_int ty_descOf_21 ty_descOf_3, good_176, good_181, keep_186_6]
    erw [e]
    cases h37 : (Tk.at0 (s.drop k) == 37)
    · rw [h37] at e37
      rw [hu37 h37] at dn
      simp only [go_sem, Nat.reduceLT, reduceIte, reduceCtorEq, Nat.reduceEqDiff, apply_ite (Option.map (outOf _)), Nat.reduceBEq, Nat.reduceAdd, Nat.reduceSub, Nat.reduceLeDiff, Nat.reduceMul, ty_fieldOff_183_0, ty_szOf_181, ty_shapeT_181, good_175, good_182, ev_slice_str ty_descOf_181, ev_range ty_descOf_181, ev_conv_int ty_descOf_21 ty_descOf_3, good_176, good_181, keep_186_6, hr, z01, f0, f2, f3, f4, fn, fb, dn, da, e37, w2, w3, b3, b4, Int.toNat_natCast, hsub2, hput]
    · rw [h37] at e37
      rw [hu1 h37] at w2 b3 b4 hput hsub2 ⊢
      simp only [z1] at w2
      simp only [go_sem, Nat.reduceLT, reduceIte, reduceCtorEq, Nat.reduceEqDiff, apply_ite (Option.map (outOf _)), Nat.reduceBEq, Nat.reduceAdd, Nat.reduceSub, Nat.reduceLeDiff, Nat.reduceMul, ty_fieldOff_183_0, ty_szOf_181, ty_shapeT_181, good_175, good_182, ev_slice_str ty_descOf_181, ev_range ty_descOf_181, ev_conv_int ty_descOf_21 ty_descOf_3, good_176, good_181, keep_186_6, hr, z01, f0, f2, f3, f4, fn, fb, dn, da, e37, w2, w3, b3, b4, Int.toNat_natCast, hsub2, hput]

  · obtain ⟨o, S', e, rfl, f0, f2, f3, f4, fn, fb⟩ := hin 0 []
    simp only [TS.cell, TS.live', TS.toks, scan, List.map_append, List.map_cons, List.map_nil, Tok.enc, List.nil_append] at hput ⊢
    simp only [go_sem, Nat.reduceLT, reduceIte, reduceCtorEq, Nat.reduceEqDiff, apply_ite (Option.map (outOf _)), Nat.reduceBEq, Nat.reduceAdd, Nat.reduceSub, Nat.reduceLeDiff, Nat.reduceMul, ty_fieldOff_183_0, ty_szOf_181, ty_shapeT_181, good_175, good_182, ev_slice_str ty_descOf_181, ev_range ty_descOf_181, ev_conv_int ty_descOf_21 ty_descOf_3, good_176, good_181, keep_186_6, d0, e45, hrun, w1, b1, b2, Int.toNat_natCast, hsub, z0, z1, t0, t1]
    rw [exL_head]
    simp only [go_sem, Nat.reduceLT, reduceIte, reduceCtorEq, Nat.reduceEqDiff, apply_ite (Option.map (outOf _)), Nat.reduceBEq, Nat.reduceAdd, Nat.reduceSub, Nat.reduceLeDiff, Nat.reduceMul, ty_fieldOff_183_0, ty_szOf_181, ty_shapeT_181, good_175, good_182, ev_slice_str ty_descOf_181, ev_range ty_descOf_181, ev_conv_int ty_descOf_21 ty_descOf_3, good_176, good_181, keep_186_6]
    erw [e]
    cases h37 : (Tk.at0 (l.drop k) == 37)
    · rw [h37] at e37
      rw [hu37 h37] at dn
      simp only [go_sem, Nat.reduceLT, reduceIte, reduceCtorEq, Nat.reduceEqDiff, apply_ite (Option.map (outOf _)), Nat.reduceBEq, Nat.reduceAdd, Nat.reduceSub, Nat.reduceLeDiff, Nat.reduceMul, ty_fieldOff_183_0, ty_szOf_181, ty_shapeT_181, good_175, good_182, ev_slice_str ty_descOf_181, ev_range ty_descOf_181, ev_conv_int ty_descOf_21 ty_descOf_3, good_176, good_181, keep_186_6, hr, z01, f0, f2, f3, f4, fn, fb, dn, da, e37, w2, w3, b3, b4, Int.toNat_natCast, hsub2, hput]
    · rw [h37] at e37
      rw [hu1 h37] at w2 b3 b4 hput hsub2 ⊢
      simp only [z1] at w2
      simp only [go_sem, Nat.reduceLT, reduceIte, reduceCtorEq, Nat.reduceEqDiff, apply_ite (Option.map (outOf _)), Nat.reduceBEq, Nat.reduceAdd, Nat.reduceSub, Nat.reduceLeDiff, Nat.reduceMul, ty_fieldOff_183_0, ty_szOf_181, ty_shapeT_181, good_175, good_182, ev_slice_str ty_descOf_181, ev_range ty_descOf_181, ev_conv_int ty_descOf_21 ty_descOf_3, good_176, good_181, keep_186_6, hr, z01, f0, f2, f3, f4, fn, fb, dn, da, e37, w2, w3, b3, b4, Int.toNat_natCast, hsub2, hput]

  · obtain ⟨o, S', e, rfl, f0, f2, f3, f4, fn, fb⟩ := hin 0 []
    simp only [TS.cell, TS.live', TS.toks, scan, List.map_append, List.map_cons, List.map_nil, Tok.enc, List.nil_append] at hput ⊢
    simp only [go_sem, Nat.reduceLT, reduceIte, reduceCtorEq, Nat.reduceEqDiff, apply_ite (Option.map (outOf _)), Nat.reduceBEq, Nat.reduceAdd, Nat.reduceSub, Nat.reduceLeDiff, Nat.reduceMul, ty_fieldOff_183_0, ty_szOf_181, ty_shapeT_181, good_175, good_182, ev_slice_str ty_descOf_181, ev_range ty_descOf_181, ev_conv_int ty_descOf_21 ty_descOf_3, good_176, good_181, keep_186_6, d0, e45, hrun, w1, b1, b2, Int.toNat_natCast, hsub, z0, z1, t0, t1]
    rw [exL_head]
    simp only [go_sem, Nat.reduceLT, reduceIte, reduceCtorEq, Nat.reduceEqDiff, apply_ite (Option.map (outOf _)), Nat.reduceBEq, Nat.reduceAdd, Nat.reduceSub, Nat.reduceLeDiff, Nat.reduceMul, ty_fieldOff_183_0, ty_szOf_181, ty_shapeT_181, good_175, good_182, ev_slice_str ty_descOf_181, ev_range ty_descOf_181, ev_conv_int ty_descOf_21 ty_descOf_3, good_176, good_181, keep_186_6]
    erw [e]
    cases h37 : (Tk.at0 (l.drop k) == 37)
    · rw [h37] at e37
      rw [hu37 h37] at dn
      simp only [go_sem, Nat.reduceLT, reduceIte, reduceCtorEq, Nat.reduceEqDiff, apply_ite (Option.map (outOf _)), Nat.reduceBEq, Nat.reduceAdd, Nat.reduceSub, Nat.reduceLeDiff, Nat.reduceMul, ty_fieldOff_183_0, ty_szOf_181, ty_shapeT_181, good_175, good_182, ev_slice_str ty_descOf_181, ev_range ty_descOf_181, ev_conv_int ty_descOf_21 ty_descOf_3, good_176, good_181, keep_186_6, hr, z01, f0, f2, f3, f4, fn, fb, dn, da, e37, w2, w3, b3, b4, Int.toNat_natCast, hsub2, hput]
    · rw [h37] at e37
      rw [hu1 h37] at w2 b3 b4 hput hsub2 ⊢
      simp only [z1] at w2
      simp only [go_sem, Nat.reduceLT, reduceIte, reduceCtorEq, Nat.reduceEqDiff, apply_ite (Option.map (outOf _)), Nat.reduceBEq, Nat.reduceAdd, Nat.reduceSub, Nat.reduceLeDiff, Nat.reduceMul, ty_fieldOff_183_0, ty_szOf_181, ty_shapeT_181, good_175, good_182, ev_slice_str ty_descOf_181, ev_range ty_descOf_181, ev_conv_int ty_descOf_21 ty_descOf_3, good_176, good_181, keep_186_6, hr, z01, f0, f2, f3, f4, fn, fb, dn, da, e37, w2, w3, b3, b4, Int.toNat_natCast, hsub2, hput]

  · rename_i lt
    obtain ⟨o, S', e, rfl, f0, f2, f3, f4, fn, fb⟩ := hin 91 (lt.map Tok.enc)
    simp only [TS.cell, TS.live', TS.toks, scan, List.map_append, List.map_cons, List.map_nil, Tok.enc, List.nil_append] at hput ⊢
    simp only [go_sem, Nat.reduceLT, reduceIte, reduceCtorEq, Nat.reduceEqDiff, apply_ite (Option.map (outOf _)), Nat.reduceBEq, Nat.reduceAdd, Nat.reduceSub, Nat.reduceLeDiff, Nat.reduceMul, ty_fieldOff_183_0, ty_szOf_181, ty_shapeT_181, good_175, good_182, ev_slice_str ty_descOf_181, ev_range ty_descOf_181, ev_conv_int ty_descOf_21 ty_descOf_3, good_176, good_181, keep_186_6, d0, e45, hrun, w1, b1, b2, Int.toNat_natCast, hsub, z0, z1, t0, t1]
    rw [exL_head]
    simp only [go_sem, Nat.reduceLT, reduceIte, reduceCtorEq, Nat.reduceEqDiff, apply_ite (Option.map (outOf _)), Nat.reduceBEq, Nat.reduceAdd, Nat.reduceSub, Nat.reduceLeDiff, Nat.reduceMul, ty_fieldOff_183_0, ty_szOf_181, ty_shapeT_181, good_175, good_182, ev_slice_str ty_descOf_181, ev_range ty_descOf_181, ev_conv_int ty_descOf_21 ty_descOf_3, good_176, good_181, keep_186_6]
    erw [e]
    cases h37 : (Tk.at0 (l.drop k) == 37)
    · rw [h37] at e37
      rw [hu37 h37] at dn
      simp only [go_sem, Nat.reduceLT, reduceIte, reduceCtorEq, Nat.reduceEqDiff, apply_ite (Option.map (outOf _)), Nat.reduceBEq, Nat.reduceAdd, Nat.reduceSub, Nat.reduceLeDiff, Nat.reduceMul, ty_fieldOff_183_0, ty_szOf_181, ty_shapeT_181, good_175, good_182, ev_slice_str ty_descOf_181, ev_range ty_descOf_181, ev_conv_int ty_descOf_21 ty_descOf_3, good_176, good_181, keep_186_6, hr, z01, f0, f2, f3, f4, fn, fb, dn, da, e37, w2, w3, b3, b4, Int.toNat_natCast, hsub2, hput]
    · rw [h37] at e37
      rw [hu1 h37] at w2 b3 b4 hput hsub2 ⊢
      simp only [z1] at w2
      simp only [go_sem, Nat.reduceLT, reduceIte, reduceCtorEq, Nat.reduceEqDiff, apply_ite (Option.map (outOf _)), Nat.reduceBEq, Nat.reduceAdd, Nat.reduceSub, Nat.reduceLeDiff, Nat.reduceMul, ty_fieldOff_183_0, ty_szOf_181, ty_shapeT_181, good_175, good_182, ev_slice_str ty_descOf_181, ev_range ty_descOf_181, ev_conv_int ty_descOf_21 ty_descOf_3, good_176, good_181, keep_186_6, hr, z01, f0, f2, f3, f4, fn, fb, dn, da, e37, w2, w3, b3, b4, Int.toNat_natCast, hsub2, hput]
end Go.Abs
