/-
  WHAT THE FUNCTIONS COMPUTE, layer 1: the scanner's comment, string, number.
  WHAT THE FUNCTIONS COMPUTE, layer 1: the scanner's number.
  WHAT THE FUNCTIONS COMPUTE, layer 1: the scanner's next token.
  WHAT THE FUNCTIONS COMPUTE, layer 1: the tokens of a text.
  WHAT THE FUNCTIONS COMPUTE, layer 1: whether a token may be; whether something has to stand between two; the text of tokens.
  WHAT THE DOCUMENT'S ANSWER COMPUTES, layer 1: classes of bytes, names, comments, strings.
  WHAT THE DOCUMENT'S ANSWER COMPUTES, layer 1: strings, numbers.
  WHAT THE DOCUMENT'S ANSWER COMPUTES, layer 1: the token at a place.
  WHAT THE DOCUMENT'S ANSWER COMPUTES, layer 1: digits, a token's text.
  WHAT THE DOCUMENT'S ANSWER COMPUTES, layer 1: the tokens of a text; whether tokens may be.
-/
import Derived.Test.YtjfkppbgcgleaaaGreatDoorQ5
set_option linter.unusedSimpArgs false
set_option linter.unusedVariables false
namespace Go.Abs
open Go Go.Proofs
set_option maxRecDepth 10000
def shutI (r : List UInt8) : Int := match Tk.shut r with | some n => (n : Int) - 2 | none => -1
def innerI (c : UInt8) (r : List UInt8) : Int := match Tk.inner c r with | some n => (n : Int) | none => -1
theorem index_shut : ∀ r : List UInt8, Lib.index r [42, 47] = shutI r
  | [] => rfl
  | b :: l => by
    have ih := index_shut l
    have e : Lib.index (b :: l) [42, 47] = if [42, 47].isPrefixOf (b :: l) then 0 else if Lib.index l [42, 47] == -1 then -1 else Lib.index l [42, 47] + 1 := rfl
    rw [e, ih]
    have hp : ([42, 47].isPrefixOf (b :: l) = true) ↔ (b = 42 ∧ Tk.at0 l = 47) := by
      cases l with
      | nil =>
        refine ⟨fun h => ?_, fun h => absurd h.2 (by decide)⟩
        simp [List.isPrefixOf] at h
      | cons d l =>
        simp only [List.isPrefixOf, Bool.and_true, Bool.and_eq_true, beq_iff_eq, Tk.at0]
        exact ⟨fun h => ⟨h.1.symm, h.2.symm⟩, fun h => ⟨h.1.symm, h.2.symm⟩⟩
    by_cases h : b = 42 ∧ Tk.at0 l = 47
    · rw [if_pos (hp.2 h), shutI, Tk.shut, if_pos h]; rfl
    · rw [if_neg (fun x => h (hp.1 x)), shutI, shutI, Tk.shut, if_neg h]
      cases hs : Tk.shut l with
      | none => rfl
      | some n =>
        have := Tk.shut_le hs
        simp only [Option.map_some]
        rw [if_neg (by rw [beq_iff_eq]; omega)]
        omega
theorem ends_contains (b : UInt8) : ([10, 12, 13] : List UInt8).contains b = Tk.ending b := by
  unfold Tk.ending
  simp only [List.contains_cons, List.contains_nil, Bool.or_false, Bool.or_assoc]
theorem containsAny_cons (b : UInt8) (l : List UInt8) : Lib.containsAny (b :: l) [10, 12, 13] = (Tk.ending b || Lib.containsAny l [10, 12, 13]) := by
  unfold Lib.containsAny
  have e : Lib.indexAny (b :: l) [10, 12, 13] = if ([10, 12, 13] : List UInt8).contains b then 0 else if Lib.indexAny l [10, 12, 13] == -1 then -1 else Lib.indexAny l [10, 12, 13] + 1 := rfl
  rw [e, ends_contains]
  have hge := Lib.indexAny_ge [10, 12, 13] l
  cases Tk.ending b
  · simp only [Bool.false_eq_true, if_false, Bool.false_or]
    by_cases h : Lib.indexAny l [10, 12, 13] = -1
    · rw [if_pos (by rw [h]; rfl), h]
    · rw [if_neg (by simpa using h)]
      exact decide_eq_decide.2 (by omega)
  · rfl
theorem indexByte_app (b : UInt8) (l : List UInt8) (c : UInt8) : Lib.indexByte (b :: l) c = if b == c then 0 else if Lib.indexByte l c == -1 then -1 else Lib.indexByte l c + 1 := rfl
theorem indexByte_lt (c : UInt8) : ∀ r : List UInt8, 0 ≤ Lib.indexByte r c → Lib.indexByte r c < (r.length : Int)
  | [], h => absurd (show (0 : Int) ≤ -1 from h) (by decide)
  | b :: l, h => by
    have ih := indexByte_lt c l
    have hge := Lib.indexByte_ge l c
    rw [indexByte_app] at h ⊢
    simp only [List.length_cons]
    split at h
    · omega
    · split at h
      · omega
      · rename_i h2
        have : Lib.indexByte l c ≠ -1 := by simpa using h2
        have := ih (by omega)
        rw [if_neg h2]; omega
theorem inner_law (c : UInt8) : ∀ r : List UInt8, innerI c r = if 0 ≤ Lib.indexByte r c ∧ Lib.containsAny (r.take (Lib.indexByte r c).toNat) [10, 12, 13] = true then -1 else Lib.indexByte r c
  | [] => rfl
  | b :: l => by
    have ih := inner_law c l
    have hge := Lib.indexByte_ge l c
    by_cases hb : b = c
    · have e : Lib.indexByte (b :: l) c = 0 := by rw [indexByte_app, if_pos (by simp [hb])]
      have hc0 : Lib.containsAny ((b :: l).take (0 : Int).toNat) [10, 12, 13] = false := rfl
      rw [e, innerI, Tk.inner, if_pos hb, hc0]
      rfl
    · by_cases hm : Lib.indexByte l c = -1
      · have e : Lib.indexByte (b :: l) c = -1 := by rw [indexByte_app, if_neg (by simpa using hb), hm]; rfl
        rw [hm, if_neg (by omega)] at ih
        rw [e, if_neg (by omega), innerI, Tk.inner, if_neg hb]
        unfold innerI at ih
        cases hi : Tk.inner c l with
        | none => cases Tk.ending b <;> rfl
        | some n => rw [hi] at ih; simp only at ih; omega
      · have e : Lib.indexByte (b :: l) c = Lib.indexByte l c + 1 := by rw [indexByte_app, if_neg (by simpa using hb), if_neg (by simpa using hm)]
        have ht : (Lib.indexByte l c + 1).toNat = (Lib.indexByte l c).toNat + 1 := by omega
        rw [e, ht, List.take_succ_cons, containsAny_cons, innerI, Tk.inner, if_neg hb]
        unfold innerI at ih
        cases he : Tk.ending b
        · simp only [Bool.false_or, Bool.false_eq_true, if_false]
          by_cases hc : Lib.containsAny (l.take (Lib.indexByte l c).toNat) [10, 12, 13] = true
          · rw [if_pos ⟨by omega, hc⟩]
            rw [if_pos ⟨by omega, hc⟩] at ih
            cases hi : Tk.inner c l with
            | none => rfl
            | some n => rw [hi] at ih; simp only at ih; omega
          · rw [if_neg (fun x => hc x.2)]
            rw [if_neg (fun x => hc x.2)] at ih
            cases hi : Tk.inner c l with
            | none => rw [hi] at ih; simp only at ih; omega
            | some n => rw [hi] at ih; simp only at ih ⊢; simp only [Option.map_some]; omega
        · rw [Bool.true_or, if_pos (⟨by omega, rfl⟩ : 0 ≤ Lib.indexByte l c + 1 ∧ true = true)]
          rfl
theorem index_den (s p : List UInt8) (h : s.length < 4294967281) : den K 88 [T s, T p] [] = some (.ret (I (Lib.index s p)) []) := by
  refine prim_run (F := pIndex) rfl ?_
  simp [pIndex, h]
theorem indexByte_den (s : List UInt8) (c : UInt8) : den K 65 [T s, U c] [] = some (.ret (I (Lib.indexByte s c)) []) := by
  refine prim_run (F := pIndexByte) rfl ?_
  simp [pIndexByte]
theorem hasPrefix_den (s p : List UInt8) : den K 63 [T s, T p] [] = some (.ret (B (Lib.hasPrefix s p)) []) := prim_run (F := pHasPrefix) rfl rfl
theorem indexAny_den (s : List UInt8) (h : s.length < 4294967281) : den K 97 [T s, T [10, 12, 13]] [] = some (.ret (I (Lib.indexAny s [10, 12, 13])) []) := by
  refine prim_run (F := pIndexAny) rfl ?_
  simp [pIndexAny, h]
theorem containsAny_den (s : List UInt8) (h : s.length < 4294967281) : den K 91 [T s, T [10, 12, 13]] [] = some (.ret (B (Lib.containsAny s [10, 12, 13])) []) := by
  have d := indexAny_den s h
  unfold Lib.containsAny
  refine den_run rfl rfl Tryz.func91 rfl Tryz.ntmps91 ⟨by simp, by simp [LK]⟩ ?_
  have hr : Tryz.f91.results = #[.tmp 4] := rfl
  simp only [exL_seq, exL_region, exL_cond, exL_block, exL_scope, exL_ret, exL_skip, exL_exit, runRegion, runOps, stepOp, guardA, absOp, takeOver, opd, avOf, cvOf, St.degAt, St.put, okPV, okVal, okAV, absBin, intBin, strBin, boolBin, setBoxes, if_true, Bool.false_eq_true, if_false, Option.map_some, Option.map_none, Option.bind_some, Option.bind_none, thenO, outOf, upd, List.toList_toArray, isOwn, steal, appArgs, inApps, AV.deg, CV.deg, AV.gv, AV.isIter, absNext, some_bne, Nat.reduceLT, reduceIte, reduceCtorEq, Nat.reduceEqDiff, List.length_nil, List.length_cons, apply_ite (Option.map (outOf _)), List.filterMap_cons, List.filterMap_nil, beq_iff_eq, List.getElem?_cons_zero, List.getElem?_cons_succ, Option.getD_some, K_hook, hookB, Nat.reduceBEq, Bool.false_and, Bool.and_false, Bool.and_self, K_P, K_own, absCall, doCall, getBoxes, lend, back, idx, dedup, AV.ren, CV.ren, TV.ren, AV.ptrs, CV.ptrs, zipBox, AV.flat, CV.flat, absLoad, absStore, cellsOfAV, setAt, newBox, markB, bldTypes, absFieldAddr, absField, absExtract, absAssert, noAssert, absMkIface, ifcOf, CV.pv?, content, pushHead, ownT, fillCells, reps, pvs, chunks, enterSt, leave, resOf, resVars, resVar, outBoxes, lentOnly, TV.deg, TV.av, LK, CV.plain, CV.noBld, nilBin, absUn, bound, List.map_cons, List.map_nil, List.all_cons, List.all_nil, List.any_cons, List.any_nil, List.contains_cons, List.contains_nil, List.elem_cons, List.elem_nil, List.cons_append, List.nil_append, List.append_nil, List.flatMap_cons, List.flatMap_nil, List.zip_cons_cons, List.zip_nil_left, List.zip_nil_right, List.take_succ_cons, List.take_zero, List.take_nil, List.drop_succ_cons, List.drop_zero, List.drop_nil, List.isEmpty_nil, List.isEmpty_cons, Bool.and_true, Bool.true_and, Bool.or_true, Bool.true_or, Bool.or_false, Bool.false_or, Bool.not_true, Bool.not_false, Nat.reduceAdd, Nat.reduceSub, Nat.reduceLeDiff, Nat.add_zero, Nat.zero_add, Nat.reduceMul, Option.isNone_none, Option.isNone_some, Option.getD_none, true_and, and_true, not_true_eq_false, not_false_eq_true, decide_true, decide_false, List.toList_toArray, Nat.le_refl, and_self, Bool.not_eq_true, Nat.sub_self, or_true, true_or, Option.some.injEq, List.length_map, List.nil_eq, and_false, false_and, AV.live, CV.live, CV.liveIn, K_keep, firstReg, Option.orElse_some, Option.orElse_none, head, keepSlots, keepBoxes, Int.lt_irrefl, List.length_append, ite_self, memOK, logOps, opKey, lentBoxes, Key.clash, Key.sees, Key.writes, Nat.lt_irrefl, gt_iff_lt, nobox_at, bot_at, false_or, or_false, beq_self_eq_true, Bool.true_beq, Bool.false_beq, good_97, hr, d]
theorem comment_den (s : List UInt8) (x : TS) (hs : s.length < 4000000000) (h : 2 ≤ s.length) : den K 64 [P0] [scan s x] = some (.ret (.tup []) [scan (s.drop (Tk.comment (s.drop 2))) x]) := by
  have hi := index_den (s.drop 2) [42, 47] (by simp; omega)
  rw [index_shut] at hi
  unfold shutI at hi
  refine den_run rfl rfl Tryz.func64 rfl Tryz.ntmps64 ⟨by simp, by simp [LK]⟩ ?_
  have hr : Tryz.f64.results = #[] := rfl
  have hb : ((0 : Int) ≤ 2 ∧ (2 : Int) ≤ (s.length : Int)) = True := eq_true (by omega)
  have hd : (s.take s.length).drop 2 = s.drop 2 := by rw [List.take_length]
  have t2 : Int.toNat 2 = 2 := rfl
  unfold Tk.comment
  cases hc : Tk.shut (s.drop 2) with
  | none =>
    rw [hc] at hi
    have hsk := skip_den s x s.length (Nat.le_refl _)
    have hn : decide ((-1 : Int) < 0) = true := by decide
    have hlen : (s.drop 2).length + 2 = s.length := by simp; omega
    rw [hlen]
    cases x <;> simp only [TS.cell, scan] at hsk ⊢ <;> simp only [TS.cell, scan, exL_seq, exL_region, exL_cond, exL_block, exL_scope, exL_ret, exL_skip, exL_exit, runRegion, runOps, stepOp, guardA, absOp, takeOver, opd, avOf, cvOf, St.degAt, St.put, okPV, okVal, okAV, absBin, intBin, strBin, boolBin, setBoxes, if_true, Bool.false_eq_true, if_false, Option.map_some, Option.map_none, Option.bind_some, Option.bind_none, thenO, outOf, upd, List.toList_toArray, isOwn, steal, appArgs, inApps, AV.deg, CV.deg, AV.gv, AV.isIter, absNext, some_bne, Nat.reduceLT, reduceIte, reduceCtorEq, Nat.reduceEqDiff, List.length_nil, List.length_cons, apply_ite (Option.map (outOf _)), List.filterMap_cons, List.filterMap_nil, beq_iff_eq, List.getElem?_cons_zero, List.getElem?_cons_succ, Option.getD_some, K_hook, hookB, Nat.reduceBEq, Bool.false_and, Bool.and_false, Bool.and_self, K_P, K_own, absCall, doCall, getBoxes, lend, back, idx, dedup, AV.ren, CV.ren, TV.ren, AV.ptrs, CV.ptrs, zipBox, AV.flat, CV.flat, absLoad, absStore, cellsOfAV, setAt, newBox, markB, bldTypes, absFieldAddr, absField, absExtract, absAssert, noAssert, absMkIface, ifcOf, CV.pv?, content, pushHead, ownT, fillCells, reps, pvs, chunks, enterSt, leave, resOf, resVars, resVar, outBoxes, lentOnly, TV.deg, TV.av, LK, CV.plain, CV.noBld, nilBin, absUn, bound, List.map_cons, List.map_nil, List.all_cons, List.all_nil, List.any_cons, List.any_nil, List.contains_cons, List.contains_nil, List.elem_cons, List.elem_nil, List.cons_append, List.nil_append, List.append_nil, List.flatMap_cons, List.flatMap_nil, List.zip_cons_cons, List.zip_nil_left, List.zip_nil_right, List.take_succ_cons, List.take_zero, List.take_nil, List.drop_succ_cons, List.drop_zero, List.drop_nil, List.isEmpty_nil, List.isEmpty_cons, Bool.and_true, Bool.true_and, Bool.or_true, Bool.true_or, Bool.or_false, Bool.false_or, Bool.not_true, Bool.not_false, Nat.reduceAdd, Nat.reduceSub, Nat.reduceLeDiff, Nat.add_zero, Nat.zero_add, Nat.reduceMul, Option.isNone_none, Option.isNone_some, Option.getD_none, true_and, and_true, not_true_eq_false, not_false_eq_true, decide_true, decide_false, List.toList_toArray, Nat.le_refl, and_self, Bool.not_eq_true, Nat.sub_self, or_true, true_or, Option.some.injEq, List.length_map, List.nil_eq, and_false, false_and, AV.live, CV.live, CV.liveIn, K_keep, firstReg, Option.orElse_some, Option.orElse_none, head, keepSlots, keepBoxes, Int.lt_irrefl, List.length_append, ite_self, memOK, logOps, opKey, lentBoxes, Key.clash, Key.sees, Key.writes, Nat.lt_irrefl, gt_iff_lt, nobox_at, bot_at, false_or, or_false, beq_self_eq_true, Bool.true_beq, Bool.false_beq, ty_fieldOff_67_0, ty_szOf_65, ty_shapeT_65, ev_slice_str ty_descOf_65, good_88, ev_len_str ty_descOf_65, good_89, hr, hi, hb, t2, Int.toNat_natCast, hd, hn, hsk]
  | some n =>
    rw [hc] at hi
    have hle := Tk.shut_le hc
    simp only [List.length_drop] at hle
    have hsk := skip_den s x (n + 2) (by omega)
    have hn : decide ((n : Int) - 2 < 0) = false := decide_eq_false (by omega)
    have w1 : IntKind.i64.wrap (2 + ((n : Int) - 2)) = (n : Int) := by rw [IntWalk.i64_in _ (by omega)]; omega
    have w2 : IntKind.i64.wrap ((n : Int) + 2) = ((n + 2 : Nat) : Int) := by rw [IntWalk.i64_in _ (by omega)]; rfl
    cases x <;> simp only [TS.cell, scan] at hsk ⊢ <;> simp only [TS.cell, scan, exL_seq, exL_region, exL_cond, exL_block, exL_scope, exL_ret, exL_skip, exL_exit, runRegion, runOps, stepOp, guardA, absOp, takeOver, opd, avOf, cvOf, St.degAt, St.put, okPV, okVal, okAV, absBin, intBin, strBin, boolBin, setBoxes, if_true, Bool.false_eq_true, if_false, Option.map_some, Option.map_none, Option.bind_some, Option.bind_none, thenO, outOf, upd, List.toList_toArray, isOwn, steal, appArgs, inApps, AV.deg, CV.deg, AV.gv, AV.isIter, absNext, some_bne, Nat.reduceLT, reduceIte, reduceCtorEq, Nat.reduceEqDiff, List.length_nil, List.length_cons, apply_ite (Option.map (outOf _)), List.filterMap_cons, List.filterMap_nil, beq_iff_eq, List.getElem?_cons_zero, List.getElem?_cons_succ, Option.getD_some, K_hook, hookB, Nat.reduceBEq, Bool.false_and, Bool.and_false, Bool.and_self, K_P, K_own, absCall, doCall, getBoxes, lend, back, idx, dedup, AV.ren, CV.ren, TV.ren, AV.ptrs, CV.ptrs, zipBox, AV.flat, CV.flat, absLoad, absStore, cellsOfAV, setAt, newBox, markB, bldTypes, absFieldAddr, absField, absExtract, absAssert, noAssert, absMkIface, ifcOf, CV.pv?, content, pushHead, ownT, fillCells, reps, pvs, chunks, enterSt, leave, resOf, resVars, resVar, outBoxes, lentOnly, TV.deg, TV.av, LK, CV.plain, CV.noBld, nilBin, absUn, bound, List.map_cons, List.map_nil, List.all_cons, List.all_nil, List.any_cons, List.any_nil, List.contains_cons, List.contains_nil, List.elem_cons, List.elem_nil, List.cons_append, List.nil_append, List.append_nil, List.flatMap_cons, List.flatMap_nil, List.zip_cons_cons, List.zip_nil_left, List.zip_nil_right, List.take_succ_cons, List.take_zero, List.take_nil, List.drop_succ_cons, List.drop_zero, List.drop_nil, List.isEmpty_nil, List.isEmpty_cons, Bool.and_true, Bool.true_and, Bool.or_true, Bool.true_or, Bool.or_false, Bool.false_or, Bool.not_true, Bool.not_false, Nat.reduceAdd, Nat.reduceSub, Nat.reduceLeDiff, Nat.add_zero, Nat.zero_add, Nat.reduceMul, Option.isNone_none, Option.isNone_some, Option.getD_none, true_and, and_true, not_true_eq_false, not_false_eq_true, decide_true, decide_false, List.toList_toArray, Nat.le_refl, and_self, Bool.not_eq_true, Nat.sub_self, or_true, true_or, Option.some.injEq, List.length_map, List.nil_eq, and_false, false_and, AV.live, CV.live, CV.liveIn, K_keep, firstReg, Option.orElse_some, Option.orElse_none, head, keepSlots, keepBoxes, Int.lt_irrefl, List.length_append, ite_self, memOK, logOps, opKey, lentBoxes, Key.clash, Key.sees, Key.writes, Nat.lt_irrefl, gt_iff_lt, nobox_at, bot_at, false_or, or_false, beq_self_eq_true, Bool.true_beq, Bool.false_beq, ty_fieldOff_67_0, ty_szOf_65, ty_shapeT_65, ev_slice_str ty_descOf_65, good_88, ev_len_str ty_descOf_65, good_89, hr, hi, hb, t2, Int.toNat_natCast, hd, hn, w1, w2, hsk]
theorem inner_den (s : List UInt8) (c : UInt8) (r : List UInt8) (x : TS) (hsr : s = c :: r) (hs : s.length < 4000000000) : den K 69 [P0] [scan s x] = some (.ret (I (innerI c r)) [scan s x]) := by
  have hb : ((0 : Int) ≤ 1 ∧ (1 : Int) ≤ (s.length : Int)) = True := eq_true (by rw [hsr]; simp; omega)
  have hd : (s.take s.length).drop 1 = r := by rw [List.take_length, hsr]; rfl
  have hcell : s[(0 : Int).toNat]? = some c := by rw [hsr]; rfl
  have hrs : r.length ≤ s.length := by rw [hsr]; simp
  clear hsr
  have hi := indexByte_den r c
  have hge := Lib.indexByte_ge r c
  have hlt := indexByte_lt c r
  rw [inner_law]
  generalize Lib.indexByte r c = n at hi hge hlt
  refine den_run rfl rfl Tryz.func69 rfl Tryz.ntmps69 ⟨by simp, by simp [LK]⟩ ?_
  have hr : Tryz.f69.results = #[.tmp 2] := rfl
  have t1 : Int.toNat 1 = 1 := rfl
  by_cases h0 : 0 ≤ n
  · have hc := containsAny_den (r.take n.toNat) (by rw [List.length_take]; omega)
    have hn : decide (0 ≤ n) = true := decide_eq_true h0
    have hb2 : ((0 : Int) ≤ n ∧ n ≤ (r.length : Int)) = True := eq_true (by have := hlt h0; omega)
    cases hv : Lib.containsAny (r.take n.toNat) [10, 12, 13]
    · rw [hv] at hc
      rw [if_neg (fun e => by cases e.2)]
      cases x <;> simp only [TS.cell, scan] <;> simp only [TS.cell, scan, exL_seq, exL_region, exL_cond, exL_block, exL_scope, exL_ret, exL_skip, exL_exit, runRegion, runOps, stepOp, guardA, absOp, takeOver, opd, avOf, cvOf, St.degAt, St.put, okPV, okVal, okAV, absBin, intBin, strBin, boolBin, setBoxes, if_true, Bool.false_eq_true, if_false, Option.map_some, Option.map_none, Option.bind_some, Option.bind_none, thenO, outOf, upd, List.toList_toArray, isOwn, steal, appArgs, inApps, AV.deg, CV.deg, AV.gv, AV.isIter, absNext, some_bne, Nat.reduceLT, reduceIte, reduceCtorEq, Nat.reduceEqDiff, List.length_nil, List.length_cons, apply_ite (Option.map (outOf _)), List.filterMap_cons, List.filterMap_nil, beq_iff_eq, List.getElem?_cons_zero, List.getElem?_cons_succ, Option.getD_some, K_hook, hookB, Nat.reduceBEq, Bool.false_and, Bool.and_false, Bool.and_self, K_P, K_own, absCall, doCall, getBoxes, lend, back, idx, dedup, AV.ren, CV.ren, TV.ren, AV.ptrs, CV.ptrs, zipBox, AV.flat, CV.flat, absLoad, absStore, cellsOfAV, setAt, newBox, markB, bldTypes, absFieldAddr, absField, absExtract, absAssert, noAssert, absMkIface, ifcOf, CV.pv?, content, pushHead, ownT, fillCells, reps, pvs, chunks, enterSt, leave, resOf, resVars, resVar, outBoxes, lentOnly, TV.deg, TV.av, LK, CV.plain, CV.noBld, nilBin, absUn, bound, List.map_cons, List.map_nil, List.all_cons, List.all_nil, List.any_cons, List.any_nil, List.contains_cons, List.contains_nil, List.elem_cons, List.elem_nil, List.cons_append, List.nil_append, List.append_nil, List.flatMap_cons, List.flatMap_nil, List.zip_cons_cons, List.zip_nil_left, List.zip_nil_right, List.take_succ_cons, List.take_zero, List.take_nil, List.drop_succ_cons, List.drop_zero, List.drop_nil, List.isEmpty_nil, List.isEmpty_cons, Bool.and_true, Bool.true_and, Bool.or_true, Bool.true_or, Bool.or_false, Bool.false_or, Bool.not_true, Bool.not_false, Nat.reduceAdd, Nat.reduceSub, Nat.reduceLeDiff, Nat.add_zero, Nat.zero_add, Nat.reduceMul, Option.isNone_none, Option.isNone_some, Option.getD_none, true_and, and_true, not_true_eq_false, not_false_eq_true, decide_true, decide_false, List.toList_toArray, Nat.le_refl, and_self, Bool.not_eq_true, Nat.sub_self, or_true, true_or, Option.some.injEq, List.length_map, List.nil_eq, and_false, false_and, AV.live, CV.live, CV.liveIn, K_keep, firstReg, Option.orElse_some, Option.orElse_none, head, keepSlots, keepBoxes, Int.lt_irrefl, List.length_append, ite_self, memOK, logOps, opKey, lentBoxes, Key.clash, Key.sees, Key.writes, Nat.lt_irrefl, gt_iff_lt, nobox_at, bot_at, false_or, or_false, beq_self_eq_true, Bool.true_beq, Bool.false_beq, ty_fieldOff_67_0, ty_szOf_65, ty_shapeT_65, ev_slice_str ty_descOf_65, ev_index ty_descOf_65, good_65, ev_slice_str ty_descOf_9, good_91, hr, hi, hb, hd, hn, t1, hb2, hc, hcell, Int.le_refl]
    · rw [hv] at hc
      rw [if_pos ⟨h0, rfl⟩]
      cases x <;> simp only [TS.cell, scan] <;> simp only [TS.cell, scan, exL_seq, exL_region, exL_cond, exL_block, exL_scope, exL_ret, exL_skip, exL_exit, runRegion, runOps, stepOp, guardA, absOp, takeOver, opd, avOf, cvOf, St.degAt, St.put, okPV, okVal, okAV, absBin, intBin, strBin, boolBin, setBoxes, if_true, Bool.false_eq_true, if_false, Option.map_some, Option.map_none, Option.bind_some, Option.bind_none, thenO, outOf, upd, List.toList_toArray, isOwn, steal, appArgs, inApps, AV.deg, CV.deg, AV.gv, AV.isIter, absNext, some_bne, Nat.reduceLT, reduceIte, reduceCtorEq, Nat.reduceEqDiff, List.length_nil, List.length_cons, apply_ite (Option.map (outOf _)), List.filterMap_cons, List.filterMap_nil, beq_iff_eq, List.getElem?_cons_zero, List.getElem?_cons_succ, Option.getD_some, K_hook, hookB, Nat.reduceBEq, Bool.false_and, Bool.and_false, Bool.and_self, K_P, K_own, absCall, doCall, getBoxes, lend, back, idx, dedup, AV.ren, CV.ren, TV.ren, AV.ptrs, CV.ptrs, zipBox, AV.flat, CV.flat, absLoad, absStore, cellsOfAV, setAt, newBox, markB, bldTypes, absFieldAddr, absField, absExtract, absAssert, noAssert, absMkIface, ifcOf, CV.pv?, content, pushHead, ownT, fillCells, reps, pvs, chunks, enterSt, leave, resOf, resVars, resVar, outBoxes, lentOnly, TV.deg, TV.av, LK, CV.plain, CV.noBld, nilBin, absUn, bound, List.map_cons, List.map_nil, List.all_cons, List.all_nil, List.any_cons, List.any_nil, List.contains_cons, List.contains_nil, List.elem_cons, List.elem_nil, List.cons_append, List.nil_append, List.append_nil, List.flatMap_cons, List.flatMap_nil, List.zip_cons_cons, List.zip_nil_left, List.zip_nil_right, List.take_succ_cons, List.take_zero, List.take_nil, List.drop_succ_cons, List.drop_zero, List.drop_nil, List.isEmpty_nil, List.isEmpty_cons, Bool.and_true, Bool.true_and, Bool.or_true, Bool.true_or, Bool.or_false, Bool.false_or, Bool.not_true, Bool.not_false, Nat.reduceAdd, Nat.reduceSub, Nat.reduceLeDiff, Nat.add_zero, Nat.zero_add, Nat.reduceMul, Option.isNone_none, Option.isNone_some, Option.getD_none, true_and, and_true, not_true_eq_false, not_false_eq_true, decide_true, decide_false, List.toList_toArray, Nat.le_refl, and_self, Bool.not_eq_true, Nat.sub_self, or_true, true_or, Option.some.injEq, List.length_map, List.nil_eq, and_false, false_and, AV.live, CV.live, CV.liveIn, K_keep, firstReg, Option.orElse_some, Option.orElse_none, head, keepSlots, keepBoxes, Int.lt_irrefl, List.length_append, ite_self, memOK, logOps, opKey, lentBoxes, Key.clash, Key.sees, Key.writes, Nat.lt_irrefl, gt_iff_lt, nobox_at, bot_at, false_or, or_false, beq_self_eq_true, Bool.true_beq, Bool.false_beq, ty_fieldOff_67_0, ty_szOf_65, ty_shapeT_65, ev_slice_str ty_descOf_65, ev_index ty_descOf_65, good_65, ev_slice_str ty_descOf_9, good_91, hr, hi, hb, hd, hn, t1, hb2, hc, hcell, Int.le_refl]
  · have hn : decide (0 ≤ n) = false := decide_eq_false h0
    rw [if_neg (fun e => h0 e.1)]
    cases x <;> simp only [TS.cell, scan] <;> simp only [TS.cell, scan, exL_seq, exL_region, exL_cond, exL_block, exL_scope, exL_ret, exL_skip, exL_exit, runRegion, runOps, stepOp, guardA, absOp, takeOver, opd, avOf, cvOf, St.degAt, St.put, okPV, okVal, okAV, absBin, intBin, strBin, boolBin, setBoxes, if_true, Bool.false_eq_true, if_false, Option.map_some, Option.map_none, Option.bind_some, Option.bind_none, thenO, outOf, upd, List.toList_toArray, isOwn, steal, appArgs, inApps, AV.deg, CV.deg, AV.gv, AV.isIter, absNext, some_bne, Nat.reduceLT, reduceIte, reduceCtorEq, Nat.reduceEqDiff, List.length_nil, List.length_cons, apply_ite (Option.map (outOf _)), List.filterMap_cons, List.filterMap_nil, beq_iff_eq, List.getElem?_cons_zero, List.getElem?_cons_succ, Option.getD_some, K_hook, hookB, Nat.reduceBEq, Bool.false_and, Bool.and_false, Bool.and_self, K_P, K_own, absCall, doCall, getBoxes, lend, back, idx, dedup, AV.ren, CV.ren, TV.ren, AV.ptrs, CV.ptrs, zipBox, AV.flat, CV.flat, absLoad, absStore, cellsOfAV, setAt, newBox, markB, bldTypes, absFieldAddr, absField, absExtract, absAssert, noAssert, absMkIface, ifcOf, CV.pv?, content, pushHead, ownT, fillCells, reps, pvs, chunks, enterSt, leave, resOf, resVars, resVar, outBoxes, lentOnly, TV.deg, TV.av, LK, CV.plain, CV.noBld, nilBin, absUn, bound, List.map_cons, List.map_nil, List.all_cons, List.all_nil, List.any_cons, List.any_nil, List.contains_cons, List.contains_nil, List.elem_cons, List.elem_nil, List.cons_append, List.nil_append, List.append_nil, List.flatMap_cons, List.flatMap_nil, List.zip_cons_cons, List.zip_nil_left, List.zip_nil_right, List.take_succ_cons, List.take_zero, List.take_nil, List.drop_succ_cons, List.drop_zero, List.drop_nil, List.isEmpty_nil, List.isEmpty_cons, Bool.and_true, Bool.true_and, Bool.or_true, Bool.true_or, Bool.or_false, Bool.false_or, Bool.not_true, Bool.not_false, Nat.reduceAdd, Nat.reduceSub, Nat.reduceLeDiff, Nat.add_zero, Nat.zero_add, Nat.reduceMul, Option.isNone_none, Option.isNone_some, Option.getD_none, true_and, and_true, not_true_eq_false, not_false_eq_true, decide_true, decide_false, List.toList_toArray, Nat.le_refl, and_self, Bool.not_eq_true, Nat.sub_self, or_true, true_or, Option.some.injEq, List.length_map, List.nil_eq, and_false, false_and, AV.live, CV.live, CV.liveIn, K_keep, firstReg, Option.orElse_some, Option.orElse_none, head, keepSlots, keepBoxes, Int.lt_irrefl, List.length_append, ite_self, memOK, logOps, opKey, lentBoxes, Key.clash, Key.sees, Key.writes, Nat.lt_irrefl, gt_iff_lt, nobox_at, bot_at, false_or, or_false, beq_self_eq_true, Bool.true_beq, Bool.false_beq, ty_fieldOff_67_0, ty_szOf_65, ty_shapeT_65, ev_slice_str ty_descOf_65, ev_index ty_descOf_65, good_65, ev_slice_str ty_descOf_9, good_91, hr, hi, hb, hd, hn, t1, hcell, Int.le_refl]
end Go.Abs
namespace Go.Abs
open Go Go.Proofs
set_option maxRecDepth 10000
attribute [local go_sem] exL_seq exL_region exL_cond exL_block exL_scope exL_ret exL_skip exL_exit runRegion runOps stepOp guardA absOp takeOver opd avOf cvOf St.degAt St.put okPV okVal okAV absBin intBin strBin boolBin setBoxes if_true Bool.false_eq_true if_false Option.map_some Option.map_none Option.bind_some Option.bind_none thenO outOf upd List.toList_toArray isOwn steal appArgs inApps AV.deg CV.deg AV.gv AV.isIter absNext some_bne List.length_nil List.length_cons List.filterMap_cons List.filterMap_nil beq_iff_eq List.getElem?_cons_zero List.getElem?_cons_succ Option.getD_some K_hook hookB Bool.false_and Bool.and_false Bool.and_self K_P K_own absCall doCall getBoxes lend back idx dedup AV.ren CV.ren TV.ren AV.ptrs CV.ptrs zipBox AV.flat CV.flat absLoad absStore cellsOfAV setAt newBox markB bldTypes absFieldAddr absField absExtract absAssert noAssert absMkIface ifcOf CV.pv? content pushHead ownT fillCells reps pvs chunks enterSt leave resOf resVars resVar outBoxes lentOnly TV.deg TV.av LK CV.plain CV.noBld nilBin absUn bound List.map_cons List.map_nil List.all_cons List.all_nil List.any_cons List.any_nil List.contains_cons List.contains_nil List.elem_cons List.elem_nil List.cons_append List.nil_append List.append_nil List.flatMap_cons List.flatMap_nil List.zip_cons_cons List.zip_nil_left List.zip_nil_right List.take_succ_cons List.take_zero List.take_nil List.drop_succ_cons List.drop_zero List.drop_nil List.isEmpty_nil List.isEmpty_cons Bool.and_true Bool.true_and Bool.or_true Bool.true_or Bool.or_false Bool.false_or Bool.not_true Bool.not_false Nat.add_zero Nat.zero_add Option.isNone_none Option.isNone_some Option.getD_none true_and and_true not_true_eq_false not_false_eq_true decide_true decide_false Nat.le_refl and_self Bool.not_eq_true Nat.sub_self or_true true_or Option.some.injEq List.length_map List.nil_eq and_false false_and AV.live CV.live CV.liveIn K_keep firstReg Option.orElse_some Option.orElse_none head keepSlots keepBoxes Int.lt_irrefl List.length_append ite_self memOK logOps opKey lentBoxes Key.clash Key.sees Key.writes Nat.lt_irrefl gt_iff_lt nobox_at bot_at false_or or_false beq_self_eq_true Bool.true_beq Bool.false_beq
def TS.live' : TS → TS
  | .nils => .live
  | x => x
theorem TS.live_toks (x : TS) : x.live'.toks = x.toks := by cases x <;> rfl
abbrev numH (s : List UInt8) (et : Nat) (ct : List (List PV)) (from_ e : Nat) (d : List UInt8) (n : Int) (i : Nat) : St :=
  { sl := upd (upd (upd (upd (upd bot 29 (.c (.iter d i))) 4 (I n)) 3 (I e)) 2 (I from_)) 0 P0, bx := upd nobox 100000 (some [.pv (.str s), .own et ct]), nt := 72 }
theorem min_law (v : Int) : (if (999999999 : Int) < v then (999999999 : Int) else v) = min v 999999999 := by
  split <;> omega
theorem num_loop (s : List UInt8) (et : Nat) (ct : List (List PV)) (from_ e : Nat) (d : List UInt8) (hd : ∀ b ∈ d, Tk.digit b = true) : ∀ (rest : List UInt8) (i : Nat) (n : Int), d.drop i = rest → i ≤ d.length → 0 ≤ n → n ≤ 999999999 →
    Ends (exL K 72 (.loop (loopAt Tryz.f72 6)) (numH s et ct from_ e d n i)) fun o S => o = .exit 0 ∧ S.sl 0 = P0 ∧ S.sl 2 = I from_ ∧ S.sl 3 = I e ∧ S.sl 4 = I (Tk.num n rest) ∧ S.nt = 72 ∧ S.bx = upd nobox 100000 (some [.pv (.str s), .own et ct]) := by
  intro rest
  induction rest with
  | nil =>
    intro i n hr hi h0 h1
    have hin : i = d.length := by
      have := List.drop_eq_nil_iff.1 hr
      omega
    subst hin
    have hlt : (d.length < d.length) = False := by simp
    conv in loopAt _ _ => whnf
    rw [exL_loop]
    simp only [go_sem, Nat.reduceLT, reduceIte, reduceCtorEq, Nat.reduceEqDiff, apply_ite (Option.map (outOf _)), Nat.reduceBEq, Nat.reduceAdd, Nat.reduceSub, Nat.reduceLeDiff, Nat.reduceMul, ty_fieldOff_67_0, ty_szOf_65, ty_shapeT_65, good_61, good_68, ev_slice_str ty_descOf_65, ev_range ty_descOf_65, ev_conv_int ty_descOf_21 ty_descOf_3, good_62, good_67, keep_72_6, ends_some, hlt, Tk.num]
  | cons c rest ih =>
    intro i n hr hi h0 h1
    obtain ⟨g1, g2, g3⟩ := drop_cons hr
    have hc : Tk.digit c = true := hd c (List.mem_of_getElem? g1)
    have hcn : 48 ≤ c.toNat ∧ c.toNat ≤ 57 := by simpa [Tk.digit] using hc
    obtain ⟨r, wd, hdec, hw1, hw2, hr2, hcase⟩ := decode_at d i g3
    have hrc : r = c.toNat ∧ wd = 1 := by
      rcases hcase with ⟨_, hw, b, hb, hbr⟩ | ⟨_, hall⟩
      · rw [g1] at hb; cases hb; exact ⟨hbr.symm, hw⟩
      · have := hall i c (Nat.le_refl _) (by omega) g1; omega
    obtain ⟨rfl, rfl⟩ := hrc
    have hit : iterNext d i = i + 1 := by unfold iterNext; rw [hdec]
    have hlt : (i < d.length) = True := eq_true g3
    have w1 : IntKind.i64.wrap (10 * n) = 10 * n := IntWalk.i64_in _ (by omega)
    have w2 : IntKind.i32.wrap ((c.toNat : Int) - 48) = (c.toNat : Int) - 48 := IntWalk.i32_in _ (by omega)
    have w3 : IntKind.i64.wrap ((c.toNat : Int) - 48) = (c.toNat : Int) - 48 := IntWalk.i64_in _ (by omega)
    have w4 : IntKind.i64.wrap (10 * n + ((c.toNat : Int) - 48)) = 10 * n + ((c.toNat : Int) - 48) := IntWalk.i64_in _ (by omega)
    have hv : Tk.num n (c :: rest) = Tk.num (min (10 * n + ((c.toNat : Int) - 48)) 999999999) rest := by rw [Tk.num, if_pos hc]
    rw [hv]
    have ih' := ih (i + 1) (min (10 * n + ((c.toNat : Int) - 48)) 999999999) g2 (by omega) (by omega) (by omega)
    conv at ih' in loopAt _ _ => whnf
    conv in loopAt _ _ => whnf
    rw [exL_loop]
    simp only [go_sem, Nat.reduceLT, reduceIte, reduceCtorEq, Nat.reduceEqDiff, apply_ite (Option.map (outOf _)), Nat.reduceBEq, Nat.reduceAdd, Nat.reduceSub, Nat.reduceLeDiff, Nat.reduceMul, ty_fieldOff_67_0, ty_szOf_65, ty_shapeT_65, good_61, good_68, ev_slice_str ty_descOf_65, ev_range ty_descOf_65, ev_conv_int ty_descOf_21 ty_descOf_3, good_62, good_67, keep_72_6, hlt, hdec, hit, w1, w2, w3, w4, absMin, allInts, List.foldl_cons, List.foldl_nil, min_law]
    rw [exL_head]
    simp only [go_sem, Nat.reduceLT, reduceIte, reduceCtorEq, Nat.reduceEqDiff, apply_ite (Option.map (outOf _)), Nat.reduceBEq, Nat.reduceAdd, Nat.reduceSub, Nat.reduceLeDiff, Nat.reduceMul, ty_fieldOff_67_0, ty_szOf_65, ty_shapeT_65, good_61, good_68, ev_slice_str ty_descOf_65, ev_range ty_descOf_65, ev_conv_int ty_descOf_21 ty_descOf_3, good_62, good_67, keep_72_6]
    exact ih'
set_option maxHeartbeats 8000000 in
theorem number_den (s : List UInt8) (x : TS) (neg : Bool) (from_ : Nat) (l : List UInt8) (hf : from_ = if neg then 1 else 0) (hl : s.drop from_ = l) (hle : from_ ≤ s.length) (h45 : (Tk.at0 s == 45) = neg) (hs : s.length < 4000000000) (hx : x.toks.length < 4000000000) :
    den K 72 [P0] [scan s x] = some (.ret (.tup []) [scan (s.drop (from_ + (Tk.number neg l).2)) (.wr (x.toks ++ [(Tk.number neg l).1]))]) := by
  have d0 := at_den s 0 (by omega)
  rw [List.drop_zero] at d0
  have e45 : (((Tk.at0 s).toNat : Int) == 45) = neg := by rw [← h45]; exact u8_beq _ 45
  have hrun := run_den s (by omega) Tk.digit 71 good_71 rfl digit_den from_ hle
  rw [hl] at hrun
  have hrl := Tk.run_le (p := Tk.digit) l
  have hll : l.length = s.length - from_ := by rw [← hl, List.length_drop]
  have hnum := Tk.num_bound (l := l) (n := 0) (by omega) (by omega)
  have hdig := Tk.run_take (p := Tk.digit) l
  generalize hk : Tk.run Tk.digit l = k at hrun hrl hdig
  have hle2 : from_ + k ≤ s.length := by omega
  have hde : s.drop (from_ + k) = l.drop k := by rw [← List.drop_drop, hl]
  have dn := name_den s (by omega) (from_ + k) hle2
  have da := at_den s (from_ + k) (by omega)
  rw [hde] at dn da
  have hul := Tk.unit_le (l.drop k)
  rw [List.length_drop] at hul
  have e37 : (((Tk.at0 (l.drop k)).toNat : Int) == 37) = (Tk.at0 (l.drop k) == 37) := u8_beq _ 37
  have hnn : Tk.num 0 (l.take k) = Tk.num 0 l := by
    have : l = l.take k ++ l.drop k := (List.take_append_drop k l).symm
    conv => rhs; rw [this]
    rw [Tk.num_app hdig]
    exact (Tk.num_stop (n := Tk.num 0 (l.take k)) (by rw [← hk]; exact Tk.run_stop Tk.digit_zero l)).symm
  have hin := fun et ct => num_loop s et ct from_ (from_ + k) (l.take k) hdig (l.take k) 0 0 rfl (Nat.zero_le _) (by omega) (by omega)
  rw [hnn] at hin
  conv at hin in loopAt _ _ => whnf
  have hsub : (s.take (from_ + k)).drop from_ = l.take k := by rw [List.drop_take, hl]; congr 1; omega
  unfold Tk.number
  simp only [hk]
  rw [← Nat.add_assoc]
  generalize hu : Tk.unit (l.drop k) = u at hul
  have hput := fun v => put_den s x.live' (from_ + k + u) 5 ((l.drop k).take u) v (by omega) (by rw [TS.live_toks]; exact hx)
  rw [TS.live_toks] at hput
  have hsub2 : (s.take (from_ + k + u)).drop (from_ + k) = (l.drop k).take u := by rw [List.drop_take, hde]; congr 1; omega
  have b1 : ((0 : Int) ≤ ((from_ + k : Nat) : Int) ∧ ((from_ + k : Nat) : Int) ≤ (s.length : Int)) = True := eq_true (by omega)
  have b2 : ((0 : Int) ≤ (from_ : Int) ∧ (from_ : Int) ≤ ((from_ + k : Nat) : Int)) = True := eq_true (by omega)
  have b3 : ((0 : Int) ≤ ((from_ + k + u : Nat) : Int) ∧ ((from_ + k + u : Nat) : Int) ≤ (s.length : Int)) = True := eq_true (by omega)
  have b4 : ((0 : Int) ≤ ((from_ + k : Nat) : Int) ∧ ((from_ + k : Nat) : Int) ≤ ((from_ + k + u : Nat) : Int)) = True := eq_true (by omega)
  have w1 : IntKind.i64.wrap ((from_ : Int) + (k : Int)) = ((from_ + k : Nat) : Int) := by rw [IntWalk.i64_in _ (by omega)]; rfl
  have w2 : IntKind.i64.wrap (((from_ + k : Nat) : Int) + (u : Int)) = ((from_ + k + u : Nat) : Int) := by rw [IntWalk.i64_in _ (by omega)]; rfl
  have w3 : IntKind.i64.wrap (0 - Tk.num 0 l) = -Tk.num 0 l := by rw [IntWalk.i64_in _ (by omega)]; omega
  have t0 : Int.toNat 0 = 0 := rfl
  have t1 : Int.toNat 1 = 1 := rfl
  have z01 : ((0 : Int) = 1) = False := by simp
  have z0 : ((0 : Nat) : Int) = 0 := rfl
  have z1 : ((1 : Nat) : Int) = 1 := rfl
  have hu37 : (Tk.at0 (l.drop k) == 37) = false → Tk.name (l.drop k) = u := fun h => by
    rw [← hu, Tk.unit, if_neg (by simpa using h)]
  have hu1 : (Tk.at0 (l.drop k) == 37) = true → u = 1 := fun h => by
    rw [← hu, Tk.unit, if_pos (by simpa using h)]
  refine den_run rfl rfl Tryz.func72 rfl Tryz.ntmps72 ⟨by simp, by simp [LK]⟩ ?_
  have hr : Tryz.f72.results = #[] := rfl
  cases neg
  all_goals (
    simp only [Bool.false_eq_true, if_true, if_false] at hf
    subst hf
    simp only [z0, z1, Nat.zero_add] at d0 hrun w1 b1 b2 b3 b4 w2 hin hsub hsub2 hput dn da hu37 hu1 e45
    first | (rw [List.drop_zero] at hl; subst hl) | skip
    cases x)
  · obtain ⟨o, S', e, rfl, f0, f2, f3, f4, fn, fb⟩ := hin 0 []
    simp only [TS.cell, TS.live', TS.toks, scan, List.map_append, List.map_cons, List.map_nil, Tok.enc, List.nil_append] at hput ⊢
    simp only [go_sem, Nat.reduceLT, reduceIte, reduceCtorEq, Nat.reduceEqDiff, apply_ite (Option.map (outOf _)), Nat.reduceBEq, Nat.reduceAdd, Nat.reduceSub, Nat.reduceLeDiff, Nat.reduceMul, ty_fieldOff_67_0, ty_szOf_65, ty_shapeT_65, good_61, good_68, ev_slice_str ty_descOf_65, ev_range ty_descOf_65, ev_conv_int ty_descOf_21 ty_descOf_3, good_62, good_67, keep_72_6, d0, e45, hrun, w1, b1, b2, Int.toNat_natCast, hsub, z0, z1, t0, t1]
    rw [exL_head]
    simp only [go_sem, Nat.reduceLT, reduceIte, reduceCtorEq, Nat.reduceEqDiff, apply_ite (Option.map (outOf _)), Nat.reduceBEq, Nat.reduceAdd, Nat.reduceSub, Nat.reduceLeDiff, Nat.reduceMul, ty_fieldOff_67_0, ty_szOf_65, ty_shapeT_65, good_61, good_68, ev_slice_str ty_descOf_65, ev_range ty_descOf_65, ev_conv_int ty_descOf_21 ty_descOf_3, good_62, good_67, keep_72_6]
    erw [e]
    cases h37 : (Tk.at0 (s.drop k) == 37)
    · rw [h37] at e37
      rw [hu37 h37] at dn
      simp only [go_sem, Nat.reduceLT, reduceIte, reduceCtorEq, Nat.reduceEqDiff, apply_ite (Option.map (outOf _)), Nat.reduceBEq, Nat.reduceAdd, Nat.reduceSub, Nat.reduceLeDiff, Nat.reduceMul, ty_fieldOff_67_0, ty_szOf_65, ty_shapeT_65, good_61, good_68, ev_slice_str ty_descOf_65, ev_range ty_descOf_65, ev_conv_int ty_descOf_21 ty_descOf_3, good_62, good_67, keep_72_6, hr, z01, f0, f2, f3, f4, fn, fb, dn, da, e37, w2, w3, b3, b4, Int.toNat_natCast, hsub2, hput]
    · rw [h37] at e37
      rw [hu1 h37] at w2 b3 b4 hput hsub2 ⊢
      simp only [z1] at w2
      simp only [go_sem, Nat.reduceLT, reduceIte, reduceCtorEq, Nat.reduceEqDiff, apply_ite (Option.map (outOf _)), Nat.reduceBEq, Nat.reduceAdd, Nat.reduceSub, Nat.reduceLeDiff, Nat.reduceMul, ty_fieldOff_67_0, ty_szOf_65, ty_shapeT_65, good_61, good_68, ev_slice_str ty_descOf_65, ev_range ty_descOf_65, ev_conv_int ty_descOf_21 ty_descOf_3, good_62, good_67, keep_72_6, hr, z01, f0, f2, f3, f4, fn, fb, dn, da, e37, w2, w3, b3, b4, Int.toNat_natCast, hsub2, hput]

  · obtain ⟨o, S', e, rfl, f0, f2, f3, f4, fn, fb⟩ := hin 0 []
    simp only [TS.cell, TS.live', TS.toks, scan, List.map_append, List.map_cons, List.map_nil, Tok.enc, List.nil_append] at hput ⊢
    simp only [go_sem, Nat.reduceLT, reduceIte, reduceCtorEq, Nat.reduceEqDiff, apply_ite (Option.map (outOf _)), Nat.reduceBEq, Nat.reduceAdd, Nat.reduceSub, Nat.reduceLeDiff, Nat.reduceMul, ty_fieldOff_67_0, ty_szOf_65, ty_shapeT_65, good_61, good_68, ev_slice_str ty_descOf_65, ev_range ty_descOf_65, ev_conv_int ty_descOf_21 ty_descOf_3, good_62, good_67, keep_72_6, d0, e45, hrun, w1, b1, b2, Int.toNat_natCast, hsub, z0, z1, t0, t1]
    rw [exL_head]
    simp only [go_sem, Nat.reduceLT, reduceIte, reduceCtorEq, Nat.reduceEqDiff, apply_ite (Option.map (outOf _)), Nat.reduceBEq, Nat.reduceAdd, Nat.reduceSub, Nat.reduceLeDiff, Nat.reduceMul, ty_fieldOff_67_0, ty_szOf_65, ty_shapeT_65, good_61, good_68, ev_slice_str ty_descOf_65, ev_range ty_descOf_65, ev_conv_int ty_descOf_21 ty_descOf_3, good_62, good_67, keep_72_6]
    erw [e]
    cases h37 : (Tk.at0 (s.drop k) == 37)
    · rw [h37] at e37
      rw [hu37 h37] at dn
      simp only [go_sem, Nat.reduceLT, reduceIte, reduceCtorEq, Nat.reduceEqDiff, apply_ite (Option.map (outOf _)), Nat.reduceBEq, Nat.reduceAdd, Nat.reduceSub, Nat.reduceLeDiff, Nat.reduceMul, ty_fieldOff_67_0, ty_szOf_65, ty_shapeT_65, good_61, good_68, ev_slice_str ty_descOf_65, ev_range ty_descOf_65, ev_conv_int ty_descOf_21 ty_descOf_3, good_62, good_67, keep_72_6, hr, z01, f0, f2, f3, f4, fn, fb, dn, da, e37, w2, w3, b3, b4, Int.toNat_natCast, hsub2, hput]
    · rw [h37] at e37
      rw [hu1 h37] at w2 b3 b4 hput hsub2 ⊢
      simp only [z1] at w2
      simp only [go_sem, Nat.reduceLT, reduceIte, reduceCtorEq, Nat.reduceEqDiff, apply_ite (Option.map (outOf _)), Nat.reduceBEq, Nat.reduceAdd, Nat.reduceSub, Nat.reduceLeDiff, Nat.reduceMul, ty_fieldOff_67_0, ty_szOf_65, ty_shapeT_65, good_61, good_68, ev_slice_str ty_descOf_65, ev_range ty_descOf_65, ev_conv_int ty_descOf_21 ty_descOf_3, good_62, good_67, keep_72_6, hr, z01, f0, f2, f3, f4, fn, fb, dn, da, e37, w2, w3, b3, b4, Int.toNat_natCast, hsub2, hput]

  · rename_i lt
    obtain ⟨o, S', e, rfl, f0, f2, f3, f4, fn, fb⟩ := hin 45 (lt.map Tok.enc)
    simp only [TS.cell, TS.live', TS.toks, scan, List.map_append, List.map_cons, List.map_nil, Tok.enc, List.nil_append] at hput ⊢
    simp only [go_sem, Nat.reduceLT, reduceIte, reduceCtorEq, Nat.reduceEqDiff, apply_ite (Option.map (outOf _)), Nat.reduceBEq, Nat.reduceAdd, Nat.reduceSub, Nat.reduceLeDiff, Nat.reduceMul, ty_fieldOff_67_0, ty_szOf_65, ty_shapeT_65, good_61, good_68, ev_slice_str ty_descOf_65, ev_range ty_descOf_65, ev_conv_int ty_descOf_21 ty_descOf_3, good_62, good_67, keep_72_6, d0, e45, hrun, w1, b1, b2, Int.toNat_natCast, hsub, z0, z1, t0, t1]
    rw [exL_head]
    simp only [go_sem, Nat.reduceLT, reduceIte, reduceCtorEq, Nat.reduceEqDiff, apply_ite (Option.map (outOf _)), Nat.reduceBEq, Nat.reduceAdd, Nat.reduceSub, Nat.reduceLeDiff, Nat.reduceMul, ty_fieldOff_67_0, ty_szOf_65, ty_shapeT_65, good_61, good_68, ev_slice_str ty_descOf_65, ev_range ty_descOf_65, ev_conv_int ty_descOf_21 ty_descOf_3, good_62, good_67, keep_72_6]
    erw [e]
    cases h37 : (Tk.at0 (s.drop k) == 37)
    · rw [h37] at e37
      rw [hu37 h37] at dn
      simp only [go_sem, Nat.reduceLT, reduceIte, reduceCtorEq, Nat.reduceEqDiff, apply_ite (Option.map (outOf _)), Nat.reduceBEq, Nat.reduceAdd, Nat.reduceSub, Nat.reduceLeDiff, Nat.reduceMul, ty_fieldOff_67_0, ty_szOf_65, ty_shapeT_65, good_61, good_68, ev_slice_str ty_descOf_65, ev_range ty_descOf_65, ev_conv_int ty_descOf_21 ty_descOf_3, good_62, good_67, keep_72_6, hr, z01, f0, f2, f3, f4, fn, fb, dn, da, e37, w2, w3, b3, b4, Int.toNat_natCast, hsub2, hput]
    · rw [h37] at e37
      rw [hu1 h37] at w2 b3 b4 hput hsub2 ⊢
      simp only [z1] at w2
      simp only [go_sem, Nat.reduceLT, reduceIte, reduceCtorEq, Nat.reduceEqDiff, apply_ite (Option.map (outOf _)), Nat.reduceBEq, Nat.reduceAdd, Nat.reduceSub, Nat.reduceLeDiff, Nat.reduceMul, ty_fieldOff_67_0, ty_szOf_65, ty_shapeT_65, good_61, good_68, ev_slice_str ty_descOf_65, ev_range ty_descOf_65, ev_conv_int ty_descOf_21 ty_descOf_3, good_62, good_67, keep_72_6, hr, z01, f0, f2, f3, f4, fn, fb, dn, da, e37, w2, w3, b3, b4, Int.toNat_natCast, hsub2, hput]

  · obtain ⟨o, S', e, rfl, f0, f2, f3, f4, fn, fb⟩ := hin 0 []
    simp only [TS.cell, TS.live', TS.toks, scan, List.map_append, List.map_cons, List.map_nil, Tok.enc, List.nil_append] at hput ⊢
    simp only [go_sem, Nat.reduceLT, reduceIte, reduceCtorEq, Nat.reduceEqDiff, apply_ite (Option.map (outOf _)), Nat.reduceBEq, Nat.reduceAdd, Nat.reduceSub, Nat.reduceLeDiff, Nat.reduceMul, ty_fieldOff_67_0, ty_szOf_65, ty_shapeT_65, good_61, good_68, ev_slice_str ty_descOf_65, ev_range ty_descOf_65, ev_conv_int ty_descOf_21 ty_descOf_3, good_62, good_67, keep_72_6, d0, e45, hrun, w1, b1, b2, Int.toNat_natCast, hsub, z0, z1, t0, t1]
    rw [exL_head]
    simp only [go_sem, Nat.reduceLT, reduceIte, reduceCtorEq, Nat.reduceEqDiff, apply_ite (Option.map (outOf _)), Nat.reduceBEq, Nat.reduceAdd, Nat.reduceSub, Nat.reduceLeDiff, Nat.reduceMul, ty_fieldOff_67_0, ty_szOf_65, ty_shapeT_65, good_61, good_68, ev_slice_str ty_descOf_65, ev_range ty_descOf_65, ev_conv_int ty_descOf_21 ty_descOf_3, good_62, good_67, keep_72_6]
    erw [e]
    cases h37 : (Tk.at0 (l.drop k) == 37)
    · rw [h37] at e37
      rw [hu37 h37] at dn
      simp only [go_sem, Nat.reduceLT, reduceIte, reduceCtorEq, Nat.reduceEqDiff, apply_ite (Option.map (outOf _)), Nat.reduceBEq, Nat.reduceAdd, Nat.reduceSub, Nat.reduceLeDiff, Nat.reduceMul, ty_fieldOff_67_0, ty_szOf_65, ty_shapeT_65, good_61, good_68, ev_slice_str ty_descOf_65, ev_range ty_descOf_65, ev_conv_int ty_descOf_21 ty_descOf_3, good_62, good_67, keep_72_6, hr, z01, f0, f2, f3, f4, fn, fb, dn, da, e37, w2, w3, b3, b4, Int.toNat_natCast, hsub2, hput]
    · rw [h37] at e37
      rw [hu1 h37] at w2 b3 b4 hput hsub2 ⊢
      simp only [z1] at w2
      simp only [go_sem, Nat.reduceLT, reduceIte, reduceCtorEq, Nat.reduceEqDiff, apply_ite (Option.map (outOf _)), Nat.reduceBEq, Nat.reduceAdd, Nat.reduceSub, Nat.reduceLeDiff, Nat.reduceMul, ty_fieldOff_67_0, ty_szOf_65, ty_shapeT_65, good_61, good_68, ev_slice_str ty_descOf_65, ev_range ty_descOf_65, ev_conv_int ty_descOf_21 ty_descOf_3, good_62, good_67, keep_72_6, hr, z01, f0, f2, f3, f4, fn, fb, dn, da, e37, w2, w3, b3, b4, Int.toNat_natCast, hsub2, hput]

  · obtain ⟨o, S', e, rfl, f0, f2, f3, f4, fn, fb⟩ := hin 0 []
    simp only [TS.cell, TS.live', TS.toks, scan, List.map_append, List.map_cons, List.map_nil, Tok.enc, List.nil_append] at hput ⊢
    simp only [go_sem, Nat.reduceLT, reduceIte, reduceCtorEq, Nat.reduceEqDiff, apply_ite (Option.map (outOf _)), Nat.reduceBEq, Nat.reduceAdd, Nat.reduceSub, Nat.reduceLeDiff, Nat.reduceMul, ty_fieldOff_67_0, ty_szOf_65, ty_shapeT_65, good_61, good_68, ev_slice_str ty_descOf_65, ev_range ty_descOf_65, ev_conv_int ty_descOf_21 ty_descOf_3, good_62, good_67, keep_72_6, d0, e45, hrun, w1, b1, b2, Int.toNat_natCast, hsub, z0, z1, t0, t1]
    rw [exL_head]
    simp only [go_sem, Nat.reduceLT, reduceIte, reduceCtorEq, Nat.reduceEqDiff, apply_ite (Option.map (outOf _)), Nat.reduceBEq, Nat.reduceAdd, Nat.reduceSub, Nat.reduceLeDiff, Nat.reduceMul, ty_fieldOff_67_0, ty_szOf_65, ty_shapeT_65, good_61, good_68, ev_slice_str ty_descOf_65, ev_range ty_descOf_65, ev_conv_int ty_descOf_21 ty_descOf_3, good_62, good_67, keep_72_6]
    erw [e]
    cases h37 : (Tk.at0 (l.drop k) == 37)
    · rw [h37] at e37
      rw [hu37 h37] at dn
      simp only [go_sem, Nat.reduceLT, reduceIte, reduceCtorEq, Nat.reduceEqDiff, apply_ite (Option.map (outOf _)), Nat.reduceBEq, Nat.reduceAdd, Nat.reduceSub, Nat.reduceLeDiff, Nat.reduceMul, ty_fieldOff_67_0, ty_szOf_65, ty_shapeT_65, good_61, good_68, ev_slice_str ty_descOf_65, ev_range ty_descOf_65, ev_conv_int ty_descOf_21 ty_descOf_3, good_62, good_67, keep_72_6, hr, z01, f0, f2, f3, f4, fn, fb, dn, da, e37, w2, w3, b3, b4, Int.toNat_natCast, hsub2, hput]
    · rw [h37] at e37
      rw [hu1 h37] at w2 b3 b4 hput hsub2 ⊢
      simp only [z1] at w2
      simp only [go_sem, Nat.reduceLT, reduceIte, reduceCtorEq, Nat.reduceEqDiff, apply_ite (Option.map (outOf _)), Nat.reduceBEq, Nat.reduceAdd, Nat.reduceSub, Nat.reduceLeDiff, Nat.reduceMul, ty_fieldOff_67_0, ty_szOf_65, ty_shapeT_65, good_61, good_68, ev_slice_str ty_descOf_65, ev_range ty_descOf_65, ev_conv_int ty_descOf_21 ty_descOf_3, good_62, good_67, keep_72_6, hr, z01, f0, f2, f3, f4, fn, fb, dn, da, e37, w2, w3, b3, b4, Int.toNat_natCast, hsub2, hput]

  · rename_i lt
    obtain ⟨o, S', e, rfl, f0, f2, f3, f4, fn, fb⟩ := hin 45 (lt.map Tok.enc)
    simp only [TS.cell, TS.live', TS.toks, scan, List.map_append, List.map_cons, List.map_nil, Tok.enc, List.nil_append] at hput ⊢
    simp only [go_sem, Nat.reduceLT, reduceIte, reduceCtorEq, Nat.reduceEqDiff, apply_ite (Option.map (outOf _)), Nat.reduceBEq, Nat.reduceAdd, Nat.reduceSub, Nat.reduceLeDiff, Nat.reduceMul, ty_fieldOff_67_0, ty_szOf_65, ty_shapeT_65, good_61, good_68, ev_slice_str ty_descOf_65, ev_range ty_descOf_65, ev_conv_int ty_descOf_21 ty_descOf_3, good_62, good_67, keep_72_6, d0, e45, hrun, w1, b1, b2, Int.toNat_natCast, hsub, z0, z1, t0, t1]
    rw [exL_head]
    simp only [go_sem, Nat.reduceLT, reduceIte, reduceCtorEq, Nat.reduceEqDiff, apply_ite (Option.map (outOf _)), Nat.reduceBEq, Nat.reduceAdd, Nat.reduceSub, Nat.reduceLeDiff, Nat.reduceMul, ty_fieldOff_67_0, ty_szOf_65, ty_shapeT_65, good_61, good_68, ev_slice_str ty_descOf_65, ev_range ty_descOf_65, ev_conv_int ty_descOf_21 ty_descOf_3, good_62, good_67, keep_72_6]
    erw [e]
    cases h37 : (Tk.at0 (l.drop k) == 37)
    · rw [h37] at e37
      rw [hu37 h37] at dn
      simp only [go_sem, Nat.reduceLT, reduceIte, reduceCtorEq, Nat.reduceEqDiff, apply_ite (Option.map (outOf _)), Nat.reduceBEq, Nat.reduceAdd, Nat.reduceSub, Nat.reduceLeDiff, Nat.reduceMul, ty_fieldOff_67_0, ty_szOf_65, ty_shapeT_65, good_61, good_68, ev_slice_str ty_descOf_65, ev_range ty_descOf_65, ev_conv_int ty_descOf_21 ty_descOf_3, good_62, good_67, keep_72_6, hr, z01, f0, f2, f3, f4, fn, fb, dn, da, e37, w2, w3, b3, b4, Int.toNat_natCast, hsub2, hput]
    · rw [h37] at e37
      rw [hu1 h37] at w2 b3 b4 hput hsub2 ⊢
      simp only [z1] at w2
      simp only [go_sem, Nat.reduceLT, reduceIte, reduceCtorEq, Nat.reduceEqDiff, apply_ite (Option.map (outOf _)), Nat.reduceBEq, Nat.reduceAdd, Nat.reduceSub, Nat.reduceLeDiff, Nat.reduceMul, ty_fieldOff_67_0, ty_szOf_65, ty_shapeT_65, good_61, good_68, ev_slice_str ty_descOf_65, ev_range ty_descOf_65, ev_conv_int ty_descOf_21 ty_descOf_3, good_62, good_67, keep_72_6, hr, z01, f0, f2, f3, f4, fn, fb, dn, da, e37, w2, w3, b3, b4, Int.toNat_natCast, hsub2, hput]
end Go.Abs
namespace Go.Abs
open Go Go.Proofs
set_option maxRecDepth 10000
attribute [local go_sem] exL_seq exL_region exL_cond exL_block exL_scope exL_ret exL_skip exL_exit runRegion runOps stepOp guardA absOp takeOver opd avOf cvOf St.degAt St.put okPV okVal okAV absBin intBin strBin boolBin setBoxes if_true Bool.false_eq_true if_false Option.map_some Option.map_none Option.bind_some Option.bind_none thenO outOf upd List.toList_toArray isOwn steal appArgs inApps AV.deg CV.deg AV.gv AV.isIter absNext some_bne List.length_nil List.length_cons List.filterMap_cons List.filterMap_nil beq_iff_eq List.getElem?_cons_zero List.getElem?_cons_succ Option.getD_some K_hook hookB Bool.false_and Bool.and_false Bool.and_self K_P K_own absCall doCall getBoxes lend back idx dedup AV.ren CV.ren TV.ren AV.ptrs CV.ptrs zipBox AV.flat CV.flat absLoad absStore cellsOfAV setAt newBox markB bldTypes absFieldAddr absField absExtract absAssert noAssert absMkIface ifcOf CV.pv? content pushHead ownT fillCells reps pvs chunks enterSt leave resOf resVars resVar outBoxes lentOnly TV.deg TV.av LK CV.plain CV.noBld nilBin absUn bound List.map_cons List.map_nil List.all_cons List.all_nil List.any_cons List.any_nil List.contains_cons List.contains_nil List.elem_cons List.elem_nil List.cons_append List.nil_append List.append_nil List.flatMap_cons List.flatMap_nil List.zip_cons_cons List.zip_nil_left List.zip_nil_right List.take_succ_cons List.take_zero List.take_nil List.drop_succ_cons List.drop_zero List.drop_nil List.isEmpty_nil List.isEmpty_cons Bool.and_true Bool.true_and Bool.or_true Bool.true_or Bool.or_false Bool.false_or Bool.not_true Bool.not_false Nat.add_zero Nat.zero_add Option.isNone_none Option.isNone_some Option.getD_none true_and and_true not_true_eq_false not_false_eq_true decide_true decide_false Nat.le_refl and_self Bool.not_eq_true Nat.sub_self or_true true_or Option.some.injEq List.length_map List.nil_eq and_false false_and AV.live CV.live CV.liveIn K_keep firstReg Option.orElse_some Option.orElse_none head keepSlots keepBoxes Int.lt_irrefl List.length_append ite_self memOK logOps opKey lentBoxes Key.clash Key.sees Key.writes Nat.lt_irrefl gt_iff_lt nobox_at bot_at false_or or_false beq_self_eq_true Bool.true_beq Bool.false_beq
theorem prefix_eq (c : UInt8) (r : List UInt8) : Lib.hasPrefix (c :: r) [47, 42] = decide (c = 47 ∧ Tk.at0 r = 42) := by
  unfold Lib.hasPrefix
  cases r with
  | nil =>
    have : ¬ (c = 47 ∧ Tk.at0 [] = 42) := fun h => absurd h.2 (by decide)
    rw [decide_eq_false this]
    simp [List.isPrefixOf]
  | cons d l =>
    rw [Bool.eq_iff_iff, decide_eq_true_eq]
    simp only [List.isPrefixOf, Bool.and_true, Bool.and_eq_true, beq_iff_eq, Tk.at0]
    exact ⟨fun h => ⟨h.1.symm, h.2.symm⟩, fun h => ⟨h.1.symm, h.2.symm⟩⟩
theorem among (l : List UInt8) (c : UInt8) : decide (0 ≤ Lib.indexByte l c) = l.contains c := by
  rw [Lib.contains_iff_indexByte]
theorem blanks_eq (c : UInt8) : decide (0 ≤ Lib.indexByte [32, 10, 9, 12, 13] c) = Tk.blank c := by
  rw [among]
  unfold Tk.blank
  simp only [List.contains_cons, List.contains_nil, Bool.or_false, Bool.or_assoc]
theorem quotes_eq (c : UInt8) : decide (0 ≤ Lib.indexByte [34, 39] c) = decide (c = 34 ∨ c = 39) := by
  rw [among]
  simp only [List.contains_cons, List.contains_nil, Bool.or_false]
  by_cases h1 : c = 34
  · simp [h1]
  · by_cases h2 : c = 39 <;> simp [h1, h2]
theorem innerI_eq (c : UInt8) (r : List UInt8) : decide (0 ≤ innerI c r) = (Tk.inner c r).isSome := by
  unfold innerI
  cases Tk.inner c r with
  | none => rfl
  | some n => simp
theorem white_den (c : UInt8) : den K 66 [U c] [] = some (.ret (B (Tk.blank c)) []) := by
  have d := indexByte_den [32, 10, 9, 12, 13] c
  have e := blanks_eq c
  refine den_run rfl rfl Tryz.func66 rfl Tryz.ntmps66 ⟨by simp, by simp [LK]⟩ ?_
  have hr : Tryz.f66.results = #[.tmp 2] := rfl
  simp only [go_sem, Nat.reduceLT, reduceIte, reduceCtorEq, Nat.reduceEqDiff, apply_ite (Option.map (outOf _)), Nat.reduceBEq, Nat.reduceAdd, Nat.reduceSub, Nat.reduceLeDiff, Nat.reduceMul, good_65, hr, d, e]
def stepTS (x : TS) : Option Tok → TS
  | none => x
  | some t => .wr (x.toks ++ [t])
set_option maxHeartbeats 16000000 in
theorem next_den (s : List UInt8) (c : UInt8) (r : List UInt8) (x : TS) (et : Nat) (ct : List (List PV)) (hx : x.cell = .own et ct) (hsr : s = c :: r) (hs : s.length < 4000000000) (hxl : x.toks.length < 4000000000) :
    den K 43 [P0] [[.pv (.str s), .own et ct]] = some (.ret (.tup []) [scan (s.drop (Tk.step c r).2) (stepTS x (Tk.step c r).1)]) := by
  have hr : Tryz.f43.results = #[] := rfl
  have a0 := at_den s 0 (by omega)
  have a1 := at_den s 1 (by omega)
  have n0 := name_den s (by omega) 0 (by omega)
  have n1 := name_den s (by omega) 1 (by rw [hsr]; simp)
  have c0 : Tk.at0 (s.drop 0) = c := by rw [hsr]; rfl
  have cs : s.drop 0 = s := rfl
  have cr : s.drop 1 = r := by rw [hsr]; rfl
  rw [c0] at a0
  rw [cs] at n0
  rw [cr] at a1 n1
  have hpre := hasPrefix_den s [47, 42]
  rw [hsr, prefix_eq, ← hsr] at hpre
  have hbl := indexByte_den [32, 10, 9, 12, 13] c
  have ebl := blanks_eq c
  have hqu := indexByte_den [34, 39] c
  have equ := quotes_eq c
  have hin := inner_den s c r x hsr hs
  have ein := innerI_eq c r
  have hrw := run_den s (by omega) Tk.within 70 good_70 rfl within_den 1 (by rw [hsr]; simp)
  rw [cr] at hrw
  have e35 : ((c.toNat : Int) == 35) = (c == 35) := u8_beq c 35
  have e64 : ((c.toNat : Int) == 64) = (c == 64) := u8_beq c 64
  have e45 : ((c.toNat : Int) == 45) = (c == 45) := u8_beq c 45
  have hdc := digit_den c
  have hdr := digit_den (Tk.at0 r)
  have hput : ∀ n kind text v, n ≤ s.length → den K 67 [P0, I (n : Nat), I kind, T text, I v] [[.pv (.str s), .own et ct]] = some (.ret (.tup []) [scan (s.drop n) (.wr (x.toks ++ [⟨kind, text, v⟩]))]) := fun n kind text v h => by
    have := put_den s x n kind text v h hxl
    simp only [scan, hx] at this
    exact this
  simp only [scan, hx] at hin
  have z0 : ((0 : Nat) : Int) = 0 := rfl
  have z1 : ((1 : Nat) : Int) = 1 := rfl
  simp only [z0, z1] at a0 a1 n0 n1 hrw
  have hlen : s.length = r.length + 1 := by rw [hsr]; rfl
  by_cases h1 : c = 47 ∧ Tk.at0 r = 42
  · have e : Tk.step c r = (none, Tk.comment r.tail) := by unfold Tk.step; rw [if_pos h1]
    have h2 : 2 ≤ s.length := by
      cases r with
      | nil => exact absurd h1.2 (by decide)
      | cons d r => simp at hlen; omega
    have hcm := comment_den s x hs h2
    have cr2 : s.drop 2 = r.tail := by rw [hsr]; cases r <;> rfl
    rw [cr2] at hcm
    simp only [scan, hx] at hcm
    rw [decide_eq_true h1] at hpre
    rw [e]
    simp only [stepTS, scan, hx]
    refine den_run rfl rfl Tryz.func43 rfl Tryz.ntmps43 ⟨by simp, by simp [LK]⟩ ?_
    simp only [go_sem, Nat.reduceLT, reduceIte, reduceCtorEq, Nat.reduceEqDiff, apply_ite (Option.map (outOf _)), Nat.reduceBEq, Nat.reduceAdd, Nat.reduceSub, Nat.reduceLeDiff, Nat.reduceMul, ty_fieldOff_67_0, ty_szOf_65, ty_shapeT_65, good_61, good_62, good_63, good_64, good_65, good_68, good_67, good_69, ev_slice_str ty_descOf_65, ev_conv_int ty_descOf_5 ty_descOf_3, good_71, good_72, hr, a0, n0, n1, hpre, hcm]
  rw [decide_eq_false h1] at hpre
  by_cases h2 : Tk.blank c = true
  · have e : Tk.step c r = (some ⟨8, [10], 0⟩, Tk.run Tk.blank s) := by unfold Tk.step; rw [if_neg h1, if_pos h2, hsr]
    have hrun := run_den s (by omega) Tk.blank 66 good_66 rfl white_den 0 (by omega)
    rw [cs, z0] at hrun
    have hp := hput (Tk.run Tk.blank s) 8 [10] 0 (Tk.run_le s)
    simp only [scan, TS.cell] at hp
    rw [h2] at ebl
    rw [e]
    simp only [stepTS, scan, TS.cell]
    refine den_run rfl rfl Tryz.func43 rfl Tryz.ntmps43 ⟨by simp, by simp [LK]⟩ ?_
    simp only [go_sem, Nat.reduceLT, reduceIte, reduceCtorEq, Nat.reduceEqDiff, apply_ite (Option.map (outOf _)), Nat.reduceBEq, Nat.reduceAdd, Nat.reduceSub, Nat.reduceLeDiff, Nat.reduceMul, ty_fieldOff_67_0, ty_szOf_65, ty_shapeT_65, good_61, good_62, good_63, good_64, good_65, good_68, good_67, good_69, ev_slice_str ty_descOf_65, ev_conv_int ty_descOf_5 ty_descOf_3, good_71, good_72, hr, a0, n0, n1, hpre, hbl, ebl, hrun, hp]
  have h2' : Tk.blank c = false := by simpa using h2
  rw [h2'] at ebl
  have t0 : Int.toNat 0 = 0 := rfl
  have t1 : Int.toNat 1 = 1 := rfl
  have hs1 : (s.take 1).drop 0 = [c] := by rw [hsr]; rfl
  have hs1' : s.take 1 = [c] := by rw [hsr]; rfl
  have b1 : ((0 : Int) ≤ 1 ∧ (1 : Int) ≤ (s.length : Int)) = True := eq_true (by omega)
  have hp1 := hput 1 7 [c] 0 (by omega)
  simp only [scan, TS.cell, z1] at hp1
  have nz : ∀ d : UInt8, c = d → Tk.within d = false → Tk.name s = 0 := fun d h hw => by
    rw [Tk.name_zero]; rw [hsr]; exact Tk.nameB_head (c := d) (by rw [Tk.at0_cons]; exact h) hw
  by_cases h3 : (c = 34 ∨ c = 39) ∧ (Tk.inner c r).isSome = true
  · obtain ⟨n, hn⟩ := Option.isSome_iff_exists.1 h3.2
    have hnl := Tk.inner_le hn
    have e : Tk.step c r = (some ⟨6, r.take n, c.toNat⟩, n + 2) := by unfold Tk.step; rw [if_neg h1, if_neg h2, if_pos h3, hn]; rfl
    rw [decide_eq_true h3.1] at equ
    unfold innerI at hin ein
    rw [hn] at hin ein
    simp only [Option.isSome_some] at hin ein
    have hsl : (s.take (1 + n)).drop 1 = r.take n := by rw [List.drop_take, cr]; congr 1; omega
    have b2 : ((0 : Int) ≤ ((1 + n : Nat) : Int) ∧ ((1 + n : Nat) : Int) ≤ (s.length : Int)) = True := eq_true (by omega)
    have b3 : ((0 : Int) ≤ 1 ∧ (1 : Int) ≤ ((1 + n : Nat) : Int)) = True := eq_true (by omega)
    have w1 : IntKind.i64.wrap ((n : Int) + 2) = ((n + 2 : Nat) : Int) := by rw [IntWalk.i64_in _ (by omega)]; rfl
    have w2 : IntKind.i64.wrap (1 + (n : Int)) = ((1 + n : Nat) : Int) := by rw [IntWalk.i64_in _ (by omega)]; omega
    have w3 : IntKind.i64.wrap (c.toNat : Int) = (c.toNat : Int) := IntWalk.i64_in _ (by have := c.toNat_lt; omega)
    have hp := hput (n + 2) 6 (r.take n) c.toNat (by omega)
    simp only [scan, TS.cell] at hp
    rw [e]
    simp only [stepTS, scan, TS.cell]
    refine den_run rfl rfl Tryz.func43 rfl Tryz.ntmps43 ⟨by simp, by simp [LK]⟩ ?_
    simp only [go_sem, Nat.reduceLT, reduceIte, reduceCtorEq, Nat.reduceEqDiff, apply_ite (Option.map (outOf _)), Nat.reduceBEq, Nat.reduceAdd, Nat.reduceSub, Nat.reduceLeDiff, Nat.reduceMul, ty_fieldOff_67_0, ty_szOf_65, ty_shapeT_65, good_61, good_62, good_63, good_64, good_65, good_68, good_67, good_69, ev_slice_str ty_descOf_65, ev_conv_int ty_descOf_5 ty_descOf_3, good_71, good_72, hr, Int.le_refl, t0, t1, z0, z1, Int.toNat_natCast, a0, n0, n1, hpre, hbl, ebl, hqu, equ, hin, ein, b2, b3, w1, w2, w3, hsl, hp]
  by_cases q : c = 34 ∨ c = 39
  · have hi : (Tk.inner c r).isSome = false := by cases hh : (Tk.inner c r).isSome; rfl; exact absurd ⟨q, hh⟩ h3
    rw [hi] at ein
    rw [decide_eq_true q] at equ
    have k35 : (c == 35) = false := by rcases q with rfl | rfl <;> decide
    have k64 : (c == 64) = false := by rcases q with rfl | rfl <;> decide
    have k45 : (c == 45) = false := by rcases q with rfl | rfl <;> decide
    have kd : Tk.digit c = false := by rcases q with rfl | rfl <;> decide
    have kn : Tk.name s = 0 := nz c rfl (by rcases q with rfl | rfl <;> decide)
    have e : Tk.step c r = (some ⟨7, [c], 0⟩, 1) := by
      unfold Tk.step
      rw [if_neg h1, if_neg h2, if_neg h3, if_neg (fun x => by simp [x.1] at k35), if_neg (fun x => by simp [x.1] at k64), if_neg (by simp [kd]), if_neg (fun x => by simp [x.1] at k45), ← hsr, if_neg (by omega)]
    rw [k35] at e35
    rw [k64] at e64
    rw [k45] at e45
    rw [kd] at hdc
    rw [kn, z0] at n0
    rw [e]
    simp only [stepTS, scan, TS.cell]
    refine den_run rfl rfl Tryz.func43 rfl Tryz.ntmps43 ⟨by simp, by simp [LK]⟩ ?_
    simp only [go_sem, Nat.reduceLT, reduceIte, reduceCtorEq, Nat.reduceEqDiff, apply_ite (Option.map (outOf _)), Nat.reduceBEq, Nat.reduceAdd, Nat.reduceSub, Nat.reduceLeDiff, Nat.reduceMul, ty_fieldOff_67_0, ty_szOf_65, ty_shapeT_65, good_61, good_62, good_63, good_64, good_65, good_68, good_67, good_69, ev_slice_str ty_descOf_65, ev_conv_int ty_descOf_5 ty_descOf_3, good_71, good_72, hr, Int.le_refl, t0, t1, z0, z1, Int.toNat_natCast, a0, n0, n1, hpre, hbl, ebl, hqu, equ, hin, ein, e35, e64, e45, hdc, hs1, b1, hp1]

  rw [decide_eq_false q] at equ
  have hrl := Tk.run_le (p := Tk.within) r
  by_cases h4 : c = 35
  · have k64 : (c == 64) = false := by rw [h4]; decide
    have k45 : (c == 45) = false := by rw [h4]; decide
    have k35 : (c == 35) = true := by rw [h4]; decide
    have kd : Tk.digit c = false := by rw [h4]; decide
    have kn : Tk.name s = 0 := nz 35 h4 (by decide)
    rw [k35] at e35
    rw [k64] at e64
    rw [k45] at e45
    rw [kd] at hdc
    by_cases hpos : 0 < Tk.run Tk.within r
    · have e : Tk.step c r = (some ⟨4, r.take (Tk.run Tk.within r), 0⟩, Tk.run Tk.within r + 1) := by unfold Tk.step; rw [if_neg h1, if_neg h2, if_neg h3, if_pos ⟨h4, hpos⟩]
      rw [e]
      have hsl : (s.take (1 + Tk.run Tk.within r)).drop 1 = r.take (Tk.run Tk.within r) := by rw [List.drop_take, cr]; congr 1; omega
      have hp := hput (1 + Tk.run Tk.within r) 4 (r.take (Tk.run Tk.within r)) 0 (by omega)
      rw [Nat.add_comm (Tk.run Tk.within r) 1]
      generalize Tk.run Tk.within r = n at hrw hrl hpos hp hsl
      have b2 : ((0 : Int) ≤ ((1 + n : Nat) : Int) ∧ ((1 + n : Nat) : Int) ≤ (s.length : Int)) = True := eq_true (by omega)
      have b3 : ((0 : Int) ≤ 1 ∧ (1 : Int) ≤ ((1 + n : Nat) : Int)) = True := eq_true (by omega)
      have w2 : IntKind.i64.wrap (1 + (n : Int)) = ((1 + n : Nat) : Int) := by rw [IntWalk.i64_in _ (by omega)]; omega
      have hg : decide ((0 : Int) < (n : Int)) = true := decide_eq_true (by omega)
      simp only [scan, TS.cell] at hp
      simp only [stepTS, scan, TS.cell]
      refine den_run rfl rfl Tryz.func43 rfl Tryz.ntmps43 ⟨by simp, by simp [LK]⟩ ?_
      simp only [go_sem, Nat.reduceLT, reduceIte, reduceCtorEq, Nat.reduceEqDiff, apply_ite (Option.map (outOf _)), Nat.reduceBEq, Nat.reduceAdd, Nat.reduceSub, Nat.reduceLeDiff, Nat.reduceMul, ty_fieldOff_67_0, ty_szOf_65, ty_shapeT_65, good_61, good_62, good_63, good_64, good_65, good_68, good_67, good_69, ev_slice_str ty_descOf_65, ev_conv_int ty_descOf_5 ty_descOf_3, good_71, good_72, hr, Int.le_refl, t0, t1, z0, z1, Int.toNat_natCast, a0, n0, n1, hpre, hbl, ebl, hqu, equ, e35, hrw, hg, b2, b3, w2, hsl, hp]
    · have e : Tk.step c r = (some ⟨7, [c], 0⟩, 1) := by
        unfold Tk.step
        rw [if_neg h1, if_neg h2, if_neg h3, if_neg (fun x => hpos x.2), if_neg (fun x => by simp [x.1] at k64), if_neg (by simp [kd]), if_neg (fun x => by simp [x.1] at k45), ← hsr, if_neg (by omega)]
      have hr0 : Tk.run Tk.within r = 0 := by omega
      rw [hr0, z0] at hrw
      rw [kn, z0] at n0
      rw [e]
      simp only [stepTS, scan, TS.cell]
      refine den_run rfl rfl Tryz.func43 rfl Tryz.ntmps43 ⟨by simp, by simp [LK]⟩ ?_
      simp only [go_sem, Nat.reduceLT, reduceIte, reduceCtorEq, Nat.reduceEqDiff, apply_ite (Option.map (outOf _)), Nat.reduceBEq, Nat.reduceAdd, Nat.reduceSub, Nat.reduceLeDiff, Nat.reduceMul, ty_fieldOff_67_0, ty_szOf_65, ty_shapeT_65, good_61, good_62, good_63, good_64, good_65, good_68, good_67, good_69, ev_slice_str ty_descOf_65, ev_conv_int ty_descOf_5 ty_descOf_3, good_71, good_72, hr, Int.le_refl, t0, t1, z0, z1, Int.toNat_natCast, a0, n0, n1, hpre, hbl, ebl, hqu, equ, e35, hrw, e64, e45, hdc, Int.lt_irrefl, hs1, b1, hp1]

  have k35 : (c == 35) = false := by simpa using h4
  rw [k35] at e35
  have hnl := Tk.name_le r
  by_cases h5 : c = 64
  · have k45 : (c == 45) = false := by rw [h5]; decide
    have k64 : (c == 64) = true := by rw [h5]; decide
    have kd : Tk.digit c = false := by rw [h5]; decide
    have kn : Tk.name s = 0 := nz 64 h5 (by decide)
    rw [k64] at e64
    rw [k45] at e45
    rw [kd] at hdc
    by_cases hpos : 0 < Tk.name r
    · have e : Tk.step c r = (some ⟨3, r.take (Tk.name r), 0⟩, Tk.name r + 1) := by unfold Tk.step; rw [if_neg h1, if_neg h2, if_neg h3, if_neg (fun x => h4 x.1), if_pos ⟨h5, hpos⟩]
      rw [e]
      have hsl : (s.take (1 + Tk.name r)).drop 1 = r.take (Tk.name r) := by rw [List.drop_take, cr]; congr 1; omega
      have hp := hput (1 + Tk.name r) 3 (r.take (Tk.name r)) 0 (by omega)
      rw [Nat.add_comm (Tk.name r) 1]
      generalize Tk.name r = n at n1 hnl hpos hp hsl
      have b2 : ((0 : Int) ≤ ((1 + n : Nat) : Int) ∧ ((1 + n : Nat) : Int) ≤ (s.length : Int)) = True := eq_true (by omega)
      have b3 : ((0 : Int) ≤ 1 ∧ (1 : Int) ≤ ((1 + n : Nat) : Int)) = True := eq_true (by omega)
      have w2 : IntKind.i64.wrap (1 + (n : Int)) = ((1 + n : Nat) : Int) := by rw [IntWalk.i64_in _ (by omega)]; omega
      have hg : decide ((0 : Int) < (n : Int)) = true := decide_eq_true (by omega)
      simp only [scan, TS.cell] at hp
      simp only [stepTS, scan, TS.cell]
      refine den_run rfl rfl Tryz.func43 rfl Tryz.ntmps43 ⟨by simp, by simp [LK]⟩ ?_
      simp only [go_sem, Nat.reduceLT, reduceIte, reduceCtorEq, Nat.reduceEqDiff, apply_ite (Option.map (outOf _)), Nat.reduceBEq, Nat.reduceAdd, Nat.reduceSub, Nat.reduceLeDiff, Nat.reduceMul, ty_fieldOff_67_0, ty_szOf_65, ty_shapeT_65, good_61, good_62, good_63, good_64, good_65, good_68, good_67, good_69, ev_slice_str ty_descOf_65, ev_conv_int ty_descOf_5 ty_descOf_3, good_71, good_72, hr, Int.le_refl, t0, t1, z0, z1, Int.toNat_natCast, a0, n0, n1, hpre, hbl, ebl, hqu, equ, e35, e64, hg, b2, b3, w2, hsl, hp]
    · have e : Tk.step c r = (some ⟨7, [c], 0⟩, 1) := by
        unfold Tk.step
        rw [if_neg h1, if_neg h2, if_neg h3, if_neg (fun x => h4 x.1), if_neg (fun x => hpos x.2), if_neg (by simp [kd]), if_neg (fun x => by simp [x.1] at k45), ← hsr, if_neg (by omega)]
      have hr0 : Tk.name r = 0 := by omega
      rw [hr0, z0] at n1
      rw [kn, z0] at n0
      rw [e]
      simp only [stepTS, scan, TS.cell]
      refine den_run rfl rfl Tryz.func43 rfl Tryz.ntmps43 ⟨by simp, by simp [LK]⟩ ?_
      simp only [go_sem, Nat.reduceLT, reduceIte, reduceCtorEq, Nat.reduceEqDiff, apply_ite (Option.map (outOf _)), Nat.reduceBEq, Nat.reduceAdd, Nat.reduceSub, Nat.reduceLeDiff, Nat.reduceMul, ty_fieldOff_67_0, ty_szOf_65, ty_shapeT_65, good_61, good_62, good_63, good_64, good_65, good_68, good_67, good_69, ev_slice_str ty_descOf_65, ev_conv_int ty_descOf_5 ty_descOf_3, good_71, good_72, hr, Int.le_refl, t0, t1, z0, z1, Int.toNat_natCast, a0, n0, n1, hpre, hbl, ebl, hqu, equ, e35, e64, e45, hdc, Int.lt_irrefl, hs1, b1, hp1]

  have k64 : (c == 64) = false := by simpa using h5
  rw [k64] at e64
  by_cases h6 : Tk.digit c = true
  · have e : Tk.step c r = (some (Tk.number false (c :: r)).1, (Tk.number false (c :: r)).2) := Tk.step_number h6
    have k45 : (Tk.at0 s == 45) = false := by rw [hsr, Tk.at0_cons]; simpa using Tk.digit_ne h6 (d := 45) (by decide)
    have hnm := number_den s x false 0 s rfl cs (by omega) k45 hs hxl
    rw [Nat.zero_add] at hnm
    rw [h6] at hdc
    rw [e, ← hsr]
    simp only [scan, hx] at hnm
    simp only [stepTS, scan, TS.cell] at hnm ⊢
    refine den_run rfl rfl Tryz.func43 rfl Tryz.ntmps43 ⟨by simp, by simp [LK]⟩ ?_
    simp only [go_sem, Nat.reduceLT, reduceIte, reduceCtorEq, Nat.reduceEqDiff, apply_ite (Option.map (outOf _)), Nat.reduceBEq, Nat.reduceAdd, Nat.reduceSub, Nat.reduceLeDiff, Nat.reduceMul, ty_fieldOff_67_0, ty_szOf_65, ty_shapeT_65, good_61, good_62, good_63, good_64, good_65, good_68, good_67, good_69, ev_slice_str ty_descOf_65, ev_conv_int ty_descOf_5 ty_descOf_3, good_71, good_72, hr, Int.le_refl, t0, t1, z0, z1, Int.toNat_natCast, a0, n0, n1, hpre, hbl, ebl, hqu, equ, e35, e64, hdc, hnm]
  have kd : Tk.digit c = false := by simpa using h6
  rw [kd] at hdc
  by_cases h7 : c = 45 ∧ Tk.digit (Tk.at0 r) = true
  · have e : Tk.step c r = (some (Tk.number true r).1, (Tk.number true r).2 + 1) := by rw [h7.1]; exact Tk.step_minus h7.2
    have k45 : (Tk.at0 s == 45) = true := by rw [hsr, Tk.at0_cons, h7.1]; rfl
    have hnm := number_den s x true 1 r rfl cr (by omega) k45 hs hxl
    have k45' : (c == 45) = true := by rw [h7.1]; rfl
    rw [k45'] at e45
    rw [h7.2] at hdr
    rw [e, Nat.add_comm _ 1]
    simp only [scan, hx] at hnm
    simp only [stepTS, scan, TS.cell] at hnm ⊢
    refine den_run rfl rfl Tryz.func43 rfl Tryz.ntmps43 ⟨by simp, by simp [LK]⟩ ?_
    simp only [go_sem, Nat.reduceLT, reduceIte, reduceCtorEq, Nat.reduceEqDiff, apply_ite (Option.map (outOf _)), Nat.reduceBEq, Nat.reduceAdd, Nat.reduceSub, Nat.reduceLeDiff, Nat.reduceMul, ty_fieldOff_67_0, ty_szOf_65, ty_shapeT_65, good_61, good_62, good_63, good_64, good_65, good_68, good_67, good_69, ev_slice_str ty_descOf_65, ev_conv_int ty_descOf_5 ty_descOf_3, good_71, good_72, hr, Int.le_refl, t0, t1, z0, z1, Int.toNat_natCast, a0, n0, n1, hpre, hbl, ebl, hqu, equ, e35, e64, hdc, e45, a1, hdr, hnm]
  have e0 : Tk.step c r = if 0 < Tk.name s then if Tk.at0 (s.drop (Tk.name s)) = 40 then (some ⟨2, s.take (Tk.name s), 0⟩, Tk.name s + 1) else (some ⟨1, s.take (Tk.name s), 0⟩, Tk.name s) else (some ⟨7, [c], 0⟩, 1) := by
    unfold Tk.step
    rw [if_neg h1, if_neg h2, if_neg h3, if_neg (fun x => h4 x.1), if_neg (fun x => h5 x.1), if_neg h6, if_neg h7, ← hsr]
  have hnle := Tk.name_le s
  have an := at_den s (Tk.name s) (by omega)
  have e40 : (((Tk.at0 (s.drop (Tk.name s))).toNat : Int) == 40) = (Tk.at0 (s.drop (Tk.name s)) == 40) := u8_beq _ 40
  by_cases hpos : 0 < Tk.name s
  · rw [if_pos hpos] at e0
    have hg : decide ((0 : Int) < ((Tk.name s : Nat) : Int)) = true := decide_eq_true (by omega)
    have hsl : (s.take (Tk.name s)).drop 0 = s.take (Tk.name s) := rfl
    have b2 : ((0 : Int) ≤ ((Tk.name s : Nat) : Int) ∧ ((Tk.name s : Nat) : Int) ≤ (s.length : Int)) = True := eq_true (by omega)
    by_cases h40 : Tk.at0 (s.drop (Tk.name s)) = 40
    · have k40 : (Tk.at0 (s.drop (Tk.name s)) == 40) = true := by simpa using h40
      have hlt : Tk.name s ≠ s.length := fun x => by rw [x, List.drop_length] at h40; exact absurd h40 (by decide)
      rw [if_pos h40] at e0
      have hp := hput (Tk.name s + 1) 2 (s.take (Tk.name s)) 0 (by omega)
      rw [k40] at e40
      rw [e0]
      generalize Tk.name s = n at n0 an e40 hg b2 hp hnle hlt
      have w1 : IntKind.i64.wrap ((n : Int) + 1) = ((n + 1 : Nat) : Int) := wrap_nat n (by omega)
      simp only [scan, TS.cell] at hp
      simp only [stepTS, scan, TS.cell]
      cases k45 : (c == 45)
      · rw [k45] at e45
        refine den_run rfl rfl Tryz.func43 rfl Tryz.ntmps43 ⟨by simp, by simp [LK]⟩ ?_
        simp only [go_sem, Nat.reduceLT, reduceIte, reduceCtorEq, Nat.reduceEqDiff, apply_ite (Option.map (outOf _)), Nat.reduceBEq, Nat.reduceAdd, Nat.reduceSub, Nat.reduceLeDiff, Nat.reduceMul, ty_fieldOff_67_0, ty_szOf_65, ty_shapeT_65, good_61, good_62, good_63, good_64, good_65, good_68, good_67, good_69, ev_slice_str ty_descOf_65, ev_conv_int ty_descOf_5 ty_descOf_3, good_71, good_72, hr, Int.le_refl, t0, t1, z0, z1, Int.toNat_natCast, a0, n0, n1, hpre, hbl, ebl, hqu, equ, e35, e64, hdc, e45, hg, an, e40, b2, w1, hp]
      · rw [k45] at e45
        have kr : Tk.digit (Tk.at0 r) = false := by
          cases hh : Tk.digit (Tk.at0 r)
          · rfl
          · exact absurd ⟨by simpa using k45, hh⟩ h7
        rw [kr] at hdr
        refine den_run rfl rfl Tryz.func43 rfl Tryz.ntmps43 ⟨by simp, by simp [LK]⟩ ?_
        simp only [go_sem, Nat.reduceLT, reduceIte, reduceCtorEq, Nat.reduceEqDiff, apply_ite (Option.map (outOf _)), Nat.reduceBEq, Nat.reduceAdd, Nat.reduceSub, Nat.reduceLeDiff, Nat.reduceMul, ty_fieldOff_67_0, ty_szOf_65, ty_shapeT_65, good_61, good_62, good_63, good_64, good_65, good_68, good_67, good_69, ev_slice_str ty_descOf_65, ev_conv_int ty_descOf_5 ty_descOf_3, good_71, good_72, hr, Int.le_refl, t0, t1, z0, z1, Int.toNat_natCast, a0, n0, n1, hpre, hbl, ebl, hqu, equ, e35, e64, hdc, e45, a1, hdr, hg, an, e40, b2, w1, hp]
    · have k40 : (Tk.at0 (s.drop (Tk.name s)) == 40) = false := by simpa using h40
      rw [if_neg h40] at e0
      have hp := hput (Tk.name s) 1 (s.take (Tk.name s)) 0 (by omega)
      rw [k40] at e40
      rw [e0]
      generalize Tk.name s = n at n0 an e40 hg b2 hp hnle
      simp only [scan, TS.cell] at hp
      simp only [stepTS, scan, TS.cell]
      cases k45 : (c == 45)
      · rw [k45] at e45
        refine den_run rfl rfl Tryz.func43 rfl Tryz.ntmps43 ⟨by simp, by simp [LK]⟩ ?_
        simp only [go_sem, Nat.reduceLT, reduceIte, reduceCtorEq, Nat.reduceEqDiff, apply_ite (Option.map (outOf _)), Nat.reduceBEq, Nat.reduceAdd, Nat.reduceSub, Nat.reduceLeDiff, Nat.reduceMul, ty_fieldOff_67_0, ty_szOf_65, ty_shapeT_65, good_61, good_62, good_63, good_64, good_65, good_68, good_67, good_69, ev_slice_str ty_descOf_65, ev_conv_int ty_descOf_5 ty_descOf_3, good_71, good_72, hr, Int.le_refl, t0, t1, z0, z1, Int.toNat_natCast, a0, n0, n1, hpre, hbl, ebl, hqu, equ, e35, e64, hdc, e45, hg, an, e40, b2, hp]
      · rw [k45] at e45
        have kr : Tk.digit (Tk.at0 r) = false := by
          cases hh : Tk.digit (Tk.at0 r)
          · rfl
          · exact absurd ⟨by simpa using k45, hh⟩ h7
        rw [kr] at hdr
        refine den_run rfl rfl Tryz.func43 rfl Tryz.ntmps43 ⟨by simp, by simp [LK]⟩ ?_
        simp only [go_sem, Nat.reduceLT, reduceIte, reduceCtorEq, Nat.reduceEqDiff, apply_ite (Option.map (outOf _)), Nat.reduceBEq, Nat.reduceAdd, Nat.reduceSub, Nat.reduceLeDiff, Nat.reduceMul, ty_fieldOff_67_0, ty_szOf_65, ty_shapeT_65, good_61, good_62, good_63, good_64, good_65, good_68, good_67, good_69, ev_slice_str ty_descOf_65, ev_conv_int ty_descOf_5 ty_descOf_3, good_71, good_72, hr, Int.le_refl, t0, t1, z0, z1, Int.toNat_natCast, a0, n0, n1, hpre, hbl, ebl, hqu, equ, e35, e64, hdc, e45, a1, hdr, hg, an, e40, b2, hp]
  · rw [if_neg hpos] at e0
    have hr0 : Tk.name s = 0 := by omega
    rw [hr0, z0] at n0
    rw [e0]
    simp only [stepTS, scan, TS.cell]
    cases k45 : (c == 45)
    · rw [k45] at e45
      refine den_run rfl rfl Tryz.func43 rfl Tryz.ntmps43 ⟨by simp, by simp [LK]⟩ ?_
      simp only [go_sem, Nat.reduceLT, reduceIte, reduceCtorEq, Nat.reduceEqDiff, apply_ite (Option.map (outOf _)), Nat.reduceBEq, Nat.reduceAdd, Nat.reduceSub, Nat.reduceLeDiff, Nat.reduceMul, ty_fieldOff_67_0, ty_szOf_65, ty_shapeT_65, good_61, good_62, good_63, good_64, good_65, good_68, good_67, good_69, ev_slice_str ty_descOf_65, ev_conv_int ty_descOf_5 ty_descOf_3, good_71, good_72, hr, Int.le_refl, t0, t1, z0, z1, Int.toNat_natCast, a0, n0, n1, hpre, hbl, ebl, hqu, equ, e35, e64, hdc, e45, hs1, b1, hp1]
    · rw [k45] at e45
      have kr : Tk.digit (Tk.at0 r) = false := by
        cases hh : Tk.digit (Tk.at0 r)
        · rfl
        · exact absurd ⟨by simpa using k45, hh⟩ h7
      rw [kr] at hdr
      refine den_run rfl rfl Tryz.func43 rfl Tryz.ntmps43 ⟨by simp, by simp [LK]⟩ ?_
      simp only [go_sem, Nat.reduceLT, reduceIte, reduceCtorEq, Nat.reduceEqDiff, apply_ite (Option.map (outOf _)), Nat.reduceBEq, Nat.reduceAdd, Nat.reduceSub, Nat.reduceLeDiff, Nat.reduceMul, ty_fieldOff_67_0, ty_szOf_65, ty_shapeT_65, good_61, good_62, good_63, good_64, good_65, good_68, good_67, good_69, ev_slice_str ty_descOf_65, ev_conv_int ty_descOf_5 ty_descOf_3, good_71, good_72, hr, Int.le_refl, t0, t1, z0, z1, Int.toNat_natCast, a0, n0, n1, hpre, hbl, ebl, hqu, equ, e35, e64, hdc, e45, a1, hdr, hs1, b1, hp1]
end Go.Abs
namespace Go.Abs
open Go Go.Proofs
set_option maxRecDepth 10000
theorem step_own {x : TS} {et : Nat} {ct : List (List PV)} (hx : x.cell = .own et ct) (o : Option Tok) : ∃ et' ct', (stepTS x o).cell = .own et' ct' ∧ (stepTS x o).toks = x.toks ++ o.toList := by
  cases o with
  | none => exact ⟨et, ct, hx, by simp [stepTS]⟩
  | some t => exact ⟨_, _, rfl, rfl⟩
theorem own_toks {x : TS} {et : Nat} {ct : List (List PV)} (hx : x.cell = .own et ct) : ct = x.toks.map Tok.enc := by
  cases x with
  | nils => cases hx
  | live => cases hx; rfl
  | wr l => cases hx; rfl
abbrev allH (s : List UInt8) (et : Nat) (ct : List (List PV)) : St := { sl := upd bot 3 (.c (.loc 6 0)), bx := upd nobox 6 (some [.pv (.str s), .own et ct]), nt := 19 }
theorem all_loop : ∀ (s : List UInt8), s.length < 4000000000 → ∀ (x : TS) (et : Nat) (ct : List (List PV)), x.cell = .own et ct → x.toks.length + s.length < 4000000000 →
    Ends (exL K 25 (.loop (loopAt Tryz.f25 2)) (allH s et ct)) fun o S => o = .exit 0 ∧ S.nt = 19 ∧ S.sl 3 = .c (.loc 6 0) ∧ ∃ et', S.bx 6 = some [.pv (.str []), .own et' ((x.toks ++ Tk.all s).map Tok.enc)] := by
  refine Tk.all_ind (Q := fun s => s.length < 4000000000 → ∀ (x : TS) (et : Nat) (ct : List (List PV)), x.cell = .own et ct → x.toks.length + s.length < 4000000000 →
    Ends (exL K 25 (.loop (loopAt Tryz.f25 2)) (allH s et ct)) fun o S => o = .exit 0 ∧ S.nt = 19 ∧ S.sl 3 = .c (.loc 6 0) ∧ ∃ et', S.bx 6 = some [.pv (.str []), .own et' ((x.toks ++ Tk.all s).map Tok.enc)]) ?_ ?_
  · intro _ x et ct hx _
    have hct := own_toks hx
    have hlt : decide ((0 : Int) < ((0 : Nat) : Int)) = false := by decide
    rw [Tk.all_nil, List.append_nil, ← hct]
    conv in loopAt _ _ => whnf
    rw [exL_loop]
    simp only [exL_seq, exL_region, exL_cond, exL_block, exL_scope, exL_ret, exL_skip, exL_exit, runRegion, runOps, stepOp, guardA, absOp, takeOver, opd, avOf, cvOf, St.degAt, St.put, okPV, okVal, okAV, absBin, intBin, strBin, boolBin, setBoxes, if_true, Bool.false_eq_true, if_false, Option.map_some, Option.map_none, Option.bind_some, Option.bind_none, thenO, outOf, upd, List.toList_toArray, isOwn, steal, appArgs, inApps, AV.deg, CV.deg, AV.gv, AV.isIter, absNext, some_bne, Nat.reduceLT, reduceIte, reduceCtorEq, Nat.reduceEqDiff, List.length_nil, List.length_cons, apply_ite (Option.map (outOf _)), List.filterMap_cons, List.filterMap_nil, beq_iff_eq, List.getElem?_cons_zero, List.getElem?_cons_succ, Option.getD_some, K_hook, hookB, Nat.reduceBEq, Bool.false_and, Bool.and_false, Bool.and_self, K_P, K_own, absCall, doCall, getBoxes, lend, back, idx, dedup, AV.ren, CV.ren, TV.ren, AV.ptrs, CV.ptrs, zipBox, AV.flat, CV.flat, absLoad, absStore, cellsOfAV, setAt, newBox, markB, bldTypes, absFieldAddr, absField, absExtract, absAssert, noAssert, absMkIface, ifcOf, CV.pv?, content, pushHead, ownT, fillCells, reps, pvs, chunks, enterSt, leave, resOf, resVars, resVar, outBoxes, lentOnly, TV.deg, TV.av, LK, CV.plain, CV.noBld, nilBin, absUn, bound, List.map_cons, List.map_nil, List.all_cons, List.all_nil, List.any_cons, List.any_nil, List.contains_cons, List.contains_nil, List.elem_cons, List.elem_nil, List.cons_append, List.nil_append, List.append_nil, List.flatMap_cons, List.flatMap_nil, List.zip_cons_cons, List.zip_nil_left, List.zip_nil_right, List.take_succ_cons, List.take_zero, List.take_nil, List.drop_succ_cons, List.drop_zero, List.drop_nil, List.isEmpty_nil, List.isEmpty_cons, Bool.and_true, Bool.true_and, Bool.or_true, Bool.true_or, Bool.or_false, Bool.false_or, Bool.not_true, Bool.not_false, Nat.reduceAdd, Nat.reduceSub, Nat.reduceLeDiff, Nat.add_zero, Nat.zero_add, Nat.reduceMul, Option.isNone_none, Option.isNone_some, Option.getD_none, true_and, and_true, not_true_eq_false, not_false_eq_true, decide_true, decide_false, List.toList_toArray, Nat.le_refl, and_self, Bool.not_eq_true, Nat.sub_self, or_true, true_or, Option.some.injEq, List.length_map, List.nil_eq, and_false, false_and, AV.live, CV.live, CV.liveIn, K_keep, firstReg, Option.orElse_some, Option.orElse_none, head, keepSlots, keepBoxes, Int.lt_irrefl, List.length_append, ite_self, memOK, logOps, opKey, lentBoxes, Key.clash, Key.sees, Key.writes, Nat.lt_irrefl, gt_iff_lt, nobox_at, bot_at, false_or, or_false, beq_self_eq_true, Bool.true_beq, Bool.false_beq, ev_build ty_zeroCells_67 ty_placesOf_67, ty_fieldOff_67_0, ty_szOf_65, ty_shapeT_65, ev_len_str ty_descOf_65, good_43, ty_fieldOff_67_1, ty_szOf_41, ty_shapeT_41, keep_25_2, ends_some, hlt]
    exact ⟨_, rfl⟩
  · intro c r ih hs x et ct hx hl
    have hp := Tk.step_pos c r
    have hle := Tk.step_le c r
    have hn := next_den (c :: r) c r x et ct hx rfl hs (by omega)
    obtain ⟨et2, ct2, h2, h3⟩ := step_own hx (Tk.step c r).1
    have ho : ((Tk.step c r).1.toList).length ≤ 1 := by cases (Tk.step c r).1 <;> simp
    have ih' := ih (by rw [List.length_drop]; omega) (stepTS x (Tk.step c r).1) et2 ct2 h2 (by rw [h3, List.length_append, List.length_drop]; omega)
    rw [h3, List.append_assoc, ← Tk.all_cons] at ih'
    have hlt : decide ((0 : Int) < ((c :: r).length : Int)) = true := decide_eq_true (by simp only [List.length_cons]; omega)
    simp only [scan, h2] at hn
    generalize c :: r = s at hn ih' hlt
    conv at ih' in loopAt _ _ => whnf
    conv in loopAt _ _ => whnf
    rw [exL_loop]
    simp only [exL_seq, exL_region, exL_cond, exL_block, exL_scope, exL_ret, exL_skip, exL_exit, runRegion, runOps, stepOp, guardA, absOp, takeOver, opd, avOf, cvOf, St.degAt, St.put, okPV, okVal, okAV, absBin, intBin, strBin, boolBin, setBoxes, if_true, Bool.false_eq_true, if_false, Option.map_some, Option.map_none, Option.bind_some, Option.bind_none, thenO, outOf, upd, List.toList_toArray, isOwn, steal, appArgs, inApps, AV.deg, CV.deg, AV.gv, AV.isIter, absNext, some_bne, Nat.reduceLT, reduceIte, reduceCtorEq, Nat.reduceEqDiff, List.length_nil, List.length_cons, apply_ite (Option.map (outOf _)), List.filterMap_cons, List.filterMap_nil, beq_iff_eq, List.getElem?_cons_zero, List.getElem?_cons_succ, Option.getD_some, K_hook, hookB, Nat.reduceBEq, Bool.false_and, Bool.and_false, Bool.and_self, K_P, K_own, absCall, doCall, getBoxes, lend, back, idx, dedup, AV.ren, CV.ren, TV.ren, AV.ptrs, CV.ptrs, zipBox, AV.flat, CV.flat, absLoad, absStore, cellsOfAV, setAt, newBox, markB, bldTypes, absFieldAddr, absField, absExtract, absAssert, noAssert, absMkIface, ifcOf, CV.pv?, content, pushHead, ownT, fillCells, reps, pvs, chunks, enterSt, leave, resOf, resVars, resVar, outBoxes, lentOnly, TV.deg, TV.av, LK, CV.plain, CV.noBld, nilBin, absUn, bound, List.map_cons, List.map_nil, List.all_cons, List.all_nil, List.any_cons, List.any_nil, List.contains_cons, List.contains_nil, List.elem_cons, List.elem_nil, List.cons_append, List.nil_append, List.append_nil, List.flatMap_cons, List.flatMap_nil, List.zip_cons_cons, List.zip_nil_left, List.zip_nil_right, List.take_succ_cons, List.take_zero, List.take_nil, List.drop_succ_cons, List.drop_zero, List.drop_nil, List.isEmpty_nil, List.isEmpty_cons, Bool.and_true, Bool.true_and, Bool.or_true, Bool.true_or, Bool.or_false, Bool.false_or, Bool.not_true, Bool.not_false, Nat.reduceAdd, Nat.reduceSub, Nat.reduceLeDiff, Nat.add_zero, Nat.zero_add, Nat.reduceMul, Option.isNone_none, Option.isNone_some, Option.getD_none, true_and, and_true, not_true_eq_false, not_false_eq_true, decide_true, decide_false, List.toList_toArray, Nat.le_refl, and_self, Bool.not_eq_true, Nat.sub_self, or_true, true_or, Option.some.injEq, List.length_map, List.nil_eq, and_false, false_and, AV.live, CV.live, CV.liveIn, K_keep, firstReg, Option.orElse_some, Option.orElse_none, head, keepSlots, keepBoxes, Int.lt_irrefl, List.length_append, ite_self, memOK, logOps, opKey, lentBoxes, Key.clash, Key.sees, Key.writes, Nat.lt_irrefl, gt_iff_lt, nobox_at, bot_at, false_or, or_false, beq_self_eq_true, Bool.true_beq, Bool.false_beq, ev_build ty_zeroCells_67 ty_placesOf_67, ty_fieldOff_67_0, ty_szOf_65, ty_shapeT_65, ev_len_str ty_descOf_65, good_43, ty_fieldOff_67_1, ty_szOf_41, ty_shapeT_41, keep_25_2, hlt, hn]
    rw [exL_head]
    simp only [exL_seq, exL_region, exL_cond, exL_block, exL_scope, exL_ret, exL_skip, exL_exit, runRegion, runOps, stepOp, guardA, absOp, takeOver, opd, avOf, cvOf, St.degAt, St.put, okPV, okVal, okAV, absBin, intBin, strBin, boolBin, setBoxes, if_true, Bool.false_eq_true, if_false, Option.map_some, Option.map_none, Option.bind_some, Option.bind_none, thenO, outOf, upd, List.toList_toArray, isOwn, steal, appArgs, inApps, AV.deg, CV.deg, AV.gv, AV.isIter, absNext, some_bne, Nat.reduceLT, reduceIte, reduceCtorEq, Nat.reduceEqDiff, List.length_nil, List.length_cons, apply_ite (Option.map (outOf _)), List.filterMap_cons, List.filterMap_nil, beq_iff_eq, List.getElem?_cons_zero, List.getElem?_cons_succ, Option.getD_some, K_hook, hookB, Nat.reduceBEq, Bool.false_and, Bool.and_false, Bool.and_self, K_P, K_own, absCall, doCall, getBoxes, lend, back, idx, dedup, AV.ren, CV.ren, TV.ren, AV.ptrs, CV.ptrs, zipBox, AV.flat, CV.flat, absLoad, absStore, cellsOfAV, setAt, newBox, markB, bldTypes, absFieldAddr, absField, absExtract, absAssert, noAssert, absMkIface, ifcOf, CV.pv?, content, pushHead, ownT, fillCells, reps, pvs, chunks, enterSt, leave, resOf, resVars, resVar, outBoxes, lentOnly, TV.deg, TV.av, LK, CV.plain, CV.noBld, nilBin, absUn, bound, List.map_cons, List.map_nil, List.all_cons, List.all_nil, List.any_cons, List.any_nil, List.contains_cons, List.contains_nil, List.elem_cons, List.elem_nil, List.cons_append, List.nil_append, List.append_nil, List.flatMap_cons, List.flatMap_nil, List.zip_cons_cons, List.zip_nil_left, List.zip_nil_right, List.take_succ_cons, List.take_zero, List.take_nil, List.drop_succ_cons, List.drop_zero, List.drop_nil, List.isEmpty_nil, List.isEmpty_cons, Bool.and_true, Bool.true_and, Bool.or_true, Bool.true_or, Bool.or_false, Bool.false_or, Bool.not_true, Bool.not_false, Nat.reduceAdd, Nat.reduceSub, Nat.reduceLeDiff, Nat.add_zero, Nat.zero_add, Nat.reduceMul, Option.isNone_none, Option.isNone_some, Option.getD_none, true_and, and_true, not_true_eq_false, not_false_eq_true, decide_true, decide_false, List.toList_toArray, Nat.le_refl, and_self, Bool.not_eq_true, Nat.sub_self, or_true, true_or, Option.some.injEq, List.length_map, List.nil_eq, and_false, false_and, AV.live, CV.live, CV.liveIn, K_keep, firstReg, Option.orElse_some, Option.orElse_none, head, keepSlots, keepBoxes, Int.lt_irrefl, List.length_append, ite_self, memOK, logOps, opKey, lentBoxes, Key.clash, Key.sees, Key.writes, Nat.lt_irrefl, gt_iff_lt, nobox_at, bot_at, false_or, or_false, beq_self_eq_true, Bool.true_beq, Bool.false_beq, ev_build ty_zeroCells_67 ty_placesOf_67, ty_fieldOff_67_0, ty_szOf_65, ty_shapeT_65, ev_len_str ty_descOf_65, good_43, ty_fieldOff_67_1, ty_szOf_41, ty_shapeT_41, keep_25_2]
    exact ih'
theorem All_den (s : List UInt8) (hs : s.length < 4000000000) : den K 25 [T s] [] = some (.ret (L ((Tk.all s).map Tok.enc)) []) := by
  refine den_run rfl rfl Tryz.func25 rfl Tryz.ntmps25 ⟨by simp, by simp [LK]⟩ ?_
  have hr : Tryz.f25.results = #[.tmp 2] := rfl
  have hl := all_loop s hs .live 0 [] rfl (by simp [TS.toks]; omega)
  conv at hl in loopAt _ _ => whnf
  obtain ⟨o, S', e2, rfl, hn, h3, et', hb⟩ := hl
  simp only [TS.toks, List.nil_append] at hb
  simp only [exL_seq, exL_region, exL_cond, exL_block, exL_scope, exL_ret, exL_skip, exL_exit, runRegion, runOps, stepOp, guardA, absOp, takeOver, opd, avOf, cvOf, St.degAt, St.put, okPV, okVal, okAV, absBin, intBin, strBin, boolBin, setBoxes, if_true, Bool.false_eq_true, if_false, Option.map_some, Option.map_none, Option.bind_some, Option.bind_none, thenO, outOf, upd, List.toList_toArray, isOwn, steal, appArgs, inApps, AV.deg, CV.deg, AV.gv, AV.isIter, absNext, some_bne, Nat.reduceLT, reduceIte, reduceCtorEq, Nat.reduceEqDiff, List.length_nil, List.length_cons, apply_ite (Option.map (outOf _)), List.filterMap_cons, List.filterMap_nil, beq_iff_eq, List.getElem?_cons_zero, List.getElem?_cons_succ, Option.getD_some, K_hook, hookB, Nat.reduceBEq, Bool.false_and, Bool.and_false, Bool.and_self, K_P, K_own, absCall, doCall, getBoxes, lend, back, idx, dedup, AV.ren, CV.ren, TV.ren, AV.ptrs, CV.ptrs, zipBox, AV.flat, CV.flat, absLoad, absStore, cellsOfAV, setAt, newBox, markB, bldTypes, absFieldAddr, absField, absExtract, absAssert, noAssert, absMkIface, ifcOf, CV.pv?, content, pushHead, ownT, fillCells, reps, pvs, chunks, enterSt, leave, resOf, resVars, resVar, outBoxes, lentOnly, TV.deg, TV.av, LK, CV.plain, CV.noBld, nilBin, absUn, bound, List.map_cons, List.map_nil, List.all_cons, List.all_nil, List.any_cons, List.any_nil, List.contains_cons, List.contains_nil, List.elem_cons, List.elem_nil, List.cons_append, List.nil_append, List.append_nil, List.flatMap_cons, List.flatMap_nil, List.zip_cons_cons, List.zip_nil_left, List.zip_nil_right, List.take_succ_cons, List.take_zero, List.take_nil, List.drop_succ_cons, List.drop_zero, List.drop_nil, List.isEmpty_nil, List.isEmpty_cons, Bool.and_true, Bool.true_and, Bool.or_true, Bool.true_or, Bool.or_false, Bool.false_or, Bool.not_true, Bool.not_false, Nat.reduceAdd, Nat.reduceSub, Nat.reduceLeDiff, Nat.add_zero, Nat.zero_add, Nat.reduceMul, Option.isNone_none, Option.isNone_some, Option.getD_none, true_and, and_true, not_true_eq_false, not_false_eq_true, decide_true, decide_false, List.toList_toArray, Nat.le_refl, and_self, Bool.not_eq_true, Nat.sub_self, or_true, true_or, Option.some.injEq, List.length_map, List.nil_eq, and_false, false_and, AV.live, CV.live, CV.liveIn, K_keep, firstReg, Option.orElse_some, Option.orElse_none, head, keepSlots, keepBoxes, Int.lt_irrefl, List.length_append, ite_self, memOK, logOps, opKey, lentBoxes, Key.clash, Key.sees, Key.writes, Nat.lt_irrefl, gt_iff_lt, nobox_at, bot_at, false_or, or_false, beq_self_eq_true, Bool.true_beq, Bool.false_beq, ev_build ty_zeroCells_67 ty_placesOf_67, ty_fieldOff_67_0, ty_szOf_65, ty_shapeT_65, ev_len_str ty_descOf_65, good_43, ty_fieldOff_67_1, ty_szOf_41, ty_shapeT_41, keep_25_2]
  rw [exL_head]
  simp only [exL_seq, exL_region, exL_cond, exL_block, exL_scope, exL_ret, exL_skip, exL_exit, runRegion, runOps, stepOp, guardA, absOp, takeOver, opd, avOf, cvOf, St.degAt, St.put, okPV, okVal, okAV, absBin, intBin, strBin, boolBin, setBoxes, if_true, Bool.false_eq_true, if_false, Option.map_some, Option.map_none, Option.bind_some, Option.bind_none, thenO, outOf, upd, List.toList_toArray, isOwn, steal, appArgs, inApps, AV.deg, CV.deg, AV.gv, AV.isIter, absNext, some_bne, Nat.reduceLT, reduceIte, reduceCtorEq, Nat.reduceEqDiff, List.length_nil, List.length_cons, apply_ite (Option.map (outOf _)), List.filterMap_cons, List.filterMap_nil, beq_iff_eq, List.getElem?_cons_zero, List.getElem?_cons_succ, Option.getD_some, K_hook, hookB, Nat.reduceBEq, Bool.false_and, Bool.and_false, Bool.and_self, K_P, K_own, absCall, doCall, getBoxes, lend, back, idx, dedup, AV.ren, CV.ren, TV.ren, AV.ptrs, CV.ptrs, zipBox, AV.flat, CV.flat, absLoad, absStore, cellsOfAV, setAt, newBox, markB, bldTypes, absFieldAddr, absField, absExtract, absAssert, noAssert, absMkIface, ifcOf, CV.pv?, content, pushHead, ownT, fillCells, reps, pvs, chunks, enterSt, leave, resOf, resVars, resVar, outBoxes, lentOnly, TV.deg, TV.av, LK, CV.plain, CV.noBld, nilBin, absUn, bound, List.map_cons, List.map_nil, List.all_cons, List.all_nil, List.any_cons, List.any_nil, List.contains_cons, List.contains_nil, List.elem_cons, List.elem_nil, List.cons_append, List.nil_append, List.append_nil, List.flatMap_cons, List.flatMap_nil, List.zip_cons_cons, List.zip_nil_left, List.zip_nil_right, List.take_succ_cons, List.take_zero, List.take_nil, List.drop_succ_cons, List.drop_zero, List.drop_nil, List.isEmpty_nil, List.isEmpty_cons, Bool.and_true, Bool.true_and, Bool.or_true, Bool.true_or, Bool.or_false, Bool.false_or, Bool.not_true, Bool.not_false, Nat.reduceAdd, Nat.reduceSub, Nat.reduceLeDiff, Nat.add_zero, Nat.zero_add, Nat.reduceMul, Option.isNone_none, Option.isNone_some, Option.getD_none, true_and, and_true, not_true_eq_false, not_false_eq_true, decide_true, decide_false, List.toList_toArray, Nat.le_refl, and_self, Bool.not_eq_true, Nat.sub_self, or_true, true_or, Option.some.injEq, List.length_map, List.nil_eq, and_false, false_and, AV.live, CV.live, CV.liveIn, K_keep, firstReg, Option.orElse_some, Option.orElse_none, head, keepSlots, keepBoxes, Int.lt_irrefl, List.length_append, ite_self, memOK, logOps, opKey, lentBoxes, Key.clash, Key.sees, Key.writes, Nat.lt_irrefl, gt_iff_lt, nobox_at, bot_at, false_or, or_false, beq_self_eq_true, Bool.true_beq, Bool.false_beq, ev_build ty_zeroCells_67 ty_placesOf_67, ty_fieldOff_67_0, ty_szOf_65, ty_shapeT_65, ev_len_str ty_descOf_65, good_43, ty_fieldOff_67_1, ty_szOf_41, ty_shapeT_41, keep_25_2]
  erw [e2]
  simp only [exL_seq, exL_region, exL_cond, exL_block, exL_scope, exL_ret, exL_skip, exL_exit, runRegion, runOps, stepOp, guardA, absOp, takeOver, opd, avOf, cvOf, St.degAt, St.put, okPV, okVal, okAV, absBin, intBin, strBin, boolBin, setBoxes, if_true, Bool.false_eq_true, if_false, Option.map_some, Option.map_none, Option.bind_some, Option.bind_none, thenO, outOf, upd, List.toList_toArray, isOwn, steal, appArgs, inApps, AV.deg, CV.deg, AV.gv, AV.isIter, absNext, some_bne, Nat.reduceLT, reduceIte, reduceCtorEq, Nat.reduceEqDiff, List.length_nil, List.length_cons, apply_ite (Option.map (outOf _)), List.filterMap_cons, List.filterMap_nil, beq_iff_eq, List.getElem?_cons_zero, List.getElem?_cons_succ, Option.getD_some, K_hook, hookB, Nat.reduceBEq, Bool.false_and, Bool.and_false, Bool.and_self, K_P, K_own, absCall, doCall, getBoxes, lend, back, idx, dedup, AV.ren, CV.ren, TV.ren, AV.ptrs, CV.ptrs, zipBox, AV.flat, CV.flat, absLoad, absStore, cellsOfAV, setAt, newBox, markB, bldTypes, absFieldAddr, absField, absExtract, absAssert, noAssert, absMkIface, ifcOf, CV.pv?, content, pushHead, ownT, fillCells, reps, pvs, chunks, enterSt, leave, resOf, resVars, resVar, outBoxes, lentOnly, TV.deg, TV.av, LK, CV.plain, CV.noBld, nilBin, absUn, bound, List.map_cons, List.map_nil, List.all_cons, List.all_nil, List.any_cons, List.any_nil, List.contains_cons, List.contains_nil, List.elem_cons, List.elem_nil, List.cons_append, List.nil_append, List.append_nil, List.flatMap_cons, List.flatMap_nil, List.zip_cons_cons, List.zip_nil_left, List.zip_nil_right, List.take_succ_cons, List.take_zero, List.take_nil, List.drop_succ_cons, List.drop_zero, List.drop_nil, List.isEmpty_nil, List.isEmpty_cons, Bool.and_true, Bool.true_and, Bool.or_true, Bool.true_or, Bool.or_false, Bool.false_or, Bool.not_true, Bool.not_false, Nat.reduceAdd, Nat.reduceSub, Nat.reduceLeDiff, Nat.add_zero, Nat.zero_add, Nat.reduceMul, Option.isNone_none, Option.isNone_some, Option.getD_none, true_and, and_true, not_true_eq_false, not_false_eq_true, decide_true, decide_false, List.toList_toArray, Nat.le_refl, and_self, Bool.not_eq_true, Nat.sub_self, or_true, true_or, Option.some.injEq, List.length_map, List.nil_eq, and_false, false_and, AV.live, CV.live, CV.liveIn, K_keep, firstReg, Option.orElse_some, Option.orElse_none, head, keepSlots, keepBoxes, Int.lt_irrefl, List.length_append, ite_self, memOK, logOps, opKey, lentBoxes, Key.clash, Key.sees, Key.writes, Nat.lt_irrefl, gt_iff_lt, nobox_at, bot_at, false_or, or_false, beq_self_eq_true, Bool.true_beq, Bool.false_beq, ev_build ty_zeroCells_67 ty_placesOf_67, ty_fieldOff_67_0, ty_szOf_65, ty_shapeT_65, ev_len_str ty_descOf_65, good_43, ty_fieldOff_67_1, ty_szOf_41, ty_shapeT_41, keep_25_2, hr, hn, h3, hb]
end Go.Abs
namespace Go.Abs
open Go Go.Proofs
set_option maxRecDepth 10000
attribute [local go_sem] exL_seq exL_region exL_cond exL_block exL_scope exL_ret exL_skip exL_exit runRegion runOps stepOp guardA absOp takeOver opd avOf cvOf St.degAt St.put okPV okVal okAV absBin intBin strBin boolBin setBoxes if_true Bool.false_eq_true if_false Option.map_some Option.map_none Option.bind_some Option.bind_none thenO outOf upd List.toList_toArray isOwn steal appArgs inApps AV.deg CV.deg AV.gv AV.isIter absNext some_bne List.length_nil List.length_cons List.filterMap_cons List.filterMap_nil beq_iff_eq List.getElem?_cons_zero List.getElem?_cons_succ Option.getD_some K_hook hookB Bool.false_and Bool.and_false Bool.and_self K_P K_own absCall doCall getBoxes lend back idx dedup AV.ren CV.ren TV.ren AV.ptrs CV.ptrs zipBox AV.flat CV.flat absLoad absStore cellsOfAV setAt newBox markB bldTypes absFieldAddr absField absExtract absAssert noAssert absMkIface ifcOf CV.pv? content pushHead ownT fillCells reps pvs chunks enterSt leave resOf resVars resVar outBoxes lentOnly TV.deg TV.av LK CV.plain CV.noBld nilBin absUn bound List.map_cons List.map_nil List.all_cons List.all_nil List.any_cons List.any_nil List.contains_cons List.contains_nil List.elem_cons List.elem_nil List.cons_append List.nil_append List.append_nil List.flatMap_cons List.flatMap_nil List.zip_cons_cons List.zip_nil_left List.zip_nil_right List.take_succ_cons List.take_zero List.take_nil List.drop_succ_cons List.drop_zero List.drop_nil List.isEmpty_nil List.isEmpty_cons Bool.and_true Bool.true_and Bool.or_true Bool.true_or Bool.or_false Bool.false_or Bool.not_true Bool.not_false Nat.add_zero Nat.zero_add Option.isNone_none Option.isNone_some Option.getD_none true_and and_true not_true_eq_false not_false_eq_true decide_true decide_false Nat.le_refl and_self Bool.not_eq_true Nat.sub_self or_true true_or Option.some.injEq List.length_map List.nil_eq and_false false_and AV.live CV.live CV.liveIn K_keep firstReg Option.orElse_some Option.orElse_none head keepSlots keepBoxes Int.lt_irrefl List.length_append ite_self memOK logOps opKey lentBoxes Key.clash Key.sees Key.writes Nat.lt_irrefl gt_iff_lt nobox_at bot_at false_or or_false beq_self_eq_true Bool.true_beq Bool.false_beq
abbrev theseH (a b : List Tok) (i : Nat) : St := { sl := upd (upd (upd (upd bot 17 (I i)) 16 (I b.length)) 15 (L (b.map Tok.enc))) 5 (L (a.map Tok.enc)), bx := nobox, nt := 29 }
theorem these_loop (a b : List Tok) (hab : a.length = b.length) (ha : lenOk a.length) : ∀ (ra rb : List Tok) (i : Nat), a.drop i = ra → b.drop i = rb → i ≤ a.length →
    Ends (exL K 81 (.loop (loopAt Tryz.f81 5)) (theseH a b i)) fun o S => (ra = rb ∧ o = .exit 0 ∧ S.nt = 29) ∨ (ra ≠ rb ∧ o = .ret ∧ S.sl 4 = B false) := by
  intro ra
  induction ra with
  | nil =>
    intro rb i hda hdb hi
    have hin : i = b.length := by
      have := List.drop_eq_nil_iff.1 hda
      omega
    obtain rfl : rb = [] := by rw [← hdb, hin, List.drop_length]
    subst hin
    conv in loopAt _ _ => whnf
    rw [exL_loop]
    simp only [go_sem, Nat.reduceLT, reduceIte, reduceCtorEq, Nat.reduceEqDiff, apply_ite (Option.map (outOf _)), Nat.reduceBEq, Nat.reduceAdd, Nat.reduceSub, Nat.reduceLeDiff, Nat.reduceMul, good_25, ev_len_sl ty_descOf_41, ev_indexAddr ty_descOf_41, ty_szOf_45, ty_shapeT_45, ty_zeroCells_45, keep_81_5, ends_some]
  | cons x ra ih =>
    intro rb i hda hdb hi
    obtain ⟨g1, g2, g3⟩ := drop_cons hda
    cases rb with
    | nil =>
      have := List.drop_eq_nil_iff.1 hdb
      omega
    | cons y rb =>
      obtain ⟨k1, k2, k3⟩ := drop_cons hdb
      have hlt : decide ((i : Int) < (b.length : Int)) = true := decide_eq_true (by omega)
      have ga := enc_at a i x g1
      have gb := enc_at b i y k1
      have hi2 : i < 9223372036854775807 := by unfold lenOk at ha; omega
      have heq := tok_eq x.kind y.kind x.n y.n x.text y.text
      rw [tok_beq] at heq
      have ih' := ih rb (i + 1) g2 k2 (by omega)
      conv at ih' in loopAt _ _ => whnf
      conv in loopAt _ _ => whnf
      rw [exL_loop]
      by_cases hxy : x = y
      · rw [decide_eq_true hxy] at heq
        have hv : (x :: ra = y :: rb) = (ra = rb) := by simp [hxy]
        have hv2 : (x :: ra ≠ y :: rb) = (ra ≠ rb) := by simp [hxy]
        rw [hv, hv2]
        simp only [go_sem, Nat.reduceLT, reduceIte, reduceCtorEq, Nat.reduceEqDiff, apply_ite (Option.map (outOf _)), Nat.reduceBEq, Nat.reduceAdd, Nat.reduceSub, Nat.reduceLeDiff, Nat.reduceMul, good_25, ev_len_sl ty_descOf_41, ev_indexAddr ty_descOf_41, ty_szOf_45, ty_shapeT_45, ty_zeroCells_45, keep_81_5, hlt, ga, gb, heq, Int.natCast_nonneg, wrap_nat i hi2]
        rw [exL_head]
        simp only [go_sem, Nat.reduceLT, reduceIte, reduceCtorEq, Nat.reduceEqDiff, apply_ite (Option.map (outOf _)), Nat.reduceBEq, Nat.reduceAdd, Nat.reduceSub, Nat.reduceLeDiff, Nat.reduceMul, good_25, ev_len_sl ty_descOf_41, ev_indexAddr ty_descOf_41, ty_szOf_45, ty_shapeT_45, ty_zeroCells_45, keep_81_5]
        exact ih'
      · rw [decide_eq_false hxy] at heq
        have hv : (x :: ra = y :: rb) = False := by simp [hxy]
        have hv2 : (x :: ra ≠ y :: rb) = True := by simp [hxy]
        rw [hv, hv2]
        simp only [go_sem, Nat.reduceLT, reduceIte, reduceCtorEq, Nat.reduceEqDiff, apply_ite (Option.map (outOf _)), Nat.reduceBEq, Nat.reduceAdd, Nat.reduceSub, Nat.reduceLeDiff, Nat.reduceMul, good_25, ev_len_sl ty_descOf_41, ev_indexAddr ty_descOf_41, ty_szOf_45, ty_shapeT_45, ty_zeroCells_45, keep_81_5, hlt, ga, gb, heq, Int.natCast_nonneg, ends_some]
theorem these_den (s : List UInt8) (b : List Tok) (hs : s.length < 4000000000) (hb : lenOk b.length) : den K 81 [T s, L (b.map Tok.enc)] [] = some (.ret (B (decide (Tk.all s = b))) []) := by
  have hall := All_den s hs
  have hlen : (Tk.all s).length ≤ s.length := Tk.all_len s
  generalize Tk.all s = a at hall hlen
  refine den_run rfl rfl Tryz.func81 rfl Tryz.ntmps81 ⟨by simp, by simp [LK]⟩ ?_
  have hr : Tryz.f81.results = #[.tmp 4] := rfl
  by_cases hab : a.length = b.length
  · have e : ((a.length : Int) != (b.length : Int)) = false := by rw [hab]; simp
    have hl := these_loop a b hab (by unfold lenOk; omega) a b 0 rfl rfl (by omega)
    conv at hl in loopAt _ _ => whnf
    obtain ⟨o, S', e2, h⟩ := hl
    simp only [go_sem, Nat.reduceLT, reduceIte, reduceCtorEq, Nat.reduceEqDiff, apply_ite (Option.map (outOf _)), Nat.reduceBEq, Nat.reduceAdd, Nat.reduceSub, Nat.reduceLeDiff, Nat.reduceMul, good_25, ev_len_sl ty_descOf_41, ev_indexAddr ty_descOf_41, ty_szOf_45, ty_shapeT_45, ty_zeroCells_45, keep_81_5, hall, e]
    rw [exL_head]
    simp only [go_sem, Nat.reduceLT, reduceIte, reduceCtorEq, Nat.reduceEqDiff, apply_ite (Option.map (outOf _)), Nat.reduceBEq, Nat.reduceAdd, Nat.reduceSub, Nat.reduceLeDiff, Nat.reduceMul, good_25, ev_len_sl ty_descOf_41, ev_indexAddr ty_descOf_41, ty_szOf_45, ty_shapeT_45, ty_zeroCells_45, keep_81_5]
    erw [e2]
    rcases h with ⟨h1, rfl, h2⟩ | ⟨h1, rfl, h2⟩
    · rw [decide_eq_true h1]
      simp only [go_sem, Nat.reduceLT, reduceIte, reduceCtorEq, Nat.reduceEqDiff, apply_ite (Option.map (outOf _)), Nat.reduceBEq, Nat.reduceAdd, Nat.reduceSub, Nat.reduceLeDiff, Nat.reduceMul, good_25, ev_len_sl ty_descOf_41, ev_indexAddr ty_descOf_41, ty_szOf_45, ty_shapeT_45, ty_zeroCells_45, keep_81_5, hr, h2]
    · rw [decide_eq_false h1]
      simp only [go_sem, Nat.reduceLT, reduceIte, reduceCtorEq, Nat.reduceEqDiff, apply_ite (Option.map (outOf _)), Nat.reduceBEq, Nat.reduceAdd, Nat.reduceSub, Nat.reduceLeDiff, Nat.reduceMul, good_25, ev_len_sl ty_descOf_41, ev_indexAddr ty_descOf_41, ty_szOf_45, ty_shapeT_45, ty_zeroCells_45, keep_81_5, hr, h2]
  · have e : ((a.length : Int) != (b.length : Int)) = true := by rw [bne_iff_ne]; omega
    have hne : a ≠ b := fun h => hab (by rw [h])
    rw [decide_eq_false hne]
    simp only [go_sem, Nat.reduceLT, reduceIte, reduceCtorEq, Nat.reduceEqDiff, apply_ite (Option.map (outOf _)), Nat.reduceBEq, Nat.reduceAdd, Nat.reduceSub, Nat.reduceLeDiff, Nat.reduceMul, good_25, ev_len_sl ty_descOf_41, ev_indexAddr ty_descOf_41, ty_szOf_45, ty_shapeT_45, ty_zeroCells_45, keep_81_5, hr, hall, e]
theorem one_len (t : Tok) (hn : I64 t.n) : (oneS t).length ≤ t.text.length + 21 := by
  have h := itoa_len hn
  unfold oneS
  repeat' split
  all_goals simp
  all_goals omega
theorem apart_den (a b : Tok) (ha : I64 a.n) (hb : I64 b.n) (la : a.text.length < 1000000000) (lb : b.text.length < 1000000000) : den K 49 [.agg a.cells, .agg b.cells] [] = some (.ret (B (Tk.apart a b)) []) := by
  have h1 := One_den a ha (by omega)
  have h2 := One_den b hb (by omega)
  have l1 := one_len a ha
  have l2 := one_len b hb
  have h3 := these_den (oneS a ++ oneS b) [a, b] (by rw [List.length_append]; omega) (by simp [lenOk])
  have hl : (oneS a).length + (oneS b).length < strLim := by simp [strLim]; omega
  have hap : Tk.apart a b = (!decide (Tk.all (oneS a ++ oneS b) = [a, b]) || (oneS a ++ oneS b == [60, 47])) := by
    unfold Tk.apart
    rw [decide_not]
  rw [hap]
  generalize decide (Tk.all (oneS a ++ oneS b) = [a, b]) = q at h3
  simp only [List.map_cons, List.map_nil, Tok.enc, Tok.cells] at h1 h2 h3
  simp only [Tok.cells]
  refine den_run rfl rfl Tryz.func49 rfl Tryz.ntmps49 ⟨by simp, by simp [LK]⟩ ?_
  have hr : Tryz.f49.results = #[.tmp 4] := rfl
  cases q <;> simp only [go_sem, Nat.reduceLT, reduceIte, reduceCtorEq, Nat.reduceEqDiff, apply_ite (Option.map (outOf _)), Nat.reduceBEq, Nat.reduceAdd, Nat.reduceSub, Nat.reduceLeDiff, Nat.reduceMul, ty_shapeT_45, good_51, ev_buildSlice (len := 2) ty_descOf_41 ty_szOf_45 ty_zeroCells_45 ⟨rfl, by decide, by decide⟩, good_81, hr, h1, h2, h3, hl]
end Go.Abs
namespace Go.Abs
open Go Go.Proofs
set_option maxRecDepth 10000
attribute [local go_sem] exL_seq exL_region exL_cond exL_block exL_scope exL_ret exL_skip exL_exit runRegion runOps stepOp guardA absOp takeOver opd avOf cvOf St.degAt St.put okPV okVal okAV absBin intBin strBin boolBin setBoxes if_true Bool.false_eq_true if_false Option.map_some Option.map_none Option.bind_some Option.bind_none thenO outOf upd List.toList_toArray isOwn steal appArgs inApps AV.deg CV.deg AV.gv AV.isIter absNext some_bne List.length_nil List.length_cons List.filterMap_cons List.filterMap_nil beq_iff_eq List.getElem?_cons_zero List.getElem?_cons_succ Option.getD_some K_hook hookB Bool.false_and Bool.and_false Bool.and_self K_P K_own absCall doCall getBoxes lend back idx dedup AV.ren CV.ren TV.ren AV.ptrs CV.ptrs zipBox AV.flat CV.flat absLoad absStore cellsOfAV setAt newBox markB bldTypes absFieldAddr absField absExtract absAssert noAssert absMkIface ifcOf CV.pv? content pushHead ownT fillCells reps pvs chunks enterSt leave resOf resVars resVar outBoxes lentOnly TV.deg TV.av LK CV.plain CV.noBld nilBin absUn bound List.map_cons List.map_nil List.all_cons List.all_nil List.any_cons List.any_nil List.contains_cons List.contains_nil List.elem_cons List.elem_nil List.cons_append List.nil_append List.append_nil List.flatMap_cons List.flatMap_nil List.zip_cons_cons List.zip_nil_left List.zip_nil_right List.take_succ_cons List.take_zero List.take_nil List.drop_succ_cons List.drop_zero List.drop_nil List.isEmpty_nil List.isEmpty_cons Bool.and_true Bool.true_and Bool.or_true Bool.true_or Bool.or_false Bool.false_or Bool.not_true Bool.not_false Nat.add_zero Nat.zero_add Option.isNone_none Option.isNone_some Option.getD_none true_and and_true not_true_eq_false not_false_eq_true decide_true decide_false Nat.le_refl and_self Bool.not_eq_true Nat.sub_self or_true true_or Option.some.injEq List.length_map List.nil_eq and_false false_and AV.live CV.live CV.liveIn K_keep firstReg Option.orElse_some Option.orElse_none head keepSlots keepBoxes Int.lt_irrefl List.length_append ite_self memOK logOps opKey lentBoxes Key.clash Key.sees Key.writes Nat.lt_irrefl gt_iff_lt nobox_at bot_at false_or or_false beq_self_eq_true Bool.true_beq Bool.false_beq
def classI (c : UInt8) : Int := if Tk.begins c then 1 else if Tk.digit c then 2 else if c == 45 then 3 else if Tk.blank c then 4 else 0
def isI (v : Int) : Option Res → Bool
  | some (.ret (.c (.pv (.int .i64 n))) []) => n == v
  | _ => false
theorem isI_iff {v : Int} {r : Option Res} (h : isI v r = true) : r = some (.ret (I v) []) := by
  unfold isI at h
  split at h
  · rename_i n
    have : n = v := by simpa using h
    rw [this]
  · cases h
theorem class_all : (List.range 256).all (fun n => isI (classI (UInt8.ofNat n)) (callN K 5 92 [.c (.pv (.int .u8 (n : Nat)))] [])) = true := by kernel_rfl
theorem class_den (c : UInt8) : den K 92 [U c] [] = some (.ret (I (classI c)) []) := by
  have h := List.all_eq_true.1 class_all c.toNat (List.mem_range.2 c.toNat_lt)
  have h2 := isI_iff h
  rw [UInt8.ofNat_toNat] at h2
  exact den_iff.2 ⟨5, h2⟩
theorem class_facts_all : (List.range 256).all (fun n => let c := UInt8.ofNat n; ((classI c == 1) == Tk.begins c) && ((classI c == 2) == Tk.digit c) && ((classI c == 3) == (c == 45)) && ((classI c == 4) == Tk.blank c) && ((decide (1 ≤ classI c) && decide (classI c ≤ 3)) == Tk.within c)) = true := by kernel_rfl
theorem class_facts (c : UInt8) : (classI c == 1) = Tk.begins c ∧ (classI c == 2) = Tk.digit c ∧ (classI c == 3) = (c == 45) ∧ (classI c == 4) = Tk.blank c ∧ (decide (1 ≤ classI c) && decide (classI c ≤ 3)) = Tk.within c := by
  have h := List.all_eq_true.1 class_facts_all c.toNat (List.mem_range.2 c.toNat_lt)
  simp only [UInt8.ofNat_toNat, Bool.and_eq_true, beq_iff_eq] at h
  obtain ⟨⟨⟨⟨h1, h2⟩, h3⟩, h4⟩, h5⟩ := h
  exact ⟨h1, h2, h3, h4, h5⟩
def atC : List UInt8 → Int
  | [] => -1
  | c :: _ => classI c
theorem atC_facts (l : List UInt8) : (atC l == 1) = Tk.begins (Tk.at0 l) ∧ (atC l == 2) = Tk.digit (Tk.at0 l) ∧ (atC l == 3) = (Tk.at0 l == 45) ∧ (atC l == 4) = Tk.blank (Tk.at0 l) ∧ (decide (1 ≤ atC l) && decide (atC l ≤ 3)) = Tk.within (Tk.at0 l) := by
  cases l with
  | nil => decide
  | cons c r => exact class_facts c
theorem at1_den (s : List UInt8) (i : Nat) (hs : s.length < 4000000000) : den K 76 [T s, I i] [] = some (.ret (I (atC (s.drop i))) []) := by
  refine den_run rfl rfl Tryz.func76 rfl Tryz.ntmps76 ⟨by simp, by simp [LK]⟩ ?_
  have hr : Tryz.f76.results = #[.tmp 4] := rfl
  by_cases h : i < s.length
  · have hlt : decide ((i : Int) < (s.length : Int)) = true := decide_eq_true (by omega)
    have hd := List.drop_eq_getElem_cons h
    have hg : s[i]? = some (s[i]'h) := List.getElem?_eq_getElem h
    generalize s[i]'h = c at hd hg
    rw [hd, atC]
    have hc := class_den c
    simp only [go_sem, Nat.reduceLT, reduceIte, reduceCtorEq, Nat.reduceEqDiff, apply_ite (Option.map (outOf _)), Nat.reduceBEq, Nat.reduceAdd, Nat.reduceSub, Nat.reduceLeDiff, Nat.reduceMul, ev_len_str ty_descOf_9, ev_index ty_descOf_9, good_92, hr, hlt, Int.natCast_nonneg, Int.toNat_natCast, hg, hc]
  · have hlt : decide ((i : Int) < (s.length : Int)) = false := decide_eq_false (by omega)
    rw [List.drop_eq_nil_of_le (by omega), atC]
    simp only [go_sem, Nat.reduceLT, reduceIte, reduceCtorEq, Nat.reduceEqDiff, apply_ite (Option.map (outOf _)), Nat.reduceBEq, Nat.reduceAdd, Nat.reduceSub, Nat.reduceLeDiff, Nat.reduceMul, ev_len_str ty_descOf_9, ev_index ty_descOf_9, good_92, hr, hlt]
theorem Begins_den (s : List UInt8) (i : Nat) (hs : s.length < 4000000000) (hi : i ≤ s.length) : den K 79 [T s, I i] [] = some (.ret (B (Tk.nameB (s.drop i))) []) := by
  have d1 := at1_den s i hs
  have d2 := at1_den s (i + 1) hs
  obtain ⟨f1, _, f3, _, _⟩ := atC_facts (s.drop i)
  obtain ⟨g1, _, g3, _, _⟩ := atC_facts (s.drop (i + 1))
  have ht : (s.drop i).tail = s.drop (i + 1) := List.tail_drop
  unfold Tk.nameB
  rw [ht, ← f1, ← f3, ← g1, ← g3]
  generalize atC (s.drop i) = v at d1
  generalize atC (s.drop (i + 1)) = w at d2
  clear f1 f3 g1 g3 ht
  refine den_run rfl rfl Tryz.func79 rfl Tryz.ntmps79 ⟨by simp, by simp [LK]⟩ ?_
  have hr : Tryz.f79.results = #[.tmp 4] := rfl
  cases b1 : (v == 1)
  · cases b3 : (v == 3)
    · simp only [go_sem, Nat.reduceLT, reduceIte, reduceCtorEq, Nat.reduceEqDiff, apply_ite (Option.map (outOf _)), Nat.reduceBEq, Nat.reduceAdd, Nat.reduceSub, Nat.reduceLeDiff, Nat.reduceMul, good_76, hr, d1, b1, b3]
    · cases c1 : (w == 1)
      · cases c3 : (w == 3) <;> simp only [go_sem, Nat.reduceLT, reduceIte, reduceCtorEq, Nat.reduceEqDiff, apply_ite (Option.map (outOf _)), Nat.reduceBEq, Nat.reduceAdd, Nat.reduceSub, Nat.reduceLeDiff, Nat.reduceMul, good_76, hr, d1, d2, b1, b3, c1, c3, wrap_nat i (by omega)]
      · simp only [go_sem, Nat.reduceLT, reduceIte, reduceCtorEq, Nat.reduceEqDiff, apply_ite (Option.map (outOf _)), Nat.reduceBEq, Nat.reduceAdd, Nat.reduceSub, Nat.reduceLeDiff, Nat.reduceMul, good_76, hr, d1, d2, b1, b3, c1, wrap_nat i (by omega)]
  · simp only [go_sem, Nat.reduceLT, reduceIte, reduceCtorEq, Nat.reduceEqDiff, apply_ite (Option.map (outOf _)), Nat.reduceBEq, Nat.reduceAdd, Nat.reduceSub, Nat.reduceLeDiff, Nat.reduceMul, good_76, hr, d1, b1]
abbrev namesH (s : List UInt8) (i : Nat) : St := { sl := upd (upd bot 1 (I i)) 0 (T s), bx := nobox, nt := 18 }
theorem names_loop (s : List UInt8) (hs : s.length < 4000000000) : ∀ (rest : List UInt8) (i : Nat), s.drop i = rest → i ≤ s.length →
    Ends (exL K 78 (.loop (loopAt Tryz.f78 1)) (namesH s i)) fun o S => o = .exit 0 ∧ S.nt = 18 ∧ S.sl 1 = I (i + Tk.run Tk.within rest : Nat) := by
  intro rest
  induction rest with
  | nil =>
    intro i hd hi
    have d1 := at1_den s i hs
    rw [hd] at d1
    have v0 : atC [] = -1 := rfl
    rw [v0] at d1
    have e0 : decide ((1 : Int) ≤ -1) = false := by decide
    conv in loopAt _ _ => whnf
    rw [exL_loop]
    simp only [go_sem, Nat.reduceLT, reduceIte, reduceCtorEq, Nat.reduceEqDiff, apply_ite (Option.map (outOf _)), Nat.reduceBEq, Nat.reduceAdd, Nat.reduceSub, Nat.reduceLeDiff, Nat.reduceMul, good_76, keep_78_1, ends_some, d1, e0, Tk.run_nil]
  | cons c rest ih =>
    intro i hd hi
    obtain ⟨g1, g2, g3⟩ := drop_cons hd
    have d1 := at1_den s i hs
    rw [hd] at d1
    have v0 : atC (c :: rest) = classI c := rfl
    rw [v0] at d1
    obtain ⟨_, _, _, _, f⟩ := class_facts c
    have ih' := ih (i + 1) g2 (by omega)
    conv at ih' in loopAt _ _ => whnf
    conv in loopAt _ _ => whnf
    rw [exL_loop]
    cases b1 : decide (1 ≤ classI c)
    · rw [b1, Bool.false_and] at f
      have hv : Tk.run Tk.within (c :: rest) = 0 := by rw [Tk.run, ← f]; rfl
      simp only [go_sem, Nat.reduceLT, reduceIte, reduceCtorEq, Nat.reduceEqDiff, apply_ite (Option.map (outOf _)), Nat.reduceBEq, Nat.reduceAdd, Nat.reduceSub, Nat.reduceLeDiff, Nat.reduceMul, good_76, keep_78_1, ends_some, d1, b1, hv]
    · rw [b1, Bool.true_and] at f
      cases b2 : decide (classI c ≤ 3)
      · rw [b2] at f
        have hv : Tk.run Tk.within (c :: rest) = 0 := by rw [Tk.run, ← f]; rfl
        simp only [go_sem, Nat.reduceLT, reduceIte, reduceCtorEq, Nat.reduceEqDiff, apply_ite (Option.map (outOf _)), Nat.reduceBEq, Nat.reduceAdd, Nat.reduceSub, Nat.reduceLeDiff, Nat.reduceMul, good_76, keep_78_1, ends_some, d1, b1, b2, hv]
      · rw [b2] at f
        have hv : i + 1 + Tk.run Tk.within rest = i + Tk.run Tk.within (c :: rest) := by rw [Tk.run, if_pos f.symm]; omega
        rw [hv] at ih'
        simp only [go_sem, Nat.reduceLT, reduceIte, reduceCtorEq, Nat.reduceEqDiff, apply_ite (Option.map (outOf _)), Nat.reduceBEq, Nat.reduceAdd, Nat.reduceSub, Nat.reduceLeDiff, Nat.reduceMul, good_76, keep_78_1, d1, b1, b2, wrap_nat i (by omega)]
        rw [exL_head]
        simp only [go_sem, Nat.reduceLT, reduceIte, reduceCtorEq, Nat.reduceEqDiff, apply_ite (Option.map (outOf _)), Nat.reduceBEq, Nat.reduceAdd, Nat.reduceSub, Nat.reduceLeDiff, Nat.reduceMul, good_76, keep_78_1]
        exact ih'
theorem names_den (s : List UInt8) (i : Nat) (hs : s.length < 4000000000) (hi : i ≤ s.length) : den K 78 [T s, I i] [] = some (.ret (I (i + Tk.run Tk.within (s.drop i) : Nat)) []) := by
  refine den_run rfl rfl Tryz.func78 rfl Tryz.ntmps78 ⟨by simp, by simp [LK]⟩ ?_
  have hr : Tryz.f78.results = #[.tmp 4] := rfl
  have hl := names_loop s hs (s.drop i) i rfl hi
  conv at hl in loopAt _ _ => whnf
  obtain ⟨o, S', w, rfl, hn, h1⟩ := hl
  simp only [go_sem, Nat.reduceLT, reduceIte, reduceCtorEq, Nat.reduceEqDiff, apply_ite (Option.map (outOf _)), Nat.reduceBEq, Nat.reduceAdd, Nat.reduceSub, Nat.reduceLeDiff, Nat.reduceMul, good_76, keep_78_1]
  rw [exL_head]
  simp only [go_sem, Nat.reduceLT, reduceIte, reduceCtorEq, Nat.reduceEqDiff, apply_ite (Option.map (outOf _)), Nat.reduceBEq, Nat.reduceAdd, Nat.reduceSub, Nat.reduceLeDiff, Nat.reduceMul, good_76, keep_78_1]
  erw [w]
  simp only [go_sem, Nat.reduceLT, reduceIte, reduceCtorEq, Nat.reduceEqDiff, apply_ite (Option.map (outOf _)), Nat.reduceBEq, Nat.reduceAdd, Nat.reduceSub, Nat.reduceLeDiff, Nat.reduceMul, good_76, keep_78_1, hr, hn, h1]
abbrev comH (s : List UInt8) (k : Nat) : St := { sl := upd (upd bot 5 (I k)) 0 (T s), bx := nobox, nt := 30 }
theorem com_loop (s : List UInt8) (hs : s.length < 4000000000) : ∀ (rest : List UInt8) (k : Nat), s.drop k = rest → k ≤ s.length →
    Ends (exL K 75 (.loop (loopAt Tryz.f75 2)) (comH s k)) fun o S => (∃ n, Tk.shut rest = some n ∧ o = .ret ∧ S.sl 4 = I (k + n : Nat)) ∨ (Tk.shut rest = none ∧ o = .exit 0 ∧ S.nt = 30 ∧ S.sl 0 = T s) := by
  intro rest
  induction rest with
  | nil =>
    intro k hd hk
    have hin : k = s.length := by
      have := List.drop_eq_nil_iff.1 hd
      omega
    subst hin
    have w1 := wrap_nat s.length (by omega)
    have e0 : decide (((s.length + 1 : Nat) : Int) < (s.length : Int)) = false := decide_eq_false (by omega)
    have hv : Tk.shut [] = none := rfl
    conv in loopAt _ _ => whnf
    rw [exL_loop]
    simp only [go_sem, Nat.reduceLT, reduceIte, reduceCtorEq, Nat.reduceEqDiff, apply_ite (Option.map (outOf _)), Nat.reduceBEq, Nat.reduceAdd, Nat.reduceSub, Nat.reduceLeDiff, Nat.reduceMul, ev_len_str ty_descOf_9, ev_index ty_descOf_9, keep_75_2, ends_some, w1, e0, hv]
  | cons c rest ih =>
    intro k hd hk
    obtain ⟨g1, g2, g3⟩ := drop_cons hd
    have w1 := wrap_nat k (by omega)
    have e42 : ((c.toNat : Int) == 42) = (c == 42) := u8_beq c 42
    cases rest with
    | nil =>
      have hl : k + 1 = s.length := by
        have := List.drop_eq_nil_iff.1 g2
        omega
      have e0 : decide (((k + 1 : Nat) : Int) < (s.length : Int)) = false := decide_eq_false (by omega)
      have hv : Tk.shut [c] = none := by
        rw [Tk.shut, if_neg (fun h => absurd h.2 (by decide))]; rfl
      conv in loopAt _ _ => whnf
      rw [exL_loop]
      simp only [go_sem, Nat.reduceLT, reduceIte, reduceCtorEq, Nat.reduceEqDiff, apply_ite (Option.map (outOf _)), Nat.reduceBEq, Nat.reduceAdd, Nat.reduceSub, Nat.reduceLeDiff, Nat.reduceMul, ev_len_str ty_descOf_9, ev_index ty_descOf_9, keep_75_2, ends_some, w1, e0, hv]
    | cons d rest =>
      obtain ⟨k1, k2, k3⟩ := drop_cons g2
      have e0 : decide (((k + 1 : Nat) : Int) < (s.length : Int)) = true := decide_eq_true (by omega)
      have e47 : ((d.toNat : Int) == 47) = (d == 47) := u8_beq d 47
      have w2 : IntKind.i64.wrap ((k : Int) + 2) = ((k + 2 : Nat) : Int) := by rw [IntWalk.i64_in _ (by omega)]; rfl
      have ih' := ih (k + 1) g2 (by omega)
      conv at ih' in loopAt _ _ => whnf
      conv in loopAt _ _ => whnf
      rw [exL_loop]
      by_cases hc : c = 42 ∧ d = 47
      · have hv : Tk.shut (c :: d :: rest) = some 2 := by rw [Tk.shut, if_pos ⟨hc.1, hc.2⟩]
        have q1 : (c == 42) = true := by simp [hc.1]
        have q2 : (d == 47) = true := by simp [hc.2]
        rw [q1] at e42
        rw [q2] at e47
        simp only [go_sem, Nat.reduceLT, reduceIte, reduceCtorEq, Nat.reduceEqDiff, apply_ite (Option.map (outOf _)), Nat.reduceBEq, Nat.reduceAdd, Nat.reduceSub, Nat.reduceLeDiff, Nat.reduceMul, ev_len_str ty_descOf_9, ev_index ty_descOf_9, keep_75_2, ends_some, w1, w2, e0, hv, g1, k1, e42, e47, Int.natCast_nonneg, Int.toNat_natCast]
        simp
      · have hv : Tk.shut (c :: d :: rest) = (Tk.shut (d :: rest)).map (· + 1) := by rw [Tk.shut, if_neg (show ¬ (c = 42 ∧ Tk.at0 (d :: rest) = 47) from hc)]
        rw [hv]
        have fin : ∀ {r : Option (Out × St)}, Ends r (fun o S => (∃ n, Tk.shut (d :: rest) = some n ∧ o = .ret ∧ S.sl 4 = I (k + 1 + n : Nat)) ∨ (Tk.shut (d :: rest) = none ∧ o = .exit 0 ∧ S.nt = 30 ∧ S.sl 0 = T s)) → Ends r (fun o S => (∃ n, (Tk.shut (d :: rest)).map (· + 1) = some n ∧ o = .ret ∧ S.sl 4 = I (k + n : Nat)) ∨ ((Tk.shut (d :: rest)).map (· + 1) = none ∧ o = .exit 0 ∧ S.nt = 30 ∧ S.sl 0 = T s)) := by
          rintro r ⟨o, S, e, h⟩
          refine ⟨o, S, e, ?_⟩
          rcases h with ⟨n, h1, h2, h3⟩ | ⟨h1, h2⟩
          · left; exact ⟨n + 1, by rw [h1]; rfl, h2, by rw [h3, show k + 1 + n = k + (n + 1) by omega]⟩
          · right; exact ⟨by rw [h1]; rfl, h2⟩
        refine fin ?_
        cases q1 : (c == 42)
        · rw [q1] at e42
          simp only [go_sem, Nat.reduceLT, reduceIte, reduceCtorEq, Nat.reduceEqDiff, apply_ite (Option.map (outOf _)), Nat.reduceBEq, Nat.reduceAdd, Nat.reduceSub, Nat.reduceLeDiff, Nat.reduceMul, ev_len_str ty_descOf_9, ev_index ty_descOf_9, keep_75_2, w1, e0, g1, e42, Int.natCast_nonneg, Int.toNat_natCast]
          rw [exL_head]
          simp only [go_sem, Nat.reduceLT, reduceIte, reduceCtorEq, Nat.reduceEqDiff, apply_ite (Option.map (outOf _)), Nat.reduceBEq, Nat.reduceAdd, Nat.reduceSub, Nat.reduceLeDiff, Nat.reduceMul, ev_len_str ty_descOf_9, ev_index ty_descOf_9, keep_75_2]
          exact ih'
        · rw [q1] at e42
          have q2 : (d == 47) = false := by
            rw [beq_eq_false_iff_ne]; intro h; exact hc ⟨by simpa using q1, h⟩
          rw [q2] at e47
          simp only [go_sem, Nat.reduceLT, reduceIte, reduceCtorEq, Nat.reduceEqDiff, apply_ite (Option.map (outOf _)), Nat.reduceBEq, Nat.reduceAdd, Nat.reduceSub, Nat.reduceLeDiff, Nat.reduceMul, ev_len_str ty_descOf_9, ev_index ty_descOf_9, keep_75_2, w1, e0, g1, k1, e42, e47, Int.natCast_nonneg, Int.toNat_natCast]
          rw [exL_head]
          simp only [go_sem, Nat.reduceLT, reduceIte, reduceCtorEq, Nat.reduceEqDiff, apply_ite (Option.map (outOf _)), Nat.reduceBEq, Nat.reduceAdd, Nat.reduceSub, Nat.reduceLeDiff, Nat.reduceMul, ev_len_str ty_descOf_9, ev_index ty_descOf_9, keep_75_2]
          exact ih'
theorem comment1_den (s : List UInt8) (i : Nat) (hs : s.length < 4000000000) (hi : i + 2 ≤ s.length) : den K 75 [T s, I i] [] = some (.ret (I (i + Tk.comment (s.drop (i + 2)) : Nat)) []) := by
  refine den_run rfl rfl Tryz.func75 rfl Tryz.ntmps75 ⟨by simp, by simp [LK]⟩ ?_
  have hr : Tryz.f75.results = #[.tmp 4] := rfl
  have w2 : IntKind.i64.wrap ((i : Int) + 2) = ((i + 2 : Nat) : Int) := by rw [IntWalk.i64_in _ (by omega)]; rfl
  have hl := com_loop s hs (s.drop (i + 2)) (i + 2) rfl hi
  conv at hl in loopAt _ _ => whnf
  obtain ⟨o, S', w, h⟩ := hl
  simp only [go_sem, Nat.reduceLT, reduceIte, reduceCtorEq, Nat.reduceEqDiff, apply_ite (Option.map (outOf _)), Nat.reduceBEq, Nat.reduceAdd, Nat.reduceSub, Nat.reduceLeDiff, Nat.reduceMul, ev_len_str ty_descOf_9, ev_index ty_descOf_9, keep_75_2, w2]
  rw [exL_head]
  simp only [go_sem, Nat.reduceLT, reduceIte, reduceCtorEq, Nat.reduceEqDiff, apply_ite (Option.map (outOf _)), Nat.reduceBEq, Nat.reduceAdd, Nat.reduceSub, Nat.reduceLeDiff, Nat.reduceMul, ev_len_str ty_descOf_9, ev_index ty_descOf_9, keep_75_2]
  erw [w]
  unfold Tk.comment
  rcases h with ⟨n, h1, rfl, h2⟩ | ⟨h1, rfl, h2, h3⟩
  · rw [h1]
    have e : i + 2 + n = i + (n + 2) := by omega
    rw [e] at h2
    simp only [go_sem, Nat.reduceLT, reduceIte, reduceCtorEq, Nat.reduceEqDiff, apply_ite (Option.map (outOf _)), Nat.reduceBEq, Nat.reduceAdd, Nat.reduceSub, Nat.reduceLeDiff, Nat.reduceMul, ev_len_str ty_descOf_9, ev_index ty_descOf_9, keep_75_2, hr, h2]
  · rw [h1]
    have e : i + ((s.drop (i + 2)).length + 2) = s.length := by rw [List.length_drop]; omega
    simp only [e]
    simp only [go_sem, Nat.reduceLT, reduceIte, reduceCtorEq, Nat.reduceEqDiff, apply_ite (Option.map (outOf _)), Nat.reduceBEq, Nat.reduceAdd, Nat.reduceSub, Nat.reduceLeDiff, Nat.reduceMul, ev_len_str ty_descOf_9, ev_index ty_descOf_9, keep_75_2, hr, h2, h3]
end Go.Abs
namespace Go.Abs
open Go Go.Proofs
set_option maxRecDepth 10000
attribute [local go_sem] exL_seq exL_region exL_cond exL_block exL_scope exL_ret exL_skip exL_exit runRegion runOps stepOp guardA absOp takeOver opd avOf cvOf St.degAt St.put okPV okVal okAV absBin intBin strBin boolBin setBoxes if_true Bool.false_eq_true if_false Option.map_some Option.map_none Option.bind_some Option.bind_none thenO outOf upd List.toList_toArray isOwn steal appArgs inApps AV.deg CV.deg AV.gv AV.isIter absNext some_bne List.length_nil List.length_cons List.filterMap_cons List.filterMap_nil beq_iff_eq List.getElem?_cons_zero List.getElem?_cons_succ Option.getD_some K_hook hookB Bool.false_and Bool.and_false Bool.and_self K_P K_own absCall doCall getBoxes lend back idx dedup AV.ren CV.ren TV.ren AV.ptrs CV.ptrs zipBox AV.flat CV.flat absLoad absStore cellsOfAV setAt newBox markB bldTypes absFieldAddr absField absExtract absAssert noAssert absMkIface ifcOf CV.pv? content pushHead ownT fillCells reps pvs chunks enterSt leave resOf resVars resVar outBoxes lentOnly TV.deg TV.av LK CV.plain CV.noBld nilBin absUn bound List.map_cons List.map_nil List.all_cons List.all_nil List.any_cons List.any_nil List.contains_cons List.contains_nil List.elem_cons List.elem_nil List.cons_append List.nil_append List.append_nil List.flatMap_cons List.flatMap_nil List.zip_cons_cons List.zip_nil_left List.zip_nil_right List.take_succ_cons List.take_zero List.take_nil List.drop_succ_cons List.drop_zero List.drop_nil List.isEmpty_nil List.isEmpty_cons Bool.and_true Bool.true_and Bool.or_true Bool.true_or Bool.or_false Bool.false_or Bool.not_true Bool.not_false Nat.add_zero Nat.zero_add Option.isNone_none Option.isNone_some Option.getD_none true_and and_true not_true_eq_false not_false_eq_true decide_true decide_false Nat.le_refl and_self Bool.not_eq_true Nat.sub_self or_true true_or Option.some.injEq List.length_map List.nil_eq and_false false_and AV.live CV.live CV.liveIn K_keep firstReg Option.orElse_some Option.orElse_none head keepSlots keepBoxes Int.lt_irrefl List.length_append ite_self memOK logOps opKey lentBoxes Key.clash Key.sees Key.writes Nat.lt_irrefl gt_iff_lt nobox_at bot_at false_or or_false beq_self_eq_true Bool.true_beq Bool.false_beq
def innerK (i : Nat) (c : UInt8) (r : List UInt8) : Int := match Tk.inner c r with | some n => ((i + 1 + n : Nat) : Int) | none => -1
abbrev inH (s : List UInt8) (i k : Nat) : St := { sl := upd (upd (upd bot 5 (I k)) 1 (I i)) 0 (T s), bx := nobox, nt := 38 }
theorem in_loop (s : List UInt8) (hs : s.length < 4000000000) (i : Nat) (c : UInt8) (hi : s[i]? = some c) : ∀ (rest : List UInt8) (k : Nat), s.drop k = rest → k ≤ s.length →
    Ends (exL K 77 (.loop (loopAt Tryz.f77 2)) (inH s i k)) fun o S => (∃ n, Tk.inner c rest = some n ∧ o = .ret ∧ S.sl 4 = I (k + n : Nat)) ∨ (Tk.inner c rest = none ∧ (o = .ret ∧ S.sl 4 = I (-1) ∨ o = .exit 0 ∧ S.nt = 38)) := by
  intro rest
  induction rest with
  | nil =>
    intro k hd hk
    have hin : k = s.length := by
      have := List.drop_eq_nil_iff.1 hd
      omega
    subst hin
    have hv : Tk.inner c [] = none := rfl
    conv in loopAt _ _ => whnf
    rw [exL_loop]
    simp only [go_sem, Nat.reduceLT, reduceIte, reduceCtorEq, Nat.reduceEqDiff, apply_ite (Option.map (outOf _)), Nat.reduceBEq, Nat.reduceAdd, Nat.reduceSub, Nat.reduceLeDiff, Nat.reduceMul, ev_len_str ty_descOf_9, ev_index ty_descOf_9, keep_77_2, ends_some, hv]
  | cons d rest ih =>
    intro k hd hk
    obtain ⟨g1, g2, g3⟩ := drop_cons hd
    have hlt : decide ((k : Int) < (s.length : Int)) = true := decide_eq_true (by omega)
    have edc : ((d.toNat : Int) == (c.toNat : Int)) = (d == c) := u8_beq d c
    have e10 : ((d.toNat : Int) == 10) = (d == 10) := u8_beq d 10
    have e12 : ((d.toNat : Int) == 12) = (d == 12) := u8_beq d 12
    have e13 : ((d.toNat : Int) == 13) = (d == 13) := u8_beq d 13
    have ih' := ih (k + 1) g2 (by omega)
    conv at ih' in loopAt _ _ => whnf
    conv in loopAt _ _ => whnf
    rw [exL_loop]
    cases q : (d == c)
    · rw [q] at edc
      have hdc : d ≠ c := by simpa using q
      cases q10 : (d == 10)
      · rw [q10] at e10
        cases q12 : (d == 12)
        · rw [q12] at e12
          cases q13 : (d == 13)
          · rw [q13] at e13
            have he : Tk.ending d = false := by unfold Tk.ending; rw [q10, q12, q13]; rfl
            have hv : Tk.inner c (d :: rest) = (Tk.inner c rest).map (· + 1) := by rw [Tk.inner, if_neg hdc, if_neg (by simp [he])]
            rw [hv]
            have fin : ∀ {r : Option (Out × St)}, Ends r (fun o S => (∃ n, Tk.inner c rest = some n ∧ o = .ret ∧ S.sl 4 = I (k + 1 + n : Nat)) ∨ (Tk.inner c rest = none ∧ (o = .ret ∧ S.sl 4 = I (-1) ∨ o = .exit 0 ∧ S.nt = 38))) → Ends r (fun o S => (∃ n, (Tk.inner c rest).map (· + 1) = some n ∧ o = .ret ∧ S.sl 4 = I (k + n : Nat)) ∨ ((Tk.inner c rest).map (· + 1) = none ∧ (o = .ret ∧ S.sl 4 = I (-1) ∨ o = .exit 0 ∧ S.nt = 38))) := by
              rintro r ⟨o, S, e, h⟩
              refine ⟨o, S, e, ?_⟩
              rcases h with ⟨n, h1, h2, h3⟩ | ⟨h1, h2⟩
              · left; exact ⟨n + 1, by rw [h1]; rfl, h2, by rw [h3, show k + 1 + n = k + (n + 1) by omega]⟩
              · right; exact ⟨by rw [h1]; rfl, h2⟩
            refine fin ?_
            simp only [go_sem, Nat.reduceLT, reduceIte, reduceCtorEq, Nat.reduceEqDiff, apply_ite (Option.map (outOf _)), Nat.reduceBEq, Nat.reduceAdd, Nat.reduceSub, Nat.reduceLeDiff, Nat.reduceMul, ev_len_str ty_descOf_9, ev_index ty_descOf_9, keep_77_2, hlt, g1, hi, edc, e10, e12, e13, Int.natCast_nonneg, Int.toNat_natCast, wrap_nat k (by omega)]
            rw [exL_head]
            simp only [go_sem, Nat.reduceLT, reduceIte, reduceCtorEq, Nat.reduceEqDiff, apply_ite (Option.map (outOf _)), Nat.reduceBEq, Nat.reduceAdd, Nat.reduceSub, Nat.reduceLeDiff, Nat.reduceMul, ev_len_str ty_descOf_9, ev_index ty_descOf_9, keep_77_2]
            exact ih'
          · rw [q13] at e13
            have he : Tk.ending d = true := by unfold Tk.ending; rw [q13, Bool.or_true]
            have hv : Tk.inner c (d :: rest) = none := by rw [Tk.inner, if_neg hdc, if_pos he]
            simp only [go_sem, Nat.reduceLT, reduceIte, reduceCtorEq, Nat.reduceEqDiff, apply_ite (Option.map (outOf _)), Nat.reduceBEq, Nat.reduceAdd, Nat.reduceSub, Nat.reduceLeDiff, Nat.reduceMul, ev_len_str ty_descOf_9, ev_index ty_descOf_9, keep_77_2, ends_some, hlt, g1, hi, edc, e10, e12, e13, Int.natCast_nonneg, Int.toNat_natCast, hv]
        · rw [q12] at e12
          have he : Tk.ending d = true := by unfold Tk.ending; rw [q12, Bool.or_true, Bool.true_or]
          have hv : Tk.inner c (d :: rest) = none := by rw [Tk.inner, if_neg hdc, if_pos he]
          simp only [go_sem, Nat.reduceLT, reduceIte, reduceCtorEq, Nat.reduceEqDiff, apply_ite (Option.map (outOf _)), Nat.reduceBEq, Nat.reduceAdd, Nat.reduceSub, Nat.reduceLeDiff, Nat.reduceMul, ev_len_str ty_descOf_9, ev_index ty_descOf_9, keep_77_2, ends_some, hlt, g1, hi, edc, e10, e12, Int.natCast_nonneg, Int.toNat_natCast, hv]
      · rw [q10] at e10
        have he : Tk.ending d = true := by unfold Tk.ending; rw [q10, Bool.true_or, Bool.true_or]
        have hv : Tk.inner c (d :: rest) = none := by rw [Tk.inner, if_neg hdc, if_pos he]
        simp only [go_sem, Nat.reduceLT, reduceIte, reduceCtorEq, Nat.reduceEqDiff, apply_ite (Option.map (outOf _)), Nat.reduceBEq, Nat.reduceAdd, Nat.reduceSub, Nat.reduceLeDiff, Nat.reduceMul, ev_len_str ty_descOf_9, ev_index ty_descOf_9, keep_77_2, ends_some, hlt, g1, hi, edc, e10, Int.natCast_nonneg, Int.toNat_natCast, hv]
    · rw [q] at edc
      have hv : Tk.inner c (d :: rest) = some 0 := by rw [Tk.inner, if_pos (by simpa using q)]
      simp only [go_sem, Nat.reduceLT, reduceIte, reduceCtorEq, Nat.reduceEqDiff, apply_ite (Option.map (outOf _)), Nat.reduceBEq, Nat.reduceAdd, Nat.reduceSub, Nat.reduceLeDiff, Nat.reduceMul, ev_len_str ty_descOf_9, ev_index ty_descOf_9, keep_77_2, ends_some, hlt, g1, hi, edc, Int.natCast_nonneg, Int.toNat_natCast, hv]
      simp
theorem inner1_den (s : List UInt8) (i : Nat) (c : UInt8) (r : List UInt8) (hs : s.length < 4000000000) (hd : s.drop i = c :: r) : den K 77 [T s, I i] [] = some (.ret (I (innerK i c r)) []) := by
  obtain ⟨g1, g2, g3⟩ := drop_cons hd
  refine den_run rfl rfl Tryz.func77 rfl Tryz.ntmps77 ⟨by simp, by simp [LK]⟩ ?_
  have hr : Tryz.f77.results = #[.tmp 4] := rfl
  have hl := in_loop s hs i c g1 r (i + 1) g2 (by omega)
  conv at hl in loopAt _ _ => whnf
  obtain ⟨o, S', w, h⟩ := hl
  simp only [go_sem, Nat.reduceLT, reduceIte, reduceCtorEq, Nat.reduceEqDiff, apply_ite (Option.map (outOf _)), Nat.reduceBEq, Nat.reduceAdd, Nat.reduceSub, Nat.reduceLeDiff, Nat.reduceMul, ev_len_str ty_descOf_9, ev_index ty_descOf_9, keep_77_2, wrap_nat i (by omega)]
  rw [exL_head]
  simp only [go_sem, Nat.reduceLT, reduceIte, reduceCtorEq, Nat.reduceEqDiff, apply_ite (Option.map (outOf _)), Nat.reduceBEq, Nat.reduceAdd, Nat.reduceSub, Nat.reduceLeDiff, Nat.reduceMul, ev_len_str ty_descOf_9, ev_index ty_descOf_9, keep_77_2]
  erw [w]
  unfold innerK
  rcases h with ⟨n, h1, rfl, h2⟩ | ⟨h1, ⟨rfl, h2⟩ | ⟨rfl, h2⟩⟩
  · rw [h1]
    simp only [go_sem, Nat.reduceLT, reduceIte, reduceCtorEq, Nat.reduceEqDiff, apply_ite (Option.map (outOf _)), Nat.reduceBEq, Nat.reduceAdd, Nat.reduceSub, Nat.reduceLeDiff, Nat.reduceMul, ev_len_str ty_descOf_9, ev_index ty_descOf_9, keep_77_2, hr, h2]
  · rw [h1]
    simp only [go_sem, Nat.reduceLT, reduceIte, reduceCtorEq, Nat.reduceEqDiff, apply_ite (Option.map (outOf _)), Nat.reduceBEq, Nat.reduceAdd, Nat.reduceSub, Nat.reduceLeDiff, Nat.reduceMul, ev_len_str ty_descOf_9, ev_index ty_descOf_9, keep_77_2, hr, h2]
  · rw [h1]
    simp only [go_sem, Nat.reduceLT, reduceIte, reduceCtorEq, Nat.reduceEqDiff, apply_ite (Option.map (outOf _)), Nat.reduceBEq, Nat.reduceAdd, Nat.reduceSub, Nat.reduceLeDiff, Nat.reduceMul, ev_len_str ty_descOf_9, ev_index ty_descOf_9, keep_77_2, hr, h2]
abbrev nmH (s : List UInt8) (i : Nat) (n : Int) (k : Nat) : St := { sl := upd (upd (upd (upd (upd bot 7 (I k)) 6 (I n)) 4 (.c (.loc 4 0))) 1 (I i)) 0 (T s), bx := upd nobox 4 (some [.pv (.int .i64 0), .pv (.str []), .pv (.int .i64 0)]), nt := 63 }
theorem nm_loop (s : List UInt8) (hs : s.length < 4000000000) (i : Nat) : ∀ (rest : List UInt8) (k : Nat) (n : Int), s.drop k = rest → k ≤ s.length → 0 ≤ n → n ≤ 999999999 →
    Ends (exL K 80 (.loop (loopAt Tryz.f80 4)) (nmH s i n k)) fun o S => o = .exit 0 ∧ S.nt = 63 ∧ S.sl 0 = T s ∧ S.sl 1 = I i ∧ S.sl 4 = .c (.loc 4 0) ∧ S.sl 6 = I (Tk.num n rest) ∧ S.sl 7 = I (k + Tk.run Tk.digit rest : Nat) ∧ S.bx = upd nobox 4 (some [.pv (.int .i64 0), .pv (.str []), .pv (.int .i64 0)]) := by
  intro rest
  induction rest with
  | nil =>
    intro k n hd hk h0 h1
    have d1 := at1_den s k hs
    rw [hd] at d1
    have v0 : atC [] = -1 := rfl
    rw [v0] at d1
    have e0 : ((-1 : Int) == 2) = false := by decide
    conv in loopAt _ _ => whnf
    rw [exL_loop]
    simp only [go_sem, Nat.reduceLT, reduceIte, reduceCtorEq, Nat.reduceEqDiff, apply_ite (Option.map (outOf _)), Nat.reduceBEq, Nat.reduceAdd, Nat.reduceSub, Nat.reduceLeDiff, Nat.reduceMul, ty_shapeT_45, ty_zeroCells_45, ev_index ty_descOf_9, good_76, ev_conv_int ty_descOf_5 ty_descOf_3, ev_len_str ty_descOf_9, good_79, good_78, ev_slice_str ty_descOf_9, ev_build ty_zeroCells_45 ty_placesOf_45, ty_szOf_45, keep_80_4, ends_some, d1, e0, Tk.run_nil, Tk.num]
  | cons c rest ih =>
    intro k n hd hk h0 h1
    obtain ⟨g1, g2, g3⟩ := drop_cons hd
    have d1 := at1_den s k hs
    rw [hd] at d1
    have v0 : atC (c :: rest) = classI c := rfl
    rw [v0] at d1
    obtain ⟨_, f, _, _, _⟩ := class_facts c
    conv in loopAt _ _ => whnf
    rw [exL_loop]
    cases b : (classI c == 2)
    · rw [b] at f
      have hv : Tk.run Tk.digit (c :: rest) = 0 := by rw [Tk.run, ← f]; rfl
      have hv2 : Tk.num n (c :: rest) = n := by rw [Tk.num, ← f]; rfl
      simp only [go_sem, Nat.reduceLT, reduceIte, reduceCtorEq, Nat.reduceEqDiff, apply_ite (Option.map (outOf _)), Nat.reduceBEq, Nat.reduceAdd, Nat.reduceSub, Nat.reduceLeDiff, Nat.reduceMul, ty_shapeT_45, ty_zeroCells_45, ev_index ty_descOf_9, good_76, ev_conv_int ty_descOf_5 ty_descOf_3, ev_len_str ty_descOf_9, good_79, good_78, ev_slice_str ty_descOf_9, ev_build ty_zeroCells_45 ty_placesOf_45, ty_szOf_45, keep_80_4, ends_some, d1, b, hv, hv2]
    · rw [b] at f
      have hc := f.symm
      have hcn : 48 ≤ c.toNat ∧ c.toNat ≤ 57 := by simpa [Tk.digit] using hc
      have hv : k + 1 + Tk.run Tk.digit rest = k + Tk.run Tk.digit (c :: rest) := by rw [Tk.run, if_pos hc]; omega
      have hv2 : Tk.num n (c :: rest) = Tk.num (min (10 * n + ((c.toNat : Int) - 48)) 999999999) rest := by rw [Tk.num, if_pos hc]
      have w1 : IntKind.i64.wrap (10 * n) = 10 * n := IntWalk.i64_in _ (by omega)
      have w3 : IntKind.i64.wrap (c.toNat : Int) = (c.toNat : Int) := IntWalk.i64_in _ (by omega)
      have w4 : IntKind.i64.wrap (10 * n + (c.toNat : Int)) = 10 * n + (c.toNat : Int) := IntWalk.i64_in _ (by omega)
      have w5 : IntKind.i64.wrap (10 * n + (c.toNat : Int) - 48) = 10 * n + ((c.toNat : Int) - 48) := by rw [IntWalk.i64_in _ (by omega)]; omega
      have ih' := ih (k + 1) (min (10 * n + ((c.toNat : Int) - 48)) 999999999) g2 (by omega) (by omega) (by omega)
      rw [hv, ← hv2] at ih'
      conv at ih' in loopAt _ _ => whnf
      simp only [go_sem, Nat.reduceLT, reduceIte, reduceCtorEq, Nat.reduceEqDiff, apply_ite (Option.map (outOf _)), Nat.reduceBEq, Nat.reduceAdd, Nat.reduceSub, Nat.reduceLeDiff, Nat.reduceMul, ty_shapeT_45, ty_zeroCells_45, ev_index ty_descOf_9, good_76, ev_conv_int ty_descOf_5 ty_descOf_3, ev_len_str ty_descOf_9, good_79, good_78, ev_slice_str ty_descOf_9, ev_build ty_zeroCells_45 ty_placesOf_45, ty_szOf_45, keep_80_4, d1, b, g1, Int.natCast_nonneg, Int.toNat_natCast, w1, w3, w4, w5, absMin, allInts, List.foldl_cons, List.foldl_nil, min_law, wrap_nat k (by omega)]
      rw [exL_head]
      simp only [go_sem, Nat.reduceLT, reduceIte, reduceCtorEq, Nat.reduceEqDiff, apply_ite (Option.map (outOf _)), Nat.reduceBEq, Nat.reduceAdd, Nat.reduceSub, Nat.reduceLeDiff, Nat.reduceMul, ty_shapeT_45, ty_zeroCells_45, ev_index ty_descOf_9, good_76, ev_conv_int ty_descOf_5 ty_descOf_3, ev_len_str ty_descOf_9, good_79, good_78, ev_slice_str ty_descOf_9, ev_build ty_zeroCells_45 ty_placesOf_45, ty_szOf_45, keep_80_4]
      exact ih'
abbrev tokAt (t : Tok) (i : Nat) : AV := .tup [.agg t.cells, .c (.pv (.int .i64 (i : Nat)))]
set_option maxHeartbeats 8000000 in
theorem number1_den (s : List UInt8) (i : Nat) (c : UInt8) (r : List UInt8) (neg : Bool) (l : List UInt8) (hs : s.length < 4000000000) (hd : s.drop i = c :: r) (hneg : (c == 45) = neg) (hl : l = if neg then r else c :: r) :
    den K 80 [T s, I i] [] = some (.ret (tokAt (Tk.number neg l).1 (i + (if neg then 1 else 0) + (Tk.number neg l).2)) []) := by
  obtain ⟨g1, g2, g3⟩ := drop_cons hd
  have e45 : ((c.toNat : Int) == 45) = neg := (u8_beq c 45).trans hneg
  obtain ⟨j, hj⟩ : ∃ j, j = i + (if neg then 1 else 0) := ⟨_, rfl⟩
  have hdj : s.drop j = l := by cases neg <;> simp only [Bool.false_eq_true, if_true, if_false, Nat.add_zero] at hj hl <;> subst hj <;> subst hl <;> assumption
  have hjl : j ≤ s.length := by cases neg <;> simp only [Bool.false_eq_true, if_true, if_false] at hj <;> omega
  have hll : l.length = s.length - j := by rw [← hdj, List.length_drop]
  have hrl := Tk.run_le (p := Tk.digit) l
  have hnum := Tk.num_bound (l := l) (n := 0) (by omega) (by omega)
  have hlp := nm_loop s hs i l j 0 hdj hjl (by omega) (by omega)
  conv at hlp in loopAt _ _ => whnf
  obtain ⟨o, S', w, rfl, fn, f0, f1, f4, f6, f7, fb⟩ := hlp
  unfold Tk.number
  rw [← hj]
  generalize hk : Tk.run Tk.digit l = k at hrl f7
  simp only
  have hde : s.drop (j + k) = l.drop k := by rw [← List.drop_drop, hdj]
  have dB := Begins_den s (j + k) hs (by omega)
  have dN := names_den s (j + k) hs (by omega)
  rw [hde] at dB dN
  have hul := Tk.unit_le (l.drop k)
  rw [List.length_drop] at hul
  have w3 : IntKind.i64.wrap (0 - Tk.num 0 l) = -Tk.num 0 l := by rw [IntWalk.i64_in _ (by omega)]; omega
  have w1 := wrap_nat (j + k) (by omega)
  have wi := wrap_nat i (by omega)
  have hunit : (decide (((j + k : Nat) : Int) < (s.length : Int)) = true ∧ (∃ d, s[j + k]? = some d ∧ ((d.toNat : Int) == 37) = true) ∧ Tk.unit (l.drop k) = 1) ∨ ((decide (((j + k : Nat) : Int) < (s.length : Int)) = false ∨ decide (((j + k : Nat) : Int) < (s.length : Int)) = true ∧ ∃ d, s[j + k]? = some d ∧ ((d.toNat : Int) == 37) = false) ∧ Tk.unit (l.drop k) = if Tk.nameB (l.drop k) then Tk.run Tk.within (l.drop k) else 0) := by
    unfold Tk.unit Tk.name
    by_cases hlt : j + k < s.length
    · have hdd := List.drop_eq_getElem_cons hlt
      rw [hde] at hdd
      have hg : s[j + k]? = some (s[j + k]'hlt) := List.getElem?_eq_getElem hlt
      have h0 : Tk.at0 (l.drop k) = s[j + k]'hlt := by rw [hdd]; rfl
      rw [h0]
      generalize s[j + k]'hlt = d at hg
      by_cases h37 : d = 37
      · left; exact ⟨decide_eq_true (by omega), ⟨d, hg, by rw [h37]; rfl⟩, by rw [if_pos h37]⟩
      · right; exact ⟨.inr ⟨decide_eq_true (by omega), d, hg, (u8_beq d 37).trans (by simpa using h37)⟩, by rw [if_neg h37]⟩
    · have hnil : l.drop k = [] := List.drop_eq_nil_of_le (by omega)
      rw [hnil]
      right; exact ⟨.inl (decide_eq_false (by omega)), rfl⟩
  generalize Tk.unit (l.drop k) = u at hul hunit
  have hsub : (s.take (j + k + u)).drop (j + k) = (l.drop k).take u := by rw [List.drop_take, hde]; congr 1; omega
  have b1 : (((j + k + u : Nat) : Int) ≤ (s.length : Int)) = True := eq_true (by omega)
  have b2 : (((j + k : Nat) : Int) ≤ ((j + k + u : Nat) : Int)) = True := eq_true (by omega)
  rw [← Nat.add_assoc]
  have z01 : ((0 : Int) = 1) = False := by simp
  have hr : Tryz.f80.results = #[.cell 4 45, .tmp 5] := rfl
  refine den_run rfl rfl Tryz.func80 rfl Tryz.ntmps80 ⟨by simp, by simp [LK]⟩ ?_
  cases neg
  · simp only [Bool.false_eq_true, if_false, Nat.add_zero] at hj ⊢
    subst hj
    simp only [go_sem, Nat.reduceLT, reduceIte, reduceCtorEq, Nat.reduceEqDiff, apply_ite (Option.map (outOf _)), Nat.reduceBEq, Nat.reduceAdd, Nat.reduceSub, Nat.reduceLeDiff, Nat.reduceMul, ty_shapeT_45, ty_zeroCells_45, ev_index ty_descOf_9, good_76, ev_conv_int ty_descOf_5 ty_descOf_3, ev_len_str ty_descOf_9, good_79, good_78, ev_slice_str ty_descOf_9, ev_build ty_zeroCells_45 ty_placesOf_45, ty_szOf_45, keep_80_4, g1, Int.natCast_nonneg, Int.toNat_natCast, e45]
    rw [exL_head]
    simp only [go_sem, Nat.reduceLT, reduceIte, reduceCtorEq, Nat.reduceEqDiff, apply_ite (Option.map (outOf _)), Nat.reduceBEq, Nat.reduceAdd, Nat.reduceSub, Nat.reduceLeDiff, Nat.reduceMul, ty_shapeT_45, ty_zeroCells_45, ev_index ty_descOf_9, good_76, ev_conv_int ty_descOf_5 ty_descOf_3, ev_len_str ty_descOf_9, good_79, good_78, ev_slice_str ty_descOf_9, ev_build ty_zeroCells_45 ty_placesOf_45, ty_szOf_45, keep_80_4]
    erw [w]
    rcases hunit with ⟨u1, ⟨d, u2, u3⟩, u4⟩ | ⟨u1, u4⟩
    · rw [u4] at b1 b2 hsub ⊢
      simp only [go_sem, Nat.reduceLT, reduceIte, reduceCtorEq, Nat.reduceEqDiff, apply_ite (Option.map (outOf _)), Nat.reduceBEq, Nat.reduceAdd, Nat.reduceSub, Nat.reduceLeDiff, Nat.reduceMul, ty_shapeT_45, ty_zeroCells_45, ev_index ty_descOf_9, good_76, ev_conv_int ty_descOf_5 ty_descOf_3, ev_len_str ty_descOf_9, good_79, good_78, ev_slice_str ty_descOf_9, ev_build ty_zeroCells_45 ty_placesOf_45, ty_szOf_45, keep_80_4, hr, fn, f0, f1, f4, f6, f7, fb, g1, Int.natCast_nonneg, Int.toNat_natCast, e45, w1, w3, u1, u2, u3, b1, b2, hsub, Tok.cells, tokAt, ty_shapeT_45]
    · cases hnb : Tk.nameB (l.drop k)
      · rw [hnb] at u4 dB
        simp only [Bool.false_eq_true, if_false] at u4
        rw [u4] at b1 b2 hsub ⊢
        simp only [Nat.add_zero] at b1 b2 hsub ⊢
        rcases u1 with u1 | ⟨u1, d, u2, u3⟩
        · simp only [go_sem, Nat.reduceLT, reduceIte, reduceCtorEq, Nat.reduceEqDiff, apply_ite (Option.map (outOf _)), Nat.reduceBEq, Nat.reduceAdd, Nat.reduceSub, Nat.reduceLeDiff, Nat.reduceMul, ty_shapeT_45, ty_zeroCells_45, ev_index ty_descOf_9, good_76, ev_conv_int ty_descOf_5 ty_descOf_3, ev_len_str ty_descOf_9, good_79, good_78, ev_slice_str ty_descOf_9, ev_build ty_zeroCells_45 ty_placesOf_45, ty_szOf_45, keep_80_4, hr, fn, f0, f1, f4, f6, f7, fb, g1, Int.natCast_nonneg, Int.toNat_natCast, e45, w1, w3, u1, dB, b1, b2, hsub, Tok.cells, tokAt, ty_shapeT_45]
        · simp only [go_sem, Nat.reduceLT, reduceIte, reduceCtorEq, Nat.reduceEqDiff, apply_ite (Option.map (outOf _)), Nat.reduceBEq, Nat.reduceAdd, Nat.reduceSub, Nat.reduceLeDiff, Nat.reduceMul, ty_shapeT_45, ty_zeroCells_45, ev_index ty_descOf_9, good_76, ev_conv_int ty_descOf_5 ty_descOf_3, ev_len_str ty_descOf_9, good_79, good_78, ev_slice_str ty_descOf_9, ev_build ty_zeroCells_45 ty_placesOf_45, ty_szOf_45, keep_80_4, hr, fn, f0, f1, f4, f6, f7, fb, g1, Int.natCast_nonneg, Int.toNat_natCast, e45, w1, w3, u1, u2, u3, dB, b1, b2, hsub, Tok.cells, tokAt, ty_shapeT_45]
      · rw [hnb] at u4 dB
        simp only [if_true] at u4
        rw [← u4] at dN
        rcases u1 with u1 | ⟨u1, d, u2, u3⟩
        · simp only [go_sem, Nat.reduceLT, reduceIte, reduceCtorEq, Nat.reduceEqDiff, apply_ite (Option.map (outOf _)), Nat.reduceBEq, Nat.reduceAdd, Nat.reduceSub, Nat.reduceLeDiff, Nat.reduceMul, ty_shapeT_45, ty_zeroCells_45, ev_index ty_descOf_9, good_76, ev_conv_int ty_descOf_5 ty_descOf_3, ev_len_str ty_descOf_9, good_79, good_78, ev_slice_str ty_descOf_9, ev_build ty_zeroCells_45 ty_placesOf_45, ty_szOf_45, keep_80_4, hr, fn, f0, f1, f4, f6, f7, fb, g1, Int.natCast_nonneg, Int.toNat_natCast, e45, w1, w3, u1, dB, dN, b1, b2, hsub, Tok.cells, tokAt, ty_shapeT_45]
        · simp only [go_sem, Nat.reduceLT, reduceIte, reduceCtorEq, Nat.reduceEqDiff, apply_ite (Option.map (outOf _)), Nat.reduceBEq, Nat.reduceAdd, Nat.reduceSub, Nat.reduceLeDiff, Nat.reduceMul, ty_shapeT_45, ty_zeroCells_45, ev_index ty_descOf_9, good_76, ev_conv_int ty_descOf_5 ty_descOf_3, ev_len_str ty_descOf_9, good_79, good_78, ev_slice_str ty_descOf_9, ev_build ty_zeroCells_45 ty_placesOf_45, ty_szOf_45, keep_80_4, hr, fn, f0, f1, f4, f6, f7, fb, g1, Int.natCast_nonneg, Int.toNat_natCast, e45, w1, w3, u1, u2, u3, dB, dN, b1, b2, hsub, Tok.cells, tokAt, ty_shapeT_45]
  · simp only [if_true] at hj ⊢
    subst hj
    simp only [go_sem, Nat.reduceLT, reduceIte, reduceCtorEq, Nat.reduceEqDiff, apply_ite (Option.map (outOf _)), Nat.reduceBEq, Nat.reduceAdd, Nat.reduceSub, Nat.reduceLeDiff, Nat.reduceMul, ty_shapeT_45, ty_zeroCells_45, ev_index ty_descOf_9, good_76, ev_conv_int ty_descOf_5 ty_descOf_3, ev_len_str ty_descOf_9, good_79, good_78, ev_slice_str ty_descOf_9, ev_build ty_zeroCells_45 ty_placesOf_45, ty_szOf_45, keep_80_4, g1, Int.natCast_nonneg, Int.toNat_natCast, e45, wi]
    rw [exL_head]
    simp only [go_sem, Nat.reduceLT, reduceIte, reduceCtorEq, Nat.reduceEqDiff, apply_ite (Option.map (outOf _)), Nat.reduceBEq, Nat.reduceAdd, Nat.reduceSub, Nat.reduceLeDiff, Nat.reduceMul, ty_shapeT_45, ty_zeroCells_45, ev_index ty_descOf_9, good_76, ev_conv_int ty_descOf_5 ty_descOf_3, ev_len_str ty_descOf_9, good_79, good_78, ev_slice_str ty_descOf_9, ev_build ty_zeroCells_45 ty_placesOf_45, ty_szOf_45, keep_80_4]
    erw [w]
    rcases hunit with ⟨u1, ⟨d, u2, u3⟩, u4⟩ | ⟨u1, u4⟩
    · rw [u4] at b1 b2 hsub ⊢
      simp only [go_sem, Nat.reduceLT, reduceIte, reduceCtorEq, Nat.reduceEqDiff, apply_ite (Option.map (outOf _)), Nat.reduceBEq, Nat.reduceAdd, Nat.reduceSub, Nat.reduceLeDiff, Nat.reduceMul, ty_shapeT_45, ty_zeroCells_45, ev_index ty_descOf_9, good_76, ev_conv_int ty_descOf_5 ty_descOf_3, ev_len_str ty_descOf_9, good_79, good_78, ev_slice_str ty_descOf_9, ev_build ty_zeroCells_45 ty_placesOf_45, ty_szOf_45, keep_80_4, hr, fn, f0, f1, f4, f6, f7, fb, g1, Int.natCast_nonneg, Int.toNat_natCast, e45, w1, w3, u1, u2, u3, b1, b2, hsub, Tok.cells, tokAt, ty_shapeT_45]
    · cases hnb : Tk.nameB (l.drop k)
      · rw [hnb] at u4 dB
        simp only [Bool.false_eq_true, if_false] at u4
        rw [u4] at b1 b2 hsub ⊢
        simp only [Nat.add_zero] at b1 b2 hsub ⊢
        rcases u1 with u1 | ⟨u1, d, u2, u3⟩
        · simp only [go_sem, Nat.reduceLT, reduceIte, reduceCtorEq, Nat.reduceEqDiff, apply_ite (Option.map (outOf _)), Nat.reduceBEq, Nat.reduceAdd, Nat.reduceSub, Nat.reduceLeDiff, Nat.reduceMul, ty_shapeT_45, ty_zeroCells_45, ev_index ty_descOf_9, good_76, ev_conv_int ty_descOf_5 ty_descOf_3, ev_len_str ty_descOf_9, good_79, good_78, ev_slice_str ty_descOf_9, ev_build ty_zeroCells_45 ty_placesOf_45, ty_szOf_45, keep_80_4, hr, fn, f0, f1, f4, f6, f7, fb, g1, Int.natCast_nonneg, Int.toNat_natCast, e45, w1, w3, u1, dB, b1, b2, hsub, Tok.cells, tokAt, ty_shapeT_45]
        · simp only [go_sem, Nat.reduceLT, reduceIte, reduceCtorEq, Nat.reduceEqDiff, apply_ite (Option.map (outOf _)), Nat.reduceBEq, Nat.reduceAdd, Nat.reduceSub, Nat.reduceLeDiff, Nat.reduceMul, ty_shapeT_45, ty_zeroCells_45, ev_index ty_descOf_9, good_76, ev_conv_int ty_descOf_5 ty_descOf_3, ev_len_str ty_descOf_9, good_79, good_78, ev_slice_str ty_descOf_9, ev_build ty_zeroCells_45 ty_placesOf_45, ty_szOf_45, keep_80_4, hr, fn, f0, f1, f4, f6, f7, fb, g1, Int.natCast_nonneg, Int.toNat_natCast, e45, w1, w3, u1, u2, u3, dB, b1, b2, hsub, Tok.cells, tokAt, ty_shapeT_45]
      · rw [hnb] at u4 dB
        simp only [if_true] at u4
        rw [← u4] at dN
        rcases u1 with u1 | ⟨u1, d, u2, u3⟩
        · simp only [go_sem, Nat.reduceLT, reduceIte, reduceCtorEq, Nat.reduceEqDiff, apply_ite (Option.map (outOf _)), Nat.reduceBEq, Nat.reduceAdd, Nat.reduceSub, Nat.reduceLeDiff, Nat.reduceMul, ty_shapeT_45, ty_zeroCells_45, ev_index ty_descOf_9, good_76, ev_conv_int ty_descOf_5 ty_descOf_3, ev_len_str ty_descOf_9, good_79, good_78, ev_slice_str ty_descOf_9, ev_build ty_zeroCells_45 ty_placesOf_45, ty_szOf_45, keep_80_4, hr, fn, f0, f1, f4, f6, f7, fb, g1, Int.natCast_nonneg, Int.toNat_natCast, e45, w1, w3, u1, dB, dN, b1, b2, hsub, Tok.cells, tokAt, ty_shapeT_45]
        · simp only [go_sem, Nat.reduceLT, reduceIte, reduceCtorEq, Nat.reduceEqDiff, apply_ite (Option.map (outOf _)), Nat.reduceBEq, Nat.reduceAdd, Nat.reduceSub, Nat.reduceLeDiff, Nat.reduceMul, ty_shapeT_45, ty_zeroCells_45, ev_index ty_descOf_9, good_76, ev_conv_int ty_descOf_5 ty_descOf_3, ev_len_str ty_descOf_9, good_79, good_78, ev_slice_str ty_descOf_9, ev_build ty_zeroCells_45 ty_placesOf_45, ty_szOf_45, keep_80_4, hr, fn, f0, f1, f4, f6, f7, fb, g1, Int.natCast_nonneg, Int.toNat_natCast, e45, w1, w3, u1, u2, u3, dB, dN, b1, b2, hsub, Tok.cells, tokAt, ty_shapeT_45]
end Go.Abs
namespace Go.Abs
open Go Go.Proofs
set_option maxRecDepth 10000
attribute [local go_sem] exL_seq exL_region exL_cond exL_block exL_scope exL_ret exL_skip exL_exit runRegion runOps stepOp guardA absOp takeOver opd avOf cvOf St.degAt St.put okPV okVal okAV absBin intBin strBin boolBin setBoxes if_true Bool.false_eq_true if_false Option.map_some Option.map_none Option.bind_some Option.bind_none thenO outOf upd List.toList_toArray isOwn steal appArgs inApps AV.deg CV.deg AV.gv AV.isIter absNext some_bne List.length_nil List.length_cons List.filterMap_cons List.filterMap_nil beq_iff_eq List.getElem?_cons_zero List.getElem?_cons_succ Option.getD_some K_hook hookB Bool.false_and Bool.and_false Bool.and_self K_P K_own absCall doCall getBoxes lend back idx dedup AV.ren CV.ren TV.ren AV.ptrs CV.ptrs zipBox AV.flat CV.flat absLoad absStore cellsOfAV setAt newBox markB bldTypes absFieldAddr absField absExtract absAssert noAssert absMkIface ifcOf CV.pv? content pushHead ownT fillCells reps pvs chunks enterSt leave resOf resVars resVar outBoxes lentOnly TV.deg TV.av LK CV.plain CV.noBld nilBin absUn bound List.map_cons List.map_nil List.all_cons List.all_nil List.any_cons List.any_nil List.contains_cons List.contains_nil List.elem_cons List.elem_nil List.cons_append List.nil_append List.append_nil List.flatMap_cons List.flatMap_nil List.zip_cons_cons List.zip_nil_left List.zip_nil_right List.take_succ_cons List.take_zero List.take_nil List.drop_succ_cons List.drop_zero List.drop_nil List.isEmpty_nil List.isEmpty_cons Bool.and_true Bool.true_and Bool.or_true Bool.true_or Bool.or_false Bool.false_or Bool.not_true Bool.not_false Nat.add_zero Nat.zero_add Option.isNone_none Option.isNone_some Option.getD_none true_and and_true not_true_eq_false not_false_eq_true decide_true decide_false Nat.le_refl and_self Bool.not_eq_true Nat.sub_self or_true true_or Option.some.injEq List.length_map List.nil_eq and_false false_and AV.live CV.live CV.liveIn K_keep firstReg Option.orElse_some Option.orElse_none head keepSlots keepBoxes Int.lt_irrefl List.length_append ite_self memOK logOps opKey lentBoxes Key.clash Key.sees Key.writes Nat.lt_irrefl gt_iff_lt nobox_at bot_at false_or or_false beq_self_eq_true Bool.true_beq Bool.false_beq
abbrev blH (s : List UInt8) (k : Nat) : St := { sl := upd (upd (upd bot 6 (I k)) 4 (.c (.loc 4 0))) 0 (T s), bx := upd nobox 4 (some [.pv (.int .i64 0), .pv (.str []), .pv (.int .i64 0)]), nt := 181 }
theorem bl_loop (s : List UInt8) (hs : s.length < 4000000000) : ∀ (rest : List UInt8) (k : Nat), s.drop k = rest → k ≤ s.length →
    Ends (exL K 45 (.loop (loopAt Tryz.f45 5)) (blH s k)) fun o S => o = .exit 0 ∧ S.nt = 181 ∧ S.sl 4 = .c (.loc 4 0) ∧ S.sl 6 = I (k + Tk.run Tk.blank rest : Nat) ∧ S.bx = upd nobox 4 (some [.pv (.int .i64 0), .pv (.str []), .pv (.int .i64 0)]) := by
  intro rest
  induction rest with
  | nil =>
    intro k hd hk
    have d1 := at1_den s k hs
    rw [hd] at d1
    have v0 : atC [] = -1 := rfl
    rw [v0] at d1
    have e0 : ((-1 : Int) == 4) = false := by decide
    conv in loopAt _ _ => whnf
    rw [exL_loop]
    simp only [go_sem, Nat.reduceLT, reduceIte, reduceCtorEq, Nat.reduceEqDiff, apply_ite (Option.map (outOf _)), Nat.reduceBEq, Nat.reduceAdd, Nat.reduceSub, Nat.reduceLeDiff, Nat.reduceMul, ty_shapeT_45, ty_zeroCells_45, ev_index ty_descOf_9, ev_len_str ty_descOf_9, ev_build ty_zeroCells_45 ty_placesOf_45, good_75, ty_szOf_45, good_76, good_77, ev_slice_str ty_descOf_9, ev_conv_int ty_descOf_5 ty_descOf_3, good_78, good_79, good_80, keep_45_5, ends_some, d1, e0, Tk.run_nil]
  | cons c rest ih =>
    intro k hd hk
    obtain ⟨g1, g2, g3⟩ := drop_cons hd
    have d1 := at1_den s k hs
    rw [hd] at d1
    have v0 : atC (c :: rest) = classI c := rfl
    rw [v0] at d1
    obtain ⟨_, _, _, f, _⟩ := class_facts c
    conv in loopAt _ _ => whnf
    rw [exL_loop]
    cases b : (classI c == 4)
    · rw [b] at f
      have hv : Tk.run Tk.blank (c :: rest) = 0 := by rw [Tk.run, ← f]; rfl
      simp only [go_sem, Nat.reduceLT, reduceIte, reduceCtorEq, Nat.reduceEqDiff, apply_ite (Option.map (outOf _)), Nat.reduceBEq, Nat.reduceAdd, Nat.reduceSub, Nat.reduceLeDiff, Nat.reduceMul, ty_shapeT_45, ty_zeroCells_45, ev_index ty_descOf_9, ev_len_str ty_descOf_9, ev_build ty_zeroCells_45 ty_placesOf_45, good_75, ty_szOf_45, good_76, good_77, ev_slice_str ty_descOf_9, ev_conv_int ty_descOf_5 ty_descOf_3, good_78, good_79, good_80, keep_45_5, ends_some, d1, b, hv]
    · rw [b] at f
      have hv : k + 1 + Tk.run Tk.blank rest = k + Tk.run Tk.blank (c :: rest) := by rw [Tk.run, if_pos f.symm]; omega
      have ih' := ih (k + 1) g2 (by omega)
      rw [hv] at ih'
      conv at ih' in loopAt _ _ => whnf
      simp only [go_sem, Nat.reduceLT, reduceIte, reduceCtorEq, Nat.reduceEqDiff, apply_ite (Option.map (outOf _)), Nat.reduceBEq, Nat.reduceAdd, Nat.reduceSub, Nat.reduceLeDiff, Nat.reduceMul, ty_shapeT_45, ty_zeroCells_45, ev_index ty_descOf_9, ev_len_str ty_descOf_9, ev_build ty_zeroCells_45 ty_placesOf_45, good_75, ty_szOf_45, good_76, good_77, ev_slice_str ty_descOf_9, ev_conv_int ty_descOf_5 ty_descOf_3, good_78, good_79, good_80, keep_45_5, d1, b, wrap_nat k (by omega)]
      rw [exL_head]
      simp only [go_sem, Nat.reduceLT, reduceIte, reduceCtorEq, Nat.reduceEqDiff, apply_ite (Option.map (outOf _)), Nat.reduceBEq, Nat.reduceAdd, Nat.reduceSub, Nat.reduceLeDiff, Nat.reduceMul, ty_shapeT_45, ty_zeroCells_45, ev_index ty_descOf_9, ev_len_str ty_descOf_9, ev_build ty_zeroCells_45 ty_placesOf_45, good_75, ty_szOf_45, good_76, good_77, ev_slice_str ty_descOf_9, ev_conv_int ty_descOf_5 ty_descOf_3, good_78, good_79, good_80, keep_45_5]
      exact ih'
def stepT (o : Option Tok) : Tok := o.getD ⟨0, [], 0⟩
set_option maxHeartbeats 32000000 in
theorem next1_den (s : List UInt8) (i : Nat) (c : UInt8) (r : List UInt8) (hs : s.length < 4000000000) (hd : s.drop i = c :: r) :
    den K 45 [T s, I i] [] = some (.ret (tokAt (stepT (Tk.step c r).1) (i + (Tk.step c r).2)) []) := by
  have hr : Tryz.f45.results = #[.cell 4 45, .tmp 5] := rfl
  obtain ⟨g1, g2, g3⟩ := drop_cons hd
  have hlen : s.length = i + 1 + r.length := by
    have := congrArg List.length hd
    rw [List.length_drop, List.length_cons] at this
    omega
  have wi := wrap_nat i (by omega)
  have d4 := at1_den s i hs
  have d5 := at1_den s (i + 1) hs
  rw [hd] at d4
  rw [g2] at d5
  have v0 : atC (c :: r) = classI c := rfl
  rw [v0] at d4
  obtain ⟨_, f2, _, f4, _⟩ := class_facts c
  obtain ⟨_, f5, _, _, _⟩ := atC_facts r
  have e47 : ((c.toNat : Int) == 47) = (c == 47) := u8_beq c 47
  have e34 : ((c.toNat : Int) == 34) = (c == 34) := u8_beq c 34
  have e39 : ((c.toNat : Int) == 39) = (c == 39) := u8_beq c 39
  have e35 : ((c.toNat : Int) == 35) = (c == 35) := u8_beq c 35
  have e64 : ((c.toNat : Int) == 64) = (c == 64) := u8_beq c 64
  have e45 : ((c.toNat : Int) == 45) = (c == 45) := u8_beq c 45
  have hB0 := Begins_den s i hs (by omega)
  have hB1 := Begins_den s (i + 1) hs (by omega)
  have hN0 := names_den s i hs (by omega)
  have hN1 := names_den s (i + 1) hs (by omega)
  rw [hd] at hB0 hN0
  rw [g2] at hB1 hN1
  have hI := inner1_den s i c r hs hd
  have hsd : (s.take (i + 1)).drop i = [c] := by rw [List.drop_take, hd]; rw [show i + 1 - i = 1 by omega]; rfl
  have bd1 : (((i + 1 : Nat) : Int) ≤ (s.length : Int)) = True := eq_true (by omega)
  have bd2 : (((i : Nat) : Int) ≤ ((i + 1 : Nat) : Int)) = True := eq_true (by omega)
  have nz : ∀ d : UInt8, c = d → Tk.within d = false → Tk.nameB (c :: r) = false := fun d h hw => Tk.nameB_head (c := d) (by rw [Tk.at0_cons]; exact h) hw
  have hrl := Tk.run_le (p := Tk.within) r
  have hlt1 : ∀ d r', r = d :: r' → decide (((i + 1 : Nat) : Int) < (s.length : Int)) = true := fun d r' h => decide_eq_true (by rw [hlen, h]; simp; omega)
  by_cases h47 : c = 47
  · have q47 : (c == 47) = true := by simp [h47]
    rw [q47] at e47
    have q34 : (c == 34) = false := by simp [h47]
    have q39 : (c == 39) = false := by simp [h47]
    have q35 : (c == 35) = false := by simp [h47]
    have q64 : (c == 64) = false := by simp [h47]
    have q45 : (c == 45) = false := by simp [h47]
    have qd : Tk.digit c = false := by rw [h47]; decide
    have qb : Tk.blank c = false := by rw [h47]; decide
    have qn := nz 47 h47 (by decide)
    rw [q34] at e34
    rw [q39] at e39
    rw [q35] at e35
    rw [q64] at e64
    rw [q45] at e45
    rw [qd] at f2
    rw [qb] at f4
    rw [qn] at hB0
    have hdef : ¬ (c = 47 ∧ Tk.at0 r = 42) → Tk.step c r = (some ⟨7, [c], 0⟩, 1) := fun h1 => by
      unfold Tk.step
      rw [if_neg h1, if_neg (by simp [qb]), if_neg (fun x => by rcases x.1 with x | x <;> (rw [h47] at x; exact absurd x (by decide))), if_neg (fun x => by rw [h47] at x; exact absurd x.1 (by decide)), if_neg (fun x => by rw [h47] at x; exact absurd x.1 (by decide)), if_neg (by simp [qd]), if_neg (fun x => by rw [h47] at x; exact absurd x.1 (by decide)), if_neg (by rw [Tk.name_zero qn]; omega)]
    cases r with
    | nil =>
      have e := hdef (fun h => absurd h.2 (by decide))
      have hl0 : decide (((i + 1 : Nat) : Int) < (s.length : Int)) = false := decide_eq_false (by rw [hlen]; simp)
      rw [e]
      refine den_run rfl rfl Tryz.func45 rfl Tryz.ntmps45 ⟨by simp, by simp [LK]⟩ ?_
      simp only [go_sem, Nat.reduceLT, reduceIte, reduceCtorEq, Nat.reduceEqDiff, apply_ite (Option.map (outOf _)), Nat.reduceBEq, Nat.reduceAdd, Nat.reduceSub, Nat.reduceLeDiff, Nat.reduceMul, ty_shapeT_45, ty_zeroCells_45, ev_index ty_descOf_9, ev_len_str ty_descOf_9, ev_build ty_zeroCells_45 ty_placesOf_45, good_75, ty_szOf_45, good_76, good_77, ev_slice_str ty_descOf_9, ev_conv_int ty_descOf_5 ty_descOf_3, good_78, good_79, good_80, keep_45_5, hr, Int.natCast_nonneg, Int.toNat_natCast, Int.le_refl, ty_shapeT_45, tokAt, Tok.cells, stepT, Option.getD_some, g1, e47, hl0, d4, f4, e34, e39, e35, e64, f2, e45, hB0, wi, hsd, bd1, bd2]
    | cons d r' =>
      have hl0 := hlt1 d r' rfl
      obtain ⟨k1, k2, k3⟩ := drop_cons g2
      have e42 : ((d.toNat : Int) == 42) = (d == 42) := u8_beq d 42
      by_cases h42 : d = 42
      · have q42 : (d == 42) = true := by simp [h42]
        rw [q42] at e42
        have e : Tk.step c (d :: r') = (none, Tk.comment r') := by unfold Tk.step; rw [if_pos ⟨h47, h42⟩]; rfl
        have hC := comment1_den s i hs (by rw [hlen]; simp; omega)
        have g4 : s.drop (i + 2) = r' := k2
        rw [g4] at hC
        rw [e]
        refine den_run rfl rfl Tryz.func45 rfl Tryz.ntmps45 ⟨by simp, by simp [LK]⟩ ?_
        simp only [go_sem, Nat.reduceLT, reduceIte, reduceCtorEq, Nat.reduceEqDiff, apply_ite (Option.map (outOf _)), Nat.reduceBEq, Nat.reduceAdd, Nat.reduceSub, Nat.reduceLeDiff, Nat.reduceMul, ty_shapeT_45, ty_zeroCells_45, ev_index ty_descOf_9, ev_len_str ty_descOf_9, ev_build ty_zeroCells_45 ty_placesOf_45, good_75, ty_szOf_45, good_76, good_77, ev_slice_str ty_descOf_9, ev_conv_int ty_descOf_5 ty_descOf_3, good_78, good_79, good_80, keep_45_5, hr, Int.natCast_nonneg, Int.toNat_natCast, Int.le_refl, ty_shapeT_45, tokAt, Tok.cells, stepT, Option.getD_none, g1, k1, wi, e47, hl0, e42, hC]
      · have q42 : (d == 42) = false := by simpa using h42
        rw [q42] at e42
        have e := hdef (fun h => h42 h.2)
        rw [e]
        refine den_run rfl rfl Tryz.func45 rfl Tryz.ntmps45 ⟨by simp, by simp [LK]⟩ ?_
        simp only [go_sem, Nat.reduceLT, reduceIte, reduceCtorEq, Nat.reduceEqDiff, apply_ite (Option.map (outOf _)), Nat.reduceBEq, Nat.reduceAdd, Nat.reduceSub, Nat.reduceLeDiff, Nat.reduceMul, ty_shapeT_45, ty_zeroCells_45, ev_index ty_descOf_9, ev_len_str ty_descOf_9, ev_build ty_zeroCells_45 ty_placesOf_45, good_75, ty_szOf_45, good_76, good_77, ev_slice_str ty_descOf_9, ev_conv_int ty_descOf_5 ty_descOf_3, good_78, good_79, good_80, keep_45_5, hr, Int.natCast_nonneg, Int.toNat_natCast, Int.le_refl, ty_shapeT_45, tokAt, Tok.cells, stepT, Option.getD_some, g1, k1, e47, hl0, e42, d4, f4, e34, e39, e35, e64, f2, e45, hB0, wi, hsd, bd1, bd2]
  have q47 : (c == 47) = false := by simpa using h47
  rw [q47] at e47
  have h1 : ¬ (c = 47 ∧ Tk.at0 r = 42) := fun h => h47 h.1
  by_cases h2 : Tk.blank c = true
  · have e : Tk.step c r = (some ⟨8, [10], 0⟩, Tk.run Tk.blank (c :: r)) := by unfold Tk.step; rw [if_neg h1, if_pos h2]
    rw [h2] at f4
    have hl := bl_loop s hs (c :: r) i hd (by omega)
    conv at hl in loopAt _ _ => whnf
    obtain ⟨o, S', w, rfl, fn, f4', f6, fb⟩ := hl
    rw [e]
    refine den_run rfl rfl Tryz.func45 rfl Tryz.ntmps45 ⟨by simp, by simp [LK]⟩ ?_
    simp only [go_sem, Nat.reduceLT, reduceIte, reduceCtorEq, Nat.reduceEqDiff, apply_ite (Option.map (outOf _)), Nat.reduceBEq, Nat.reduceAdd, Nat.reduceSub, Nat.reduceLeDiff, Nat.reduceMul, ty_shapeT_45, ty_zeroCells_45, ev_index ty_descOf_9, ev_len_str ty_descOf_9, ev_build ty_zeroCells_45 ty_placesOf_45, good_75, ty_szOf_45, good_76, good_77, ev_slice_str ty_descOf_9, ev_conv_int ty_descOf_5 ty_descOf_3, good_78, good_79, good_80, keep_45_5, hr, Int.natCast_nonneg, Int.toNat_natCast, Int.le_refl, ty_shapeT_45, tokAt, Tok.cells, stepT, Option.getD_some, g1, e47, d4, f4]
    rw [exL_head]
    simp only [go_sem, Nat.reduceLT, reduceIte, reduceCtorEq, Nat.reduceEqDiff, apply_ite (Option.map (outOf _)), Nat.reduceBEq, Nat.reduceAdd, Nat.reduceSub, Nat.reduceLeDiff, Nat.reduceMul, ty_shapeT_45, ty_zeroCells_45, ev_index ty_descOf_9, ev_len_str ty_descOf_9, ev_build ty_zeroCells_45 ty_placesOf_45, good_75, ty_szOf_45, good_76, good_77, ev_slice_str ty_descOf_9, ev_conv_int ty_descOf_5 ty_descOf_3, good_78, good_79, good_80, keep_45_5, hr, Int.natCast_nonneg, Int.toNat_natCast, Int.le_refl, ty_shapeT_45, tokAt, Tok.cells]
    erw [w]
    simp only [go_sem, Nat.reduceLT, reduceIte, reduceCtorEq, Nat.reduceEqDiff, apply_ite (Option.map (outOf _)), Nat.reduceBEq, Nat.reduceAdd, Nat.reduceSub, Nat.reduceLeDiff, Nat.reduceMul, ty_shapeT_45, ty_zeroCells_45, ev_index ty_descOf_9, ev_len_str ty_descOf_9, ev_build ty_zeroCells_45 ty_placesOf_45, good_75, ty_szOf_45, good_76, good_77, ev_slice_str ty_descOf_9, ev_conv_int ty_descOf_5 ty_descOf_3, good_78, good_79, good_80, keep_45_5, hr, Int.natCast_nonneg, Int.toNat_natCast, Int.le_refl, ty_shapeT_45, tokAt, Tok.cells, stepT, Option.getD_some, fn, f4', f6, fb]
  have qb : Tk.blank c = false := by simpa using h2
  rw [qb] at f4
  by_cases hq : c = 34 ∨ c = 39
  · have q35 : (c == 35) = false := by rcases hq with rfl | rfl <;> decide
    have q64 : (c == 64) = false := by rcases hq with rfl | rfl <;> decide
    have q45 : (c == 45) = false := by rcases hq with rfl | rfl <;> decide
    have qd : Tk.digit c = false := by rcases hq with rfl | rfl <;> decide
    have qn := nz c rfl (by rcases hq with rfl | rfl <;> decide)
    have q3 : (((c.toNat : Int) == 34) = true) ∨ (((c.toNat : Int) == 34) = false ∧ ((c.toNat : Int) == 39) = true) := by rcases hq with rfl | rfl <;> decide
    rw [q35] at e35
    rw [q64] at e64
    rw [q45] at e45
    rw [qd] at f2
    rw [qn] at hB0
    clear e34 e39
    unfold innerK at hI
    cases hi : Tk.inner c r with
    | none =>
      rw [hi] at hI
      have en : decide ((0 : Int) < -1) = false := by decide
      have e : Tk.step c r = (some ⟨7, [c], 0⟩, 1) := by
        unfold Tk.step
        rw [if_neg h1, if_neg h2, if_neg (fun x => by rw [hi] at x; cases x.2), if_neg (fun x => by simp [x.1] at q35), if_neg (fun x => by simp [x.1] at q64), if_neg (by simp [qd]), if_neg (fun x => by simp [x.1] at q45), if_neg (by rw [Tk.name_zero qn]; omega)]
      rcases q3 with e34 | ⟨e34, e39⟩
      ·
        rw [e]
        refine den_run rfl rfl Tryz.func45 rfl Tryz.ntmps45 ⟨by simp, by simp [LK]⟩ ?_
        simp only [go_sem, Nat.reduceLT, reduceIte, reduceCtorEq, Nat.reduceEqDiff, apply_ite (Option.map (outOf _)), Nat.reduceBEq, Nat.reduceAdd, Nat.reduceSub, Nat.reduceLeDiff, Nat.reduceMul, ty_shapeT_45, ty_zeroCells_45, ev_index ty_descOf_9, ev_len_str ty_descOf_9, ev_build ty_zeroCells_45 ty_placesOf_45, good_75, ty_szOf_45, good_76, good_77, ev_slice_str ty_descOf_9, ev_conv_int ty_descOf_5 ty_descOf_3, good_78, good_79, good_80, keep_45_5, hr, Int.natCast_nonneg, Int.toNat_natCast, Int.le_refl, ty_shapeT_45, tokAt, Tok.cells, stepT, Option.getD_some, g1, e47, d4, f4, e34, hI, en, e35, e64, f2, e45, hB0, wi, hsd, bd1, bd2]
      ·
        rw [e]
        refine den_run rfl rfl Tryz.func45 rfl Tryz.ntmps45 ⟨by simp, by simp [LK]⟩ ?_
        simp only [go_sem, Nat.reduceLT, reduceIte, reduceCtorEq, Nat.reduceEqDiff, apply_ite (Option.map (outOf _)), Nat.reduceBEq, Nat.reduceAdd, Nat.reduceSub, Nat.reduceLeDiff, Nat.reduceMul, ty_shapeT_45, ty_zeroCells_45, ev_index ty_descOf_9, ev_len_str ty_descOf_9, ev_build ty_zeroCells_45 ty_placesOf_45, good_75, ty_szOf_45, good_76, good_77, ev_slice_str ty_descOf_9, ev_conv_int ty_descOf_5 ty_descOf_3, good_78, good_79, good_80, keep_45_5, hr, Int.natCast_nonneg, Int.toNat_natCast, Int.le_refl, ty_shapeT_45, tokAt, Tok.cells, stepT, Option.getD_some, g1, e47, d4, f4, e34, e39, hI, en, e35, e64, f2, e45, hB0, wi, hsd, bd1, bd2]
    | some n =>
      rw [hi] at hI
      have hnl := Tk.inner_le hi
      have e : Tk.step c r = (some ⟨6, r.take n, c.toNat⟩, n + 2) := by unfold Tk.step; rw [if_neg h1, if_neg h2, if_pos ⟨hq, by rw [hi]; rfl⟩, hi]; rfl
      have en : decide ((0 : Int) < ((i + 1 + n : Nat) : Int)) = true := decide_eq_true (by omega)
      have hsl : (s.take (i + 1 + n)).drop (i + 1) = r.take n := by rw [List.drop_take, g2]; congr 1; omega
      have b1 : (((i + 1 + n : Nat) : Int) ≤ (s.length : Int)) = True := eq_true (by omega)
      have b2 : (((i + 1 : Nat) : Int) ≤ ((i + 1 + n : Nat) : Int)) = True := eq_true (by omega)
      have w3 : IntKind.i64.wrap (c.toNat : Int) = (c.toNat : Int) := IntWalk.i64_in _ (by have := c.toNat_lt; omega)
      have w4 := wrap_nat (i + 1 + n) (by omega)
      have hend : i + (n + 2) = i + 1 + n + 1 := by omega
      rw [e]
      simp only [hend]
      rcases q3 with e34 | ⟨e34, e39⟩
      ·
        refine den_run rfl rfl Tryz.func45 rfl Tryz.ntmps45 ⟨by simp, by simp [LK]⟩ ?_
        simp only [go_sem, Nat.reduceLT, reduceIte, reduceCtorEq, Nat.reduceEqDiff, apply_ite (Option.map (outOf _)), Nat.reduceBEq, Nat.reduceAdd, Nat.reduceSub, Nat.reduceLeDiff, Nat.reduceMul, ty_shapeT_45, ty_zeroCells_45, ev_index ty_descOf_9, ev_len_str ty_descOf_9, ev_build ty_zeroCells_45 ty_placesOf_45, good_75, ty_szOf_45, good_76, good_77, ev_slice_str ty_descOf_9, ev_conv_int ty_descOf_5 ty_descOf_3, good_78, good_79, good_80, keep_45_5, hr, Int.natCast_nonneg, Int.toNat_natCast, Int.le_refl, ty_shapeT_45, tokAt, Tok.cells, stepT, Option.getD_some, g1, e47, d4, f4, e34, hI, en, wi, hsl, b1, b2, w3, w4]
      ·
        refine den_run rfl rfl Tryz.func45 rfl Tryz.ntmps45 ⟨by simp, by simp [LK]⟩ ?_
        simp only [go_sem, Nat.reduceLT, reduceIte, reduceCtorEq, Nat.reduceEqDiff, apply_ite (Option.map (outOf _)), Nat.reduceBEq, Nat.reduceAdd, Nat.reduceSub, Nat.reduceLeDiff, Nat.reduceMul, ty_shapeT_45, ty_zeroCells_45, ev_index ty_descOf_9, ev_len_str ty_descOf_9, ev_build ty_zeroCells_45 ty_placesOf_45, good_75, ty_szOf_45, good_76, good_77, ev_slice_str ty_descOf_9, ev_conv_int ty_descOf_5 ty_descOf_3, good_78, good_79, good_80, keep_45_5, hr, Int.natCast_nonneg, Int.toNat_natCast, Int.le_refl, ty_shapeT_45, tokAt, Tok.cells, stepT, Option.getD_some, g1, e47, d4, f4, e34, e39, hI, en, wi, hsl, b1, b2, w3, w4]
  rw [not_or] at hq
  have q34 : (c == 34) = false := by simpa using hq.1
  have q39 : (c == 39) = false := by simpa using hq.2
  rw [q34] at e34
  rw [q39] at e39
  have h3 : ¬ ((c = 34 ∨ c = 39) ∧ (Tk.inner c r).isSome = true) := fun x => by rcases x.1 with x | x; exact hq.1 x; exact hq.2 x
  clear hI
  by_cases h4 : c = 35
  · have q35 : (c == 35) = true := by simp [h4]
    have q64 : (c == 64) = false := by simp [h4]
    have q45 : (c == 45) = false := by simp [h4]
    have qd : Tk.digit c = false := by rw [h4]; decide
    have qn := nz 35 h4 (by decide)
    rw [q35] at e35
    rw [q64] at e64
    rw [q45] at e45
    rw [qd] at f2
    rw [qn] at hB0
    by_cases hpos : 0 < Tk.run Tk.within r
    · have e : Tk.step c r = (some ⟨4, r.take (Tk.run Tk.within r), 0⟩, Tk.run Tk.within r + 1) := by unfold Tk.step; rw [if_neg h1, if_neg h2, if_neg h3, if_pos ⟨h4, hpos⟩]
      have hsl : (s.take (i + 1 + Tk.run Tk.within r)).drop (i + 1) = r.take (Tk.run Tk.within r) := by rw [List.drop_take, g2]; congr 1; omega
      have hend : i + (Tk.run Tk.within r + 1) = i + 1 + Tk.run Tk.within r := by omega
      rw [e]
      simp only [hend]
      generalize Tk.run Tk.within r = n at hN1 hrl hpos hsl
      have en : decide (((i + 1 : Nat) : Int) < ((i + 1 + n : Nat) : Int)) = true := decide_eq_true (by omega)
      have b1 : (((i + 1 + n : Nat) : Int) ≤ (s.length : Int)) = True := eq_true (by omega)
      have b2 : (((i + 1 : Nat) : Int) ≤ ((i + 1 + n : Nat) : Int)) = True := eq_true (by omega)
      refine den_run rfl rfl Tryz.func45 rfl Tryz.ntmps45 ⟨by simp, by simp [LK]⟩ ?_
      simp only [go_sem, Nat.reduceLT, reduceIte, reduceCtorEq, Nat.reduceEqDiff, apply_ite (Option.map (outOf _)), Nat.reduceBEq, Nat.reduceAdd, Nat.reduceSub, Nat.reduceLeDiff, Nat.reduceMul, ty_shapeT_45, ty_zeroCells_45, ev_index ty_descOf_9, ev_len_str ty_descOf_9, ev_build ty_zeroCells_45 ty_placesOf_45, good_75, ty_szOf_45, good_76, good_77, ev_slice_str ty_descOf_9, ev_conv_int ty_descOf_5 ty_descOf_3, good_78, good_79, good_80, keep_45_5, hr, Int.natCast_nonneg, Int.toNat_natCast, Int.le_refl, ty_shapeT_45, tokAt, Tok.cells, stepT, Option.getD_some, g1, e47, d4, f4, e34, e39, e35, wi, hN1, en, hsl, b1, b2]
    · have hr0 : Tk.run Tk.within r = 0 := by omega
      have e : Tk.step c r = (some ⟨7, [c], 0⟩, 1) := by
        unfold Tk.step
        rw [if_neg h1, if_neg h2, if_neg h3, if_neg (fun x => hpos x.2), if_neg (fun x => by simp [x.1] at q64), if_neg (by simp [qd]), if_neg (fun x => by simp [x.1] at q45), if_neg (by rw [Tk.name_zero qn]; omega)]
      rw [hr0, Nat.add_zero] at hN1
      rw [e]
      refine den_run rfl rfl Tryz.func45 rfl Tryz.ntmps45 ⟨by simp, by simp [LK]⟩ ?_
      simp only [go_sem, Nat.reduceLT, reduceIte, reduceCtorEq, Nat.reduceEqDiff, apply_ite (Option.map (outOf _)), Nat.reduceBEq, Nat.reduceAdd, Nat.reduceSub, Nat.reduceLeDiff, Nat.reduceMul, ty_shapeT_45, ty_zeroCells_45, ev_index ty_descOf_9, ev_len_str ty_descOf_9, ev_build ty_zeroCells_45 ty_placesOf_45, good_75, ty_szOf_45, good_76, good_77, ev_slice_str ty_descOf_9, ev_conv_int ty_descOf_5 ty_descOf_3, good_78, good_79, good_80, keep_45_5, hr, Int.natCast_nonneg, Int.toNat_natCast, Int.le_refl, ty_shapeT_45, tokAt, Tok.cells, stepT, Option.getD_some, g1, e47, d4, f4, e34, e39, e35, hN1, Int.lt_irrefl, e64, f2, e45, hB0, wi, hsd, bd1, bd2]
  have q35 : (c == 35) = false := by simpa using h4
  rw [q35] at e35
  by_cases h5 : c = 64
  · have q64 : (c == 64) = true := by simp [h5]
    have q45 : (c == 45) = false := by simp [h5]
    have qd : Tk.digit c = false := by rw [h5]; decide
    have qn := nz 64 h5 (by decide)
    rw [q64] at e64
    rw [q45] at e45
    rw [qd] at f2
    rw [qn] at hB0
    cases hb : Tk.nameB r
    · rw [hb] at hB1
      have e : Tk.step c r = (some ⟨7, [c], 0⟩, 1) := by
        unfold Tk.step
        rw [if_neg h1, if_neg h2, if_neg h3, if_neg (fun x => h4 x.1), if_neg (fun x => by have := Tk.name_zero hb; omega), if_neg (by simp [qd]), if_neg (fun x => by simp [x.1] at q45), if_neg (by rw [Tk.name_zero qn]; omega)]
      rw [e]
      refine den_run rfl rfl Tryz.func45 rfl Tryz.ntmps45 ⟨by simp, by simp [LK]⟩ ?_
      simp only [go_sem, Nat.reduceLT, reduceIte, reduceCtorEq, Nat.reduceEqDiff, apply_ite (Option.map (outOf _)), Nat.reduceBEq, Nat.reduceAdd, Nat.reduceSub, Nat.reduceLeDiff, Nat.reduceMul, ty_shapeT_45, ty_zeroCells_45, ev_index ty_descOf_9, ev_len_str ty_descOf_9, ev_build ty_zeroCells_45 ty_placesOf_45, good_75, ty_szOf_45, good_76, good_77, ev_slice_str ty_descOf_9, ev_conv_int ty_descOf_5 ty_descOf_3, good_78, good_79, good_80, keep_45_5, hr, Int.natCast_nonneg, Int.toNat_natCast, Int.le_refl, ty_shapeT_45, tokAt, Tok.cells, stepT, Option.getD_some, g1, e47, d4, f4, e34, e39, e35, e64, hB1, f2, e45, hB0, wi, hsd, bd1, bd2]
    · rw [hb] at hB1
      have hnm : Tk.name r = Tk.run Tk.within r := by rw [Tk.name, if_pos hb]
      have hpos : 0 < Tk.name r := Tk.name_pos_iff.2 hb
      have e : Tk.step c r = (some ⟨3, r.take (Tk.run Tk.within r), 0⟩, Tk.run Tk.within r + 1) := by unfold Tk.step; rw [if_neg h1, if_neg h2, if_neg h3, if_neg (fun x => h4 x.1), if_pos ⟨h5, hpos⟩, hnm]
      have hsl : (s.take (i + 1 + Tk.run Tk.within r)).drop (i + 1) = r.take (Tk.run Tk.within r) := by rw [List.drop_take, g2]; congr 1; omega
      have hend : i + (Tk.run Tk.within r + 1) = i + 1 + Tk.run Tk.within r := by omega
      rw [e]
      simp only [hend]
      generalize Tk.run Tk.within r = n at hN1 hrl hsl
      have b1 : (((i + 1 + n : Nat) : Int) ≤ (s.length : Int)) = True := eq_true (by omega)
      have b2 : (((i + 1 : Nat) : Int) ≤ ((i + 1 + n : Nat) : Int)) = True := eq_true (by omega)
      refine den_run rfl rfl Tryz.func45 rfl Tryz.ntmps45 ⟨by simp, by simp [LK]⟩ ?_
      simp only [go_sem, Nat.reduceLT, reduceIte, reduceCtorEq, Nat.reduceEqDiff, apply_ite (Option.map (outOf _)), Nat.reduceBEq, Nat.reduceAdd, Nat.reduceSub, Nat.reduceLeDiff, Nat.reduceMul, ty_shapeT_45, ty_zeroCells_45, ev_index ty_descOf_9, ev_len_str ty_descOf_9, ev_build ty_zeroCells_45 ty_placesOf_45, good_75, ty_szOf_45, good_76, good_77, ev_slice_str ty_descOf_9, ev_conv_int ty_descOf_5 ty_descOf_3, good_78, good_79, good_80, keep_45_5, hr, Int.natCast_nonneg, Int.toNat_natCast, Int.le_refl, ty_shapeT_45, tokAt, Tok.cells, stepT, Option.getD_some, g1, e47, d4, f4, e34, e39, e35, e64, hB1, wi, hN1, hsl, b1, b2]
  have q64 : (c == 64) = false := by simpa using h5
  rw [q64] at e64
  by_cases h6 : Tk.digit c = true
  · have q45 : (c == 45) = false := by simpa using Tk.digit_ne h6 (d := 45) (by decide)
    have e : Tk.step c r = (some (Tk.number false (c :: r)).1, (Tk.number false (c :: r)).2) := Tk.step_number h6
    have hnm := number1_den s i c r false (c :: r) hs hd q45 rfl
    simp only [Bool.false_eq_true, if_false, Nat.add_zero, tokAt, Tok.cells] at hnm
    rw [h6] at f2
    rw [e]
    refine den_run rfl rfl Tryz.func45 rfl Tryz.ntmps45 ⟨by simp, by simp [LK]⟩ ?_
    simp only [go_sem, Nat.reduceLT, reduceIte, reduceCtorEq, Nat.reduceEqDiff, apply_ite (Option.map (outOf _)), Nat.reduceBEq, Nat.reduceAdd, Nat.reduceSub, Nat.reduceLeDiff, Nat.reduceMul, ty_shapeT_45, ty_zeroCells_45, ev_index ty_descOf_9, ev_len_str ty_descOf_9, ev_build ty_zeroCells_45 ty_placesOf_45, good_75, ty_szOf_45, good_76, good_77, ev_slice_str ty_descOf_9, ev_conv_int ty_descOf_5 ty_descOf_3, good_78, good_79, good_80, keep_45_5, hr, Int.natCast_nonneg, Int.toNat_natCast, Int.le_refl, ty_shapeT_45, tokAt, Tok.cells, stepT, Option.getD_some, g1, e47, d4, f4, e34, e39, e35, e64, f2, hnm, TV.flat]
  have qd : Tk.digit c = false := by simpa using h6
  rw [qd] at f2
  by_cases h7 : c = 45 ∧ Tk.digit (Tk.at0 r) = true
  · have q45 : (c == 45) = true := by simp [h7.1]
    have e : Tk.step c r = (some (Tk.number true r).1, (Tk.number true r).2 + 1) := by rw [h7.1]; exact Tk.step_minus h7.2
    have hnm := number1_den s i c r true r hs hd q45 rfl
    simp only [if_true, tokAt, Tok.cells] at hnm
    have hend : i + ((Tk.number true r).2 + 1) = i + 1 + (Tk.number true r).2 := by omega
    rw [q45] at e45
    rw [h7.2] at f5
    rw [e]
    simp only [hend]
    refine den_run rfl rfl Tryz.func45 rfl Tryz.ntmps45 ⟨by simp, by simp [LK]⟩ ?_
    simp only [go_sem, Nat.reduceLT, reduceIte, reduceCtorEq, Nat.reduceEqDiff, apply_ite (Option.map (outOf _)), Nat.reduceBEq, Nat.reduceAdd, Nat.reduceSub, Nat.reduceLeDiff, Nat.reduceMul, ty_shapeT_45, ty_zeroCells_45, ev_index ty_descOf_9, ev_len_str ty_descOf_9, ev_build ty_zeroCells_45 ty_placesOf_45, good_75, ty_szOf_45, good_76, good_77, ev_slice_str ty_descOf_9, ev_conv_int ty_descOf_5 ty_descOf_3, good_78, good_79, good_80, keep_45_5, hr, Int.natCast_nonneg, Int.toNat_natCast, Int.le_refl, ty_shapeT_45, tokAt, Tok.cells, stepT, Option.getD_some, g1, e47, d4, f4, e34, e39, e35, e64, f2, e45, wi, d5, f5, hnm, TV.flat]
  have e0 : Tk.step c r = if 0 < Tk.name (c :: r) then if Tk.at0 ((c :: r).drop (Tk.name (c :: r))) = 40 then (some ⟨2, (c :: r).take (Tk.name (c :: r)), 0⟩, Tk.name (c :: r) + 1) else (some ⟨1, (c :: r).take (Tk.name (c :: r)), 0⟩, Tk.name (c :: r)) else (some ⟨7, [c], 0⟩, 1) := by
    unfold Tk.step
    rw [if_neg h1, if_neg h2, if_neg h3, if_neg (fun x => h4 x.1), if_neg (fun x => h5 x.1), if_neg h6, if_neg h7]
  have hm : (((c.toNat : Int) == 45) = false) ∨ (((c.toNat : Int) == 45) = true ∧ (atC r == 2) = false) := by
    cases q : (c == 45)
    · left; rw [e45, q]
    · right
      refine ⟨by rw [e45, q], ?_⟩
      rw [f5]
      cases hh : Tk.digit (Tk.at0 r)
      · rfl
      · exact absurd ⟨by simpa using q, hh⟩ h7
  clear e45 f5
  cases hb : Tk.nameB (c :: r)
  · rw [hb] at hB0
    have e : Tk.step c r = (some ⟨7, [c], 0⟩, 1) := by rw [e0, if_neg (by rw [Tk.name_zero hb]; omega)]
    rcases hm with m1 | ⟨m1, m2⟩
    ·
      rw [e]
      refine den_run rfl rfl Tryz.func45 rfl Tryz.ntmps45 ⟨by simp, by simp [LK]⟩ ?_
      simp only [go_sem, Nat.reduceLT, reduceIte, reduceCtorEq, Nat.reduceEqDiff, apply_ite (Option.map (outOf _)), Nat.reduceBEq, Nat.reduceAdd, Nat.reduceSub, Nat.reduceLeDiff, Nat.reduceMul, ty_shapeT_45, ty_zeroCells_45, ev_index ty_descOf_9, ev_len_str ty_descOf_9, ev_build ty_zeroCells_45 ty_placesOf_45, good_75, ty_szOf_45, good_76, good_77, ev_slice_str ty_descOf_9, ev_conv_int ty_descOf_5 ty_descOf_3, good_78, good_79, good_80, keep_45_5, hr, Int.natCast_nonneg, Int.toNat_natCast, Int.le_refl, ty_shapeT_45, tokAt, Tok.cells, stepT, Option.getD_some, g1, e47, d4, f4, e34, e39, e35, e64, f2, m1, hB0, wi, hsd, bd1, bd2]
    ·
      rw [e]
      refine den_run rfl rfl Tryz.func45 rfl Tryz.ntmps45 ⟨by simp, by simp [LK]⟩ ?_
      simp only [go_sem, Nat.reduceLT, reduceIte, reduceCtorEq, Nat.reduceEqDiff, apply_ite (Option.map (outOf _)), Nat.reduceBEq, Nat.reduceAdd, Nat.reduceSub, Nat.reduceLeDiff, Nat.reduceMul, ty_shapeT_45, ty_zeroCells_45, ev_index ty_descOf_9, ev_len_str ty_descOf_9, ev_build ty_zeroCells_45 ty_placesOf_45, good_75, ty_szOf_45, good_76, good_77, ev_slice_str ty_descOf_9, ev_conv_int ty_descOf_5 ty_descOf_3, good_78, good_79, good_80, keep_45_5, hr, Int.natCast_nonneg, Int.toNat_natCast, Int.le_refl, ty_shapeT_45, tokAt, Tok.cells, stepT, Option.getD_some, g1, e47, d4, f4, e34, e39, e35, e64, f2, m1, d5, m2, hB0, wi, hsd, bd1, bd2]
  · rw [hb] at hB0
    have hnm : Tk.name (c :: r) = Tk.run Tk.within (c :: r) := by rw [Tk.name, if_pos hb]
    have hpos : 0 < Tk.name (c :: r) := Tk.name_pos_iff.2 hb
    rw [if_pos hpos, hnm] at e0
    have hle := Tk.run_le (p := Tk.within) (c :: r)
    rw [List.length_cons] at hle
    have hsl : (s.take (i + Tk.run Tk.within (c :: r))).drop i = (c :: r).take (Tk.run Tk.within (c :: r)) := by rw [List.drop_take, hd]; congr 1; omega
    have hat : s.drop (i + Tk.run Tk.within (c :: r)) = (c :: r).drop (Tk.run Tk.within (c :: r)) := by rw [← List.drop_drop, hd]
    have hcell := at0_drop s (i + Tk.run Tk.within (c :: r))
    rw [hat] at hcell
    have e40 : (((Tk.at0 ((c :: r).drop (Tk.run Tk.within (c :: r)))).toNat : Int) == 40) = (Tk.at0 ((c :: r).drop (Tk.run Tk.within (c :: r))) == 40) := u8_beq _ 40
    rw [e0]
    generalize (c :: r).drop (Tk.run Tk.within (c :: r)) = rd at hcell e40
    generalize (c :: r).take (Tk.run Tk.within (c :: r)) = tx at hsl
    generalize Tk.run Tk.within (c :: r) = n at hN0 hle hsl hcell
    have b1 : (((i + n : Nat) : Int) ≤ (s.length : Int)) = True := eq_true (by omega)
    have b2 : (((i : Nat) : Int) ≤ ((i + n : Nat) : Int)) = True := eq_true (by omega)
    have w4 := wrap_nat (i + n) (by omega)
    rcases hcell with ⟨_, hz, hge⟩ | ⟨hlt, hget⟩
    · have el : decide (((i + n : Nat) : Int) < (s.length : Int)) = false := decide_eq_false (by omega)
      rw [if_neg (by rw [hz]; decide)]
      rcases hm with m1 | ⟨m1, m2⟩
      ·
        refine den_run rfl rfl Tryz.func45 rfl Tryz.ntmps45 ⟨by simp, by simp [LK]⟩ ?_
        simp only [go_sem, Nat.reduceLT, reduceIte, reduceCtorEq, Nat.reduceEqDiff, apply_ite (Option.map (outOf _)), Nat.reduceBEq, Nat.reduceAdd, Nat.reduceSub, Nat.reduceLeDiff, Nat.reduceMul, ty_shapeT_45, ty_zeroCells_45, ev_index ty_descOf_9, ev_len_str ty_descOf_9, ev_build ty_zeroCells_45 ty_placesOf_45, good_75, ty_szOf_45, good_76, good_77, ev_slice_str ty_descOf_9, ev_conv_int ty_descOf_5 ty_descOf_3, good_78, good_79, good_80, keep_45_5, hr, Int.natCast_nonneg, Int.toNat_natCast, Int.le_refl, ty_shapeT_45, tokAt, Tok.cells, stepT, Option.getD_some, g1, e47, d4, f4, e34, e39, e35, e64, f2, m1, hB0, hN0, el, hsl, b1, b2]
      ·
        refine den_run rfl rfl Tryz.func45 rfl Tryz.ntmps45 ⟨by simp, by simp [LK]⟩ ?_
        simp only [go_sem, Nat.reduceLT, reduceIte, reduceCtorEq, Nat.reduceEqDiff, apply_ite (Option.map (outOf _)), Nat.reduceBEq, Nat.reduceAdd, Nat.reduceSub, Nat.reduceLeDiff, Nat.reduceMul, ty_shapeT_45, ty_zeroCells_45, ev_index ty_descOf_9, ev_len_str ty_descOf_9, ev_build ty_zeroCells_45 ty_placesOf_45, good_75, ty_szOf_45, good_76, good_77, ev_slice_str ty_descOf_9, ev_conv_int ty_descOf_5 ty_descOf_3, good_78, good_79, good_80, keep_45_5, hr, Int.natCast_nonneg, Int.toNat_natCast, Int.le_refl, ty_shapeT_45, tokAt, Tok.cells, stepT, Option.getD_some, g1, e47, d4, f4, e34, e39, e35, e64, f2, m1, wi, d5, m2, hB0, hN0, el, hsl, b1, b2]
    · have el : decide (((i + n : Nat) : Int) < (s.length : Int)) = true := decide_eq_true (by omega)
      by_cases h40 : Tk.at0 rd = 40
      · have q40 : (Tk.at0 rd == 40) = true := by simpa using h40
        rw [q40] at e40
        rw [if_pos h40]
        simp only [← Nat.add_assoc]
        rcases hm with m1 | ⟨m1, m2⟩
        ·
          refine den_run rfl rfl Tryz.func45 rfl Tryz.ntmps45 ⟨by simp, by simp [LK]⟩ ?_
          simp only [go_sem, Nat.reduceLT, reduceIte, reduceCtorEq, Nat.reduceEqDiff, apply_ite (Option.map (outOf _)), Nat.reduceBEq, Nat.reduceAdd, Nat.reduceSub, Nat.reduceLeDiff, Nat.reduceMul, ty_shapeT_45, ty_zeroCells_45, ev_index ty_descOf_9, ev_len_str ty_descOf_9, ev_build ty_zeroCells_45 ty_placesOf_45, good_75, ty_szOf_45, good_76, good_77, ev_slice_str ty_descOf_9, ev_conv_int ty_descOf_5 ty_descOf_3, good_78, good_79, good_80, keep_45_5, hr, Int.natCast_nonneg, Int.toNat_natCast, Int.le_refl, ty_shapeT_45, tokAt, Tok.cells, stepT, Option.getD_some, g1, e47, d4, f4, e34, e39, e35, e64, f2, m1, hB0, hN0, el, hget, e40, hsl, b1, b2, w4]
        ·
          refine den_run rfl rfl Tryz.func45 rfl Tryz.ntmps45 ⟨by simp, by simp [LK]⟩ ?_
          simp only [go_sem, Nat.reduceLT, reduceIte, reduceCtorEq, Nat.reduceEqDiff, apply_ite (Option.map (outOf _)), Nat.reduceBEq, Nat.reduceAdd, Nat.reduceSub, Nat.reduceLeDiff, Nat.reduceMul, ty_shapeT_45, ty_zeroCells_45, ev_index ty_descOf_9, ev_len_str ty_descOf_9, ev_build ty_zeroCells_45 ty_placesOf_45, good_75, ty_szOf_45, good_76, good_77, ev_slice_str ty_descOf_9, ev_conv_int ty_descOf_5 ty_descOf_3, good_78, good_79, good_80, keep_45_5, hr, Int.natCast_nonneg, Int.toNat_natCast, Int.le_refl, ty_shapeT_45, tokAt, Tok.cells, stepT, Option.getD_some, g1, e47, d4, f4, e34, e39, e35, e64, f2, m1, wi, d5, m2, hB0, hN0, el, hget, e40, hsl, b1, b2, w4]
      · have q40 : (Tk.at0 rd == 40) = false := by simpa using h40
        rw [q40] at e40
        rw [if_neg h40]
        rcases hm with m1 | ⟨m1, m2⟩
        ·
          refine den_run rfl rfl Tryz.func45 rfl Tryz.ntmps45 ⟨by simp, by simp [LK]⟩ ?_
          simp only [go_sem, Nat.reduceLT, reduceIte, reduceCtorEq, Nat.reduceEqDiff, apply_ite (Option.map (outOf _)), Nat.reduceBEq, Nat.reduceAdd, Nat.reduceSub, Nat.reduceLeDiff, Nat.reduceMul, ty_shapeT_45, ty_zeroCells_45, ev_index ty_descOf_9, ev_len_str ty_descOf_9, ev_build ty_zeroCells_45 ty_placesOf_45, good_75, ty_szOf_45, good_76, good_77, ev_slice_str ty_descOf_9, ev_conv_int ty_descOf_5 ty_descOf_3, good_78, good_79, good_80, keep_45_5, hr, Int.natCast_nonneg, Int.toNat_natCast, Int.le_refl, ty_shapeT_45, tokAt, Tok.cells, stepT, Option.getD_some, g1, e47, d4, f4, e34, e39, e35, e64, f2, m1, hB0, hN0, el, hget, e40, hsl, b1, b2]
        ·
          refine den_run rfl rfl Tryz.func45 rfl Tryz.ntmps45 ⟨by simp, by simp [LK]⟩ ?_
          simp only [go_sem, Nat.reduceLT, reduceIte, reduceCtorEq, Nat.reduceEqDiff, apply_ite (Option.map (outOf _)), Nat.reduceBEq, Nat.reduceAdd, Nat.reduceSub, Nat.reduceLeDiff, Nat.reduceMul, ty_shapeT_45, ty_zeroCells_45, ev_index ty_descOf_9, ev_len_str ty_descOf_9, ev_build ty_zeroCells_45 ty_placesOf_45, good_75, ty_szOf_45, good_76, good_77, ev_slice_str ty_descOf_9, ev_conv_int ty_descOf_5 ty_descOf_3, good_78, good_79, good_80, keep_45_5, hr, Int.natCast_nonneg, Int.toNat_natCast, Int.le_refl, ty_shapeT_45, tokAt, Tok.cells, stepT, Option.getD_some, g1, e47, d4, f4, e34, e39, e35, e64, f2, m1, wi, d5, m2, hB0, hN0, el, hget, e40, hsl, b1, b2]
end Go.Abs
namespace Go.Abs
open Go Go.Proofs
set_option maxRecDepth 10000
attribute [local go_sem] exL_seq exL_region exL_cond exL_block exL_scope exL_ret exL_skip exL_exit runRegion runOps stepOp guardA absOp takeOver opd avOf cvOf St.degAt St.put okPV okVal okAV absBin intBin strBin boolBin setBoxes if_true Bool.false_eq_true if_false Option.map_some Option.map_none Option.bind_some Option.bind_none thenO outOf upd List.toList_toArray isOwn steal appArgs inApps AV.deg CV.deg AV.gv AV.isIter absNext some_bne List.length_nil List.length_cons List.filterMap_cons List.filterMap_nil beq_iff_eq List.getElem?_cons_zero List.getElem?_cons_succ Option.getD_some K_hook hookB Bool.false_and Bool.and_false Bool.and_self K_P K_own absCall doCall getBoxes lend back idx dedup AV.ren CV.ren TV.ren AV.ptrs CV.ptrs zipBox AV.flat CV.flat absLoad absStore cellsOfAV setAt newBox markB bldTypes absFieldAddr absField absExtract absAssert noAssert absMkIface ifcOf CV.pv? content pushHead ownT fillCells reps pvs chunks enterSt leave resOf resVars resVar outBoxes lentOnly TV.deg TV.av LK CV.plain CV.noBld nilBin absUn bound List.map_cons List.map_nil List.all_cons List.all_nil List.any_cons List.any_nil List.contains_cons List.contains_nil List.elem_cons List.elem_nil List.cons_append List.nil_append List.append_nil List.flatMap_cons List.flatMap_nil List.zip_cons_cons List.zip_nil_left List.zip_nil_right List.take_succ_cons List.take_zero List.take_nil List.drop_succ_cons List.drop_zero List.drop_nil List.isEmpty_nil List.isEmpty_cons Bool.and_true Bool.true_and Bool.or_true Bool.true_or Bool.or_false Bool.false_or Bool.not_true Bool.not_false Nat.add_zero Nat.zero_add Option.isNone_none Option.isNone_some Option.getD_none true_and and_true not_true_eq_false not_false_eq_true decide_true decide_false Nat.le_refl and_self Bool.not_eq_true Nat.sub_self or_true true_or Option.some.injEq List.length_map List.nil_eq and_false false_and AV.live CV.live CV.liveIn K_keep firstReg Option.orElse_some Option.orElse_none head keepSlots keepBoxes Int.lt_irrefl List.length_append ite_self memOK logOps opKey lentBoxes Key.clash Key.sees Key.writes Nat.lt_irrefl gt_iff_lt nobox_at bot_at false_or or_false beq_self_eq_true Bool.true_beq Bool.false_beq
theorem decDigits_small {u : Nat} (h : u < 10) : Lib.decDigits u = [UInt8.ofNat (48 + u)] := by rw [Lib.decDigits, dif_pos h]
theorem decDigits_big {u : Nat} (h : ¬ u < 10) : Lib.decDigits u = Lib.decDigits (u / 10) ++ [UInt8.ofNat (48 + u % 10)] := by rw [Lib.decDigits, dif_neg h]
theorem tdiv_nat (u : Nat) : (u : Int).tdiv 10 = ((u / 10 : Nat) : Int) := rfl
theorem tmod_nat (u : Nat) : (u : Int).tmod 10 = ((u % 10 : Nat) : Int) := rfl
theorem ten_ne : ((10 : Int) = 0) = False := by simp
theorem sl0 : (0 + 1 < strLim) = True := by simp [strLim]
theorem sl1 : (1 + 1 < strLim) = True := by simp [strLim]
theorem itoa_neg {n : Int} (h : n < 0) : Lib.itoa n = 45 :: Lib.decDigits n.natAbs := by unfold Lib.itoa; rw [if_pos h]
theorem itoa_pos {n : Int} (h : 0 ≤ n) : Lib.itoa n = Lib.decDigits n.toNat := by unfold Lib.itoa; rw [if_neg (by omega)]
set_option maxHeartbeats 4000000 in
theorem Digits_den : ∀ (k : Nat) (n : Int), n.natAbs ≤ k → I64 n → den K 84 [I n] [] = some (.ret (T (Lib.itoa n)) []) := by
  intro k
  induction k with
  | zero =>
    intro n hk hn
    have : n = 0 := by omega
    subst this
    refine den_run rfl rfl Tryz.func84 rfl Tryz.ntmps84 ⟨by simp, by simp [LK]⟩ ?_
    have hr : Tryz.f84.results = #[.tmp 2] := rfl
    have e : Lib.itoa 0 = [48] := by rw [itoa_pos (by omega)]; exact decDigits_small (by omega)
    rw [e]
    have w1 : IntKind.i64.wrap 48 = 48 := by decide
    have w2 : IntKind.u8.wrap 48 = 48 := by decide
    simp [go_sem, Nat.reduceLT, reduceIte, reduceCtorEq, Nat.reduceEqDiff, apply_ite (Option.map (outOf _)), Nat.reduceBEq, Nat.reduceAdd, Nat.reduceSub, Nat.reduceLeDiff, Nat.reduceMul, good_84, ev_conv_int ty_descOf_3 ty_descOf_5, ev_buildSlice (len := 1) ty_descOf_76 ty_szOf_5 ty_zeroCells_5 ⟨rfl, by decide, by decide⟩, ev_conv_string ty_descOf_76 ty_descOf_9, hr, bytesOf, ten_ne, Int.toNat_natCast, sl0, sl1, w1, w2]
  | succ k ih =>
    intro n hk hn
    have hr : Tryz.f84.results = #[.tmp 2] := rfl
    have hlen := itoa_len hn
    by_cases hneg : n < 0
    · have hl : decide (n < 0) = true := decide_eq_true hneg
      have hq : n.tdiv 10 = -(((n.natAbs / 10 : Nat)) : Int) := by
        obtain ⟨u, rfl⟩ : ∃ u : Nat, n = -(u : Int) := ⟨n.natAbs, by omega⟩
        rw [Int.neg_tdiv, tdiv_nat]; simp only [Int.natAbs_neg, Int.natAbs_natCast]
      have hm : n.tmod 10 = -(((n.natAbs % 10 : Nat)) : Int) := by
        obtain ⟨u, rfl⟩ : ∃ u : Nat, n = -(u : Int) := ⟨n.natAbs, by omega⟩
        rw [Int.neg_tmod, tmod_nat]; simp only [Int.natAbs_neg, Int.natAbs_natCast]
      have w1 : IntKind.i64.wrap (n.tdiv 10) = n.tdiv 10 := IntWalk.i64_in _ (by have := hn.1; have := hn.2; omega)
      have w3 : IntKind.i64.wrap (48 - n.tmod 10) = ((48 + n.natAbs % 10 : Nat) : Int) := by rw [IntWalk.i64_in _ (by omega), hm]; omega
      have w4 : IntKind.u8.wrap ((48 + n.natAbs % 10 : Nat) : Int) = ((48 + n.natAbs % 10 : Nat) : Int) := IntWalk.u8_in _ (by omega)
      rw [itoa_neg hneg] at hlen ⊢
      by_cases hs : n.natAbs < 10
      · have hq0 : decide (n.tdiv 10 < 0) = false := decide_eq_false (by omega)
        rw [decDigits_small hs]
        have hmm : n.natAbs % 10 = n.natAbs := Nat.mod_eq_of_lt hs
        rw [hmm] at w3 w4
        refine den_run rfl rfl Tryz.func84 rfl Tryz.ntmps84 ⟨by simp, by simp [LK]⟩ ?_
        simp only [go_sem, Nat.reduceLT, reduceIte, reduceCtorEq, Nat.reduceEqDiff, apply_ite (Option.map (outOf _)), Nat.reduceBEq, Nat.reduceAdd, Nat.reduceSub, Nat.reduceLeDiff, Nat.reduceMul, good_84, ev_conv_int ty_descOf_3 ty_descOf_5, ev_buildSlice (len := 1) ty_descOf_76 ty_szOf_5 ty_zeroCells_5 ⟨rfl, by decide, by decide⟩, ev_conv_string ty_descOf_76 ty_descOf_9, hr, bytesOf, ten_ne, Int.toNat_natCast, sl0, sl1, hl, hq0, w1, w3, w4]
      · have hq1 : decide (n.tdiv 10 < 0) = true := decide_eq_true (by omega)
        have w2 : IntKind.i64.wrap (0 - n.tdiv 10) = ((n.natAbs / 10 : Nat) : Int) := by rw [IntWalk.i64_in _ (by have := hn.1; have := hn.2; omega)]; omega
        have hc := ih ((n.natAbs / 10 : Nat) : Int) (by omega) ⟨by omega, by have := hn.1; have := hn.2; omega⟩
        rw [itoa_pos (by omega), Int.toNat_natCast] at hc
        rw [decDigits_big hs] at hlen ⊢
        have s1 : 1 + (Lib.decDigits (n.natAbs / 10)).length < strLim := by simp at hlen; simp [strLim]; omega
        have s2 : (Lib.decDigits (n.natAbs / 10)).length + 1 + 1 < strLim := by simp at hlen; simp [strLim]; omega
        refine den_run rfl rfl Tryz.func84 rfl Tryz.ntmps84 ⟨by simp, by simp [LK]⟩ ?_
        simp only [go_sem, Nat.reduceLT, reduceIte, reduceCtorEq, Nat.reduceEqDiff, apply_ite (Option.map (outOf _)), Nat.reduceBEq, Nat.reduceAdd, Nat.reduceSub, Nat.reduceLeDiff, Nat.reduceMul, good_84, ev_conv_int ty_descOf_3 ty_descOf_5, ev_buildSlice (len := 1) ty_descOf_76 ty_szOf_5 ty_zeroCells_5 ⟨rfl, by decide, by decide⟩, ev_conv_string ty_descOf_76 ty_descOf_9, hr, bytesOf, ten_ne, Int.toNat_natCast, sl0, sl1, hl, hq1, w1, w2, w3, w4, hc, s1, s2]
    · have hl : decide (n < 0) = false := decide_eq_false hneg
      obtain ⟨u, rfl⟩ : ∃ u : Nat, n = u := ⟨n.toNat, by omega⟩
      have hm : (u : Int).tmod 10 = ((u % 10 : Nat) : Int) := rfl
      have w3 : IntKind.i64.wrap (48 + (u : Int).tmod 10) = ((48 + u % 10 : Nat) : Int) := by rw [hm, IntWalk.i64_in _ (by omega)]; omega
      have w4 : IntKind.u8.wrap ((48 + u % 10 : Nat) : Int) = ((48 + u % 10 : Nat) : Int) := IntWalk.u8_in _ (by omega)
      rw [itoa_pos (by omega), Int.toNat_natCast] at hlen ⊢
      by_cases hs : u < 10
      · have hg : decide ((10 : Int) ≤ (u : Int)) = false := decide_eq_false (by omega)
        rw [decDigits_small hs]
        have hmm : u % 10 = u := Nat.mod_eq_of_lt hs
        rw [hmm] at w3 w4
        refine den_run rfl rfl Tryz.func84 rfl Tryz.ntmps84 ⟨by simp, by simp [LK]⟩ ?_
        simp only [go_sem, Nat.reduceLT, reduceIte, reduceCtorEq, Nat.reduceEqDiff, apply_ite (Option.map (outOf _)), Nat.reduceBEq, Nat.reduceAdd, Nat.reduceSub, Nat.reduceLeDiff, Nat.reduceMul, good_84, ev_conv_int ty_descOf_3 ty_descOf_5, ev_buildSlice (len := 1) ty_descOf_76 ty_szOf_5 ty_zeroCells_5 ⟨rfl, by decide, by decide⟩, ev_conv_string ty_descOf_76 ty_descOf_9, hr, bytesOf, ten_ne, Int.toNat_natCast, sl0, sl1, hl, hg, w3, w4]
      · have hg : decide ((10 : Int) ≤ (u : Int)) = true := decide_eq_true (by omega)
        have w1 : IntKind.i64.wrap ((u : Int).tdiv 10) = ((u / 10 : Nat) : Int) := by rw [tdiv_nat, IntWalk.i64_in _ (by have := hn.2; omega)]
        have hc := ih ((u / 10 : Nat) : Int) (by omega) ⟨by omega, by have := hn.2; omega⟩
        rw [itoa_pos (by omega), Int.toNat_natCast] at hc
        rw [decDigits_big hs] at hlen ⊢
        have s1 : (Lib.decDigits (u / 10)).length + 1 < strLim := by simp at hlen; simp [strLim]; omega
        refine den_run rfl rfl Tryz.func84 rfl Tryz.ntmps84 ⟨by simp, by simp [LK]⟩ ?_
        simp only [go_sem, Nat.reduceLT, reduceIte, reduceCtorEq, Nat.reduceEqDiff, apply_ite (Option.map (outOf _)), Nat.reduceBEq, Nat.reduceAdd, Nat.reduceSub, Nat.reduceLeDiff, Nat.reduceMul, good_84, ev_conv_int ty_descOf_3 ty_descOf_5, ev_buildSlice (len := 1) ty_descOf_76 ty_szOf_5 ty_zeroCells_5 ⟨rfl, by decide, by decide⟩, ev_conv_string ty_descOf_76 ty_descOf_9, hr, bytesOf, ten_ne, Int.toNat_natCast, sl0, sl1, hl, hg, w1, w3, w4, hc, s1]
theorem Digits_is (n : Int) (h : I64 n) : den K 84 [I n] [] = some (.ret (T (Lib.itoa n)) []) := Digits_den n.natAbs n (Nat.le_refl _) h
set_option maxHeartbeats 4000000 in
theorem One1_den (t : Tok) (hn : I64 t.n) (hl : t.text.length < 1000000000000) : den K 57 [.agg t.cells] [] = some (.ret (T (oneS t)) []) := by
  obtain ⟨k, s, n⟩ := t
  refine den_run rfl rfl Tryz.func57 rfl Tryz.ntmps57 ⟨by simp, by simp [LK]⟩ ?_
  have hr : Tryz.f57.results = #[.tmp 2] := rfl
  have hit := Digits_is n hn
  have hi := itoa_len hn
  simp only at hl hi
  have l1 : s.length + 1 < strLim := by simp [strLim]; omega
  have l1' : 1 + s.length < strLim := by simp [strLim]; omega
  have l2 : (Lib.itoa n).length + s.length < strLim := by simp [strLim]; omega
  have l3 : 1 + s.length + 1 < strLim := by simp [strLim]; omega
  have l4 : s.length + 5 < strLim := by simp [strLim]; omega
  have l7 : s.length + 1 + 1 < strLim := by simp [strLim]; omega
  have hk : k = 1 ∨ k = 2 ∨ k = 3 ∨ k = 4 ∨ k = 5 ∨ k = 6 ∨ k = 7 ∨ k = 8 ∨ (k ≠ 1 ∧ k ≠ 2 ∧ k ≠ 3 ∧ k ≠ 4 ∧ k ≠ 5 ∧ k ≠ 6 ∧ k ≠ 7 ∧ k ≠ 8) := by omega
  rcases hk with rfl | rfl | rfl | rfl | rfl | rfl | rfl | rfl | ⟨h1, h2, h3, h4, h5, h6, h7, h8⟩
  · simp [go_sem, Nat.reduceLT, reduceIte, reduceCtorEq, Nat.reduceEqDiff, apply_ite (Option.map (outOf _)), Nat.reduceBEq, Nat.reduceAdd, Nat.reduceSub, Nat.reduceLeDiff, Nat.reduceMul, ty_fieldOff_45_0, ty_szOf_3, ty_shapeT_3, ty_fieldOff_45_1, ty_szOf_9, ty_shapeT_9, ty_fieldOff_45_2, good_84, hr, Tok.cells, oneS]
  · simp [go_sem, Nat.reduceLT, reduceIte, reduceCtorEq, Nat.reduceEqDiff, apply_ite (Option.map (outOf _)), Nat.reduceBEq, Nat.reduceAdd, Nat.reduceSub, Nat.reduceLeDiff, Nat.reduceMul, ty_fieldOff_45_0, ty_szOf_3, ty_shapeT_3, ty_fieldOff_45_1, ty_szOf_9, ty_shapeT_9, ty_fieldOff_45_2, good_84, hr, Tok.cells, oneS, l1]
  · simp [go_sem, Nat.reduceLT, reduceIte, reduceCtorEq, Nat.reduceEqDiff, apply_ite (Option.map (outOf _)), Nat.reduceBEq, Nat.reduceAdd, Nat.reduceSub, Nat.reduceLeDiff, Nat.reduceMul, ty_fieldOff_45_0, ty_szOf_3, ty_shapeT_3, ty_fieldOff_45_1, ty_szOf_9, ty_shapeT_9, ty_fieldOff_45_2, good_84, hr, Tok.cells, oneS, l1']
  · simp [go_sem, Nat.reduceLT, reduceIte, reduceCtorEq, Nat.reduceEqDiff, apply_ite (Option.map (outOf _)), Nat.reduceBEq, Nat.reduceAdd, Nat.reduceSub, Nat.reduceLeDiff, Nat.reduceMul, ty_fieldOff_45_0, ty_szOf_3, ty_shapeT_3, ty_fieldOff_45_1, ty_szOf_9, ty_shapeT_9, ty_fieldOff_45_2, good_84, hr, Tok.cells, oneS, l1']
  · simp [go_sem, Nat.reduceLT, reduceIte, reduceCtorEq, Nat.reduceEqDiff, apply_ite (Option.map (outOf _)), Nat.reduceBEq, Nat.reduceAdd, Nat.reduceSub, Nat.reduceLeDiff, Nat.reduceMul, ty_fieldOff_45_0, ty_szOf_3, ty_shapeT_3, ty_fieldOff_45_1, ty_szOf_9, ty_shapeT_9, ty_fieldOff_45_2, good_84, hr, Tok.cells, oneS, hit, l2]
  · by_cases h : n = 39 <;> simp [go_sem, Nat.reduceLT, reduceIte, reduceCtorEq, Nat.reduceEqDiff, apply_ite (Option.map (outOf _)), Nat.reduceBEq, Nat.reduceAdd, Nat.reduceSub, Nat.reduceLeDiff, Nat.reduceMul, ty_fieldOff_45_0, ty_szOf_3, ty_shapeT_3, ty_fieldOff_45_1, ty_szOf_9, ty_shapeT_9, ty_fieldOff_45_2, good_84, hr, Tok.cells, oneS, h, l1, l1', l3, l7]
  · by_cases h : s = [34]
    · simp [go_sem, Nat.reduceLT, reduceIte, reduceCtorEq, Nat.reduceEqDiff, apply_ite (Option.map (outOf _)), Nat.reduceBEq, Nat.reduceAdd, Nat.reduceSub, Nat.reduceLeDiff, Nat.reduceMul, ty_fieldOff_45_0, ty_szOf_3, ty_shapeT_3, ty_fieldOff_45_1, ty_szOf_9, ty_shapeT_9, ty_fieldOff_45_2, good_84, hr, Tok.cells, oneS, h, l4, strLim]
    · have e : (s == [34]) = false := by simp [h]
      by_cases h' : s = [39]
      · simp [go_sem, Nat.reduceLT, reduceIte, reduceCtorEq, Nat.reduceEqDiff, apply_ite (Option.map (outOf _)), Nat.reduceBEq, Nat.reduceAdd, Nat.reduceSub, Nat.reduceLeDiff, Nat.reduceMul, ty_fieldOff_45_0, ty_szOf_3, ty_shapeT_3, ty_fieldOff_45_1, ty_szOf_9, ty_shapeT_9, ty_fieldOff_45_2, good_84, hr, Tok.cells, oneS, e, h, h', l4, strLim]
      · have e' : (s == [39]) = false := by simp [h']
        simp [go_sem, Nat.reduceLT, reduceIte, reduceCtorEq, Nat.reduceEqDiff, apply_ite (Option.map (outOf _)), Nat.reduceBEq, Nat.reduceAdd, Nat.reduceSub, Nat.reduceLeDiff, Nat.reduceMul, ty_fieldOff_45_0, ty_szOf_3, ty_shapeT_3, ty_fieldOff_45_1, ty_szOf_9, ty_shapeT_9, ty_fieldOff_45_2, good_84, hr, Tok.cells, oneS, e, e', h, h', l4, strLim]
  · simp [go_sem, Nat.reduceLT, reduceIte, reduceCtorEq, Nat.reduceEqDiff, apply_ite (Option.map (outOf _)), Nat.reduceBEq, Nat.reduceAdd, Nat.reduceSub, Nat.reduceLeDiff, Nat.reduceMul, ty_fieldOff_45_0, ty_szOf_3, ty_shapeT_3, ty_fieldOff_45_1, ty_szOf_9, ty_shapeT_9, ty_fieldOff_45_2, good_84, hr, Tok.cells, oneS]
  · simp [go_sem, Nat.reduceLT, reduceIte, reduceCtorEq, Nat.reduceEqDiff, apply_ite (Option.map (outOf _)), Nat.reduceBEq, Nat.reduceAdd, Nat.reduceSub, Nat.reduceLeDiff, Nat.reduceMul, ty_fieldOff_45_0, ty_szOf_3, ty_shapeT_3, ty_fieldOff_45_1, ty_szOf_9, ty_shapeT_9, ty_fieldOff_45_2, good_84, hr, Tok.cells, oneS, h1, h2, h3, h4, h5, h6, h7, h8]
end Go.Abs
namespace Go.Abs
open Go Go.Proofs
set_option maxRecDepth 10000
attribute [local go_sem] exL_seq exL_region exL_cond exL_block exL_scope exL_ret exL_skip exL_exit runRegion runOps stepOp guardA absOp takeOver opd avOf cvOf St.degAt St.put okPV okVal okAV absBin intBin strBin boolBin setBoxes if_true Bool.false_eq_true if_false Option.map_some Option.map_none Option.bind_some Option.bind_none thenO outOf upd List.toList_toArray isOwn steal appArgs inApps AV.deg CV.deg AV.gv AV.isIter absNext some_bne List.length_nil List.length_cons List.filterMap_cons List.filterMap_nil beq_iff_eq List.getElem?_cons_zero List.getElem?_cons_succ Option.getD_some K_hook hookB Bool.false_and Bool.and_false Bool.and_self K_P K_own absCall doCall getBoxes lend back idx dedup AV.ren CV.ren TV.ren AV.ptrs CV.ptrs zipBox AV.flat CV.flat absLoad absStore cellsOfAV setAt newBox markB bldTypes absFieldAddr absField absExtract absAssert noAssert absMkIface ifcOf CV.pv? content pushHead ownT fillCells reps pvs chunks enterSt leave resOf resVars resVar outBoxes lentOnly TV.deg TV.av LK CV.plain CV.noBld nilBin absUn bound List.map_cons List.map_nil List.all_cons List.all_nil List.any_cons List.any_nil List.contains_cons List.contains_nil List.elem_cons List.elem_nil List.cons_append List.nil_append List.append_nil List.flatMap_cons List.flatMap_nil List.zip_cons_cons List.zip_nil_left List.zip_nil_right List.take_succ_cons List.take_zero List.take_nil List.drop_succ_cons List.drop_zero List.drop_nil List.isEmpty_nil List.isEmpty_cons Bool.and_true Bool.true_and Bool.or_true Bool.true_or Bool.or_false Bool.false_or Bool.not_true Bool.not_false Nat.add_zero Nat.zero_add Option.isNone_none Option.isNone_some Option.getD_none true_and and_true not_true_eq_false not_false_eq_true decide_true decide_false Nat.le_refl and_self Bool.not_eq_true Nat.sub_self or_true true_or Option.some.injEq List.length_map List.nil_eq and_false false_and AV.live CV.live CV.liveIn K_keep firstReg Option.orElse_some Option.orElse_none head keepSlots keepBoxes Int.lt_irrefl List.length_append ite_self memOK logOps opKey lentBoxes Key.clash Key.sees Key.writes Nat.lt_irrefl gt_iff_lt nobox_at bot_at false_or or_false beq_self_eq_true Bool.true_beq Bool.false_beq
abbrev allH1 (s : List UInt8) (i : Nat) (ys : List Tok) : St := { sl := upd (upd (upd bot 4 (I i)) 3 (.c (.own 45 (ys.map Tok.enc)))) 0 (T s), bx := nobox, nt := 27 }
theorem good_ne {t : Tok} (h : Tk.Good t) : (t.kind != 0) = true := by
  rw [bne_iff_ne]
  cases h <;> simp
set_option maxHeartbeats 4000000 in
theorem all1_loop (s : List UInt8) (hs : s.length < 4000000000) : ∀ (l : List UInt8) (i : Nat) (ys : List Tok), s.drop i = l → i ≤ s.length → ys.length + l.length < 4000000000 →
    Ends (exL K 27 (.loop (loopAt Tryz.f27 3)) (allH1 s i ys)) fun o S => o = .exit 0 ∧ S.nt = 27 ∧ S.sl 3 = .c (.own 45 ((ys ++ Tk.all l).map Tok.enc)) := by
  refine Tk.all_ind (Q := fun l => ∀ (i : Nat) (ys : List Tok), s.drop i = l → i ≤ s.length → ys.length + l.length < 4000000000 →
    Ends (exL K 27 (.loop (loopAt Tryz.f27 3)) (allH1 s i ys)) fun o S => o = .exit 0 ∧ S.nt = 27 ∧ S.sl 3 = .c (.own 45 ((ys ++ Tk.all l).map Tok.enc))) ?_ ?_
  · intro i ys hd hi _
    have hin : i = s.length := by
      have := List.drop_eq_nil_iff.1 hd
      omega
    subst hin
    rw [Tk.all_nil, List.append_nil]
    conv in loopAt _ _ => whnf
    rw [exL_loop]
    simp only [go_sem, Nat.reduceLT, reduceIte, reduceCtorEq, Nat.reduceEqDiff, apply_ite (Option.map (outOf _)), Nat.reduceBEq, Nat.reduceAdd, Nat.reduceSub, Nat.reduceLeDiff, Nat.reduceMul, ev_buildSlice (len := 0) ty_descOf_41 ty_szOf_45 ty_zeroCells_45 ⟨rfl, by decide, by decide⟩, ev_len_str ty_descOf_9, good_45, ty_zeroCells_45, ty_szOf_45, ty_fieldOff_45_0, ty_szOf_3, ty_shapeT_3, ty_shapeT_45, ev_buildSlice (len := 1) ty_descOf_41 ty_szOf_45 ty_zeroCells_45 ⟨rfl, by decide, by decide⟩, ev_append ty_appInfo_41, ev_appNew_sl ty_descOf_41, keep_27_3, ends_some]
  · intro c r ih i ys hd hi hl
    obtain ⟨g1, g2, g3⟩ := drop_cons hd
    have hp := Tk.step_pos c r
    have hle := Tk.step_le c r
    have hn := next1_den s i c r hs hd
    have hlt : decide ((i : Int) < (s.length : Int)) = true := decide_eq_true (by omega)
    have hlen : (c :: r).length = s.length - i := by rw [← hd, List.length_drop]
    have hdd : s.drop (i + (Tk.step c r).2) = (c :: r).drop (Tk.step c r).2 := by rw [← List.drop_drop, hd]
    have hall := Tk.all_cons c r
    have ih' := ih (i + (Tk.step c r).2)
    simp only [tokAt, Tok.cells] at hn
    cases hst : (Tk.step c r).1 with
    | none =>
      rw [hst] at hn hall
      simp only [stepT, Option.getD_none] at hn
      simp only [Option.toList_none, List.nil_append] at hall
      have e0 : ((0 : Int) != 0) = false := by decide
      have ih2 := ih' ys hdd (by omega) (by rw [List.length_drop]; omega)
      rw [← hall] at ih2
      conv at ih2 in loopAt _ _ => whnf
      conv in loopAt _ _ => whnf
      rw [exL_loop]
      simp only [go_sem, Nat.reduceLT, reduceIte, reduceCtorEq, Nat.reduceEqDiff, apply_ite (Option.map (outOf _)), Nat.reduceBEq, Nat.reduceAdd, Nat.reduceSub, Nat.reduceLeDiff, Nat.reduceMul, ev_buildSlice (len := 0) ty_descOf_41 ty_szOf_45 ty_zeroCells_45 ⟨rfl, by decide, by decide⟩, ev_len_str ty_descOf_9, good_45, ty_zeroCells_45, ty_szOf_45, ty_fieldOff_45_0, ty_szOf_3, ty_shapeT_3, ty_shapeT_45, ev_buildSlice (len := 1) ty_descOf_41 ty_szOf_45 ty_zeroCells_45 ⟨rfl, by decide, by decide⟩, ev_append ty_appInfo_41, ev_appNew_sl ty_descOf_41, keep_27_3, hlt, hn, e0, TV.flat]
      rw [exL_head]
      simp only [go_sem, Nat.reduceLT, reduceIte, reduceCtorEq, Nat.reduceEqDiff, apply_ite (Option.map (outOf _)), Nat.reduceBEq, Nat.reduceAdd, Nat.reduceSub, Nat.reduceLeDiff, Nat.reduceMul, ev_buildSlice (len := 0) ty_descOf_41 ty_szOf_45 ty_zeroCells_45 ⟨rfl, by decide, by decide⟩, ev_len_str ty_descOf_9, good_45, ty_zeroCells_45, ty_szOf_45, ty_fieldOff_45_0, ty_szOf_3, ty_shapeT_3, ty_shapeT_45, ev_buildSlice (len := 1) ty_descOf_41 ty_szOf_45 ty_zeroCells_45 ⟨rfl, by decide, by decide⟩, ev_append ty_appInfo_41, ev_appNew_sl ty_descOf_41, keep_27_3]
      exact ih2
    | some t =>
      rw [hst] at hn hall
      simp only [stepT, Option.getD_some] at hn
      simp only [Option.toList_some, List.cons_append, List.nil_append] at hall
      have e0 := good_ne (Tk.step_good hst)
      have hla : ys.length + 1 < appLim := by simp [appLim]; simp only [List.length_cons] at hl; omega
      have ih2 := ih' (ys ++ [t]) hdd (by omega) (by rw [List.length_append, List.length_drop]; simp only [List.length_cons, List.length_nil] at *; omega)
      rw [List.append_assoc, List.cons_append, List.nil_append, ← hall] at ih2
      have hys : (ys ++ [t]).map Tok.enc = ys.map Tok.enc ++ [[.int .i64 t.kind, .str t.text, .int .i64 t.n]] := by simp [Tok.enc]
      simp only [allH1, hys] at ih2
      conv at ih2 in loopAt _ _ => whnf
      conv in loopAt _ _ => whnf
      rw [exL_loop]
      simp only [go_sem, Nat.reduceLT, reduceIte, reduceCtorEq, Nat.reduceEqDiff, apply_ite (Option.map (outOf _)), Nat.reduceBEq, Nat.reduceAdd, Nat.reduceSub, Nat.reduceLeDiff, Nat.reduceMul, ev_buildSlice (len := 0) ty_descOf_41 ty_szOf_45 ty_zeroCells_45 ⟨rfl, by decide, by decide⟩, ev_len_str ty_descOf_9, good_45, ty_zeroCells_45, ty_szOf_45, ty_fieldOff_45_0, ty_szOf_3, ty_shapeT_3, ty_shapeT_45, ev_buildSlice (len := 1) ty_descOf_41 ty_szOf_45 ty_zeroCells_45 ⟨rfl, by decide, by decide⟩, ev_append ty_appInfo_41, ev_appNew_sl ty_descOf_41, keep_27_3, hlt, hn, e0, TV.flat, hla, lens_toks, lens_tok]
      rw [exL_head]
      simp only [go_sem, Nat.reduceLT, reduceIte, reduceCtorEq, Nat.reduceEqDiff, apply_ite (Option.map (outOf _)), Nat.reduceBEq, Nat.reduceAdd, Nat.reduceSub, Nat.reduceLeDiff, Nat.reduceMul, ev_buildSlice (len := 0) ty_descOf_41 ty_szOf_45 ty_zeroCells_45 ⟨rfl, by decide, by decide⟩, ev_len_str ty_descOf_9, good_45, ty_zeroCells_45, ty_szOf_45, ty_fieldOff_45_0, ty_szOf_3, ty_shapeT_3, ty_shapeT_45, ev_buildSlice (len := 1) ty_descOf_41 ty_szOf_45 ty_zeroCells_45 ⟨rfl, by decide, by decide⟩, ev_append ty_appInfo_41, ev_appNew_sl ty_descOf_41, keep_27_3]
      exact ih2
theorem All1_den (s : List UInt8) (hs : s.length < 4000000000) : den K 27 [T s] [] = some (.ret (L ((Tk.all s).map Tok.enc)) []) := by
  refine den_run rfl rfl Tryz.func27 rfl Tryz.ntmps27 ⟨by simp, by simp [LK]⟩ ?_
  have hr : Tryz.f27.results = #[.tmp 2] := rfl
  have hl := all1_loop s hs s 0 [] rfl (Nat.zero_le _) (by simp; omega)
  conv at hl in loopAt _ _ => whnf
  obtain ⟨o, S', e2, rfl, hn, h3⟩ := hl
  simp only [List.nil_append] at h3
  simp only [go_sem, Nat.reduceLT, reduceIte, reduceCtorEq, Nat.reduceEqDiff, apply_ite (Option.map (outOf _)), Nat.reduceBEq, Nat.reduceAdd, Nat.reduceSub, Nat.reduceLeDiff, Nat.reduceMul, ev_buildSlice (len := 0) ty_descOf_41 ty_szOf_45 ty_zeroCells_45 ⟨rfl, by decide, by decide⟩, ev_len_str ty_descOf_9, good_45, ty_zeroCells_45, ty_szOf_45, ty_fieldOff_45_0, ty_szOf_3, ty_shapeT_3, ty_shapeT_45, ev_buildSlice (len := 1) ty_descOf_41 ty_szOf_45 ty_zeroCells_45 ⟨rfl, by decide, by decide⟩, ev_append ty_appInfo_41, ev_appNew_sl ty_descOf_41, keep_27_3]
  rw [exL_head]
  simp only [go_sem, Nat.reduceLT, reduceIte, reduceCtorEq, Nat.reduceEqDiff, apply_ite (Option.map (outOf _)), Nat.reduceBEq, Nat.reduceAdd, Nat.reduceSub, Nat.reduceLeDiff, Nat.reduceMul, ev_buildSlice (len := 0) ty_descOf_41 ty_szOf_45 ty_zeroCells_45 ⟨rfl, by decide, by decide⟩, ev_len_str ty_descOf_9, good_45, ty_zeroCells_45, ty_szOf_45, ty_fieldOff_45_0, ty_szOf_3, ty_shapeT_3, ty_shapeT_45, ev_buildSlice (len := 1) ty_descOf_41 ty_szOf_45 ty_zeroCells_45 ⟨rfl, by decide, by decide⟩, ev_append ty_appInfo_41, ev_appNew_sl ty_descOf_41, keep_27_3]
  erw [e2]
  simp only [go_sem, Nat.reduceLT, reduceIte, reduceCtorEq, Nat.reduceEqDiff, apply_ite (Option.map (outOf _)), Nat.reduceBEq, Nat.reduceAdd, Nat.reduceSub, Nat.reduceLeDiff, Nat.reduceMul, ev_buildSlice (len := 0) ty_descOf_41 ty_szOf_45 ty_zeroCells_45 ⟨rfl, by decide, by decide⟩, ev_len_str ty_descOf_9, good_45, ty_zeroCells_45, ty_szOf_45, ty_fieldOff_45_0, ty_szOf_3, ty_shapeT_3, ty_shapeT_45, ev_buildSlice (len := 1) ty_descOf_41 ty_szOf_45 ty_zeroCells_45 ⟨rfl, by decide, by decide⟩, ev_append ty_appInfo_41, ev_appNew_sl ty_descOf_41, keep_27_3, hr, hn, h3]
theorem May1_den (t : Tok) (hn : I64 t.n) (hl : t.text.length < 1000000000) : den K 59 [.agg t.cells] [] = some (.ret (B (Tk.may t)) []) := by
  have h1 := One1_den t hn (by omega)
  have hlen := one_len t hn
  have h2 := All1_den (oneS t) (by omega)
  have hal := Tk.all_len (oneS t)
  unfold Tk.may
  generalize Tk.all (oneS t) = a at h2 hal
  simp only [Tok.cells] at h1 ⊢
  refine den_run rfl rfl Tryz.func59 rfl Tryz.ntmps59 ⟨by simp, by simp [LK]⟩ ?_
  have hr : Tryz.f59.results = #[.tmp 2] := rfl
  match a with
  | [] =>
    have e : ((0 : Int) == 1) = false := by decide
    have e2 : decide (([] : List Tok) = [t]) = false := by simp
    rw [e2]
    simp [go_sem, Nat.reduceLT, reduceIte, reduceCtorEq, Nat.reduceEqDiff, apply_ite (Option.map (outOf _)), Nat.reduceBEq, Nat.reduceAdd, Nat.reduceSub, Nat.reduceLeDiff, Nat.reduceMul, ty_shapeT_45, good_57, good_27, ev_len_sl ty_descOf_41, ev_indexAddr ty_descOf_41, ty_szOf_45, hr, h1, h2]
  | [y] =>
    have heq := tok_eq y.kind t.kind y.n t.n y.text t.text
    rw [tok_beq] at heq
    have e2 : decide ([y] = [t]) = decide (y = t) := by simp
    rw [e2]
    simp only [List.map_cons, List.map_nil, Tok.enc] at h2
    have g0 : ([[PV.int .i64 y.kind, .str y.text, .int .i64 y.n]] : List (List PV))[(0 : Int).toNat]? = some [.int .i64 y.kind, .str y.text, .int .i64 y.n] := rfl
    have e1 : (((0 + 1 : Nat) : Int) == 1) = true := by decide
    have e1' : (((1 : Nat) : Int) == 1) = true := by decide
    cases hyt : decide (y = t) <;> rw [hyt] at heq <;> simp only [go_sem, Nat.reduceLT, reduceIte, reduceCtorEq, Nat.reduceEqDiff, apply_ite (Option.map (outOf _)), Nat.reduceBEq, Nat.reduceAdd, Nat.reduceSub, Nat.reduceLeDiff, Nat.reduceMul, ty_shapeT_45, good_57, good_27, ev_len_sl ty_descOf_41, ev_indexAddr ty_descOf_41, ty_szOf_45, hr, h1, h2, g0, heq, Int.le_refl, e1, e1']
  | y :: z :: l =>
    have e : (((y :: z :: l).length : Int) == 1) = false := by rw [beq_eq_false_iff_ne]; simp only [List.length_cons]; omega
    have e2 : decide (y :: z :: l = [t]) = false := by simp
    rw [e2]
    generalize y :: z :: l = b at h2 e
    simp only [go_sem, Nat.reduceLT, reduceIte, reduceCtorEq, Nat.reduceEqDiff, apply_ite (Option.map (outOf _)), Nat.reduceBEq, Nat.reduceAdd, Nat.reduceSub, Nat.reduceLeDiff, Nat.reduceMul, ty_shapeT_45, good_57, good_27, ev_len_sl ty_descOf_41, ev_indexAddr ty_descOf_41, ty_szOf_45, hr, h1, h2, e]
theorem two_den (s : List UInt8) (a b : Tok) (hs : s.length < 4000000000) : den K 56 [T s, .agg a.cells, .agg b.cells] [] = some (.ret (B (decide (Tk.all s = [a, b]))) []) := by
  have h2 := All1_den s hs
  have hal := Tk.all_len s
  generalize Tk.all s = l at h2 hal
  simp only [Tok.cells]
  refine den_run rfl rfl Tryz.func56 rfl Tryz.ntmps56 ⟨by simp, by simp [LK]⟩ ?_
  have hr : Tryz.f56.results = #[.tmp 6] := rfl
  by_cases hl : l.length = 2
  · obtain ⟨x, y, rfl⟩ : ∃ x y, l = [x, y] := by
      match l, hl with
      | [x, y], _ => exact ⟨x, y, rfl⟩
    have h1 := tok_eq x.kind a.kind x.n a.n x.text a.text
    have h3 := tok_eq y.kind b.kind y.n b.n y.text b.text
    rw [tok_beq] at h1 h3
    have e2 : decide ([x, y] = [a, b]) = (decide (x = a) && decide (y = b)) := by rw [← Bool.decide_and]; simp
    rw [e2]
    have g0 := enc_at [x, y] 0 x rfl
    have g1 := enc_at [x, y] 1 y rfl
    have z0 : ((0 : Nat) : Int) = 0 := rfl
    have z1 : ((1 : Nat) : Int) = 1 := rfl
    rw [z0] at g0
    rw [z1] at g1
    have p1 : ((0 : Int) ≤ 1) = True := by simp
    have e1 : (([x, y].length : Int) == 2) = true := by rfl
    generalize [x, y] = l at h2 e1 g0 g1
    cases q1 : decide (x = a)
    · rw [q1] at h1
      simp only [go_sem, Nat.reduceLT, reduceIte, reduceCtorEq, Nat.reduceEqDiff, apply_ite (Option.map (outOf _)), Nat.reduceBEq, Nat.reduceAdd, Nat.reduceSub, Nat.reduceLeDiff, Nat.reduceMul, good_27, ev_len_sl ty_descOf_41, ev_indexAddr ty_descOf_41, ty_szOf_45, ty_shapeT_45, hr, h2, e1, g0, h1, Int.le_refl]
    · rw [q1] at h1
      cases q2 : decide (y = b)
      · rw [q2] at h3
        simp only [go_sem, Nat.reduceLT, reduceIte, reduceCtorEq, Nat.reduceEqDiff, apply_ite (Option.map (outOf _)), Nat.reduceBEq, Nat.reduceAdd, Nat.reduceSub, Nat.reduceLeDiff, Nat.reduceMul, good_27, ev_len_sl ty_descOf_41, ev_indexAddr ty_descOf_41, ty_szOf_45, ty_shapeT_45, hr, h2, e1, g0, g1, h1, h3, Int.le_refl, p1]
      · rw [q2] at h3
        simp only [go_sem, Nat.reduceLT, reduceIte, reduceCtorEq, Nat.reduceEqDiff, apply_ite (Option.map (outOf _)), Nat.reduceBEq, Nat.reduceAdd, Nat.reduceSub, Nat.reduceLeDiff, Nat.reduceMul, good_27, ev_len_sl ty_descOf_41, ev_indexAddr ty_descOf_41, ty_szOf_45, ty_shapeT_45, hr, h2, e1, g0, g1, h1, h3, Int.le_refl, p1]
  · have e1 : ((l.length : Int) == 2) = false := by rw [beq_eq_false_iff_ne]; omega
    have e2 : decide (l = [a, b]) = false := decide_eq_false (fun h => hl (by rw [h]; rfl))
    rw [e2]
    simp only [go_sem, Nat.reduceLT, reduceIte, reduceCtorEq, Nat.reduceEqDiff, apply_ite (Option.map (outOf _)), Nat.reduceBEq, Nat.reduceAdd, Nat.reduceSub, Nat.reduceLeDiff, Nat.reduceMul, good_27, ev_len_sl ty_descOf_41, ev_indexAddr ty_descOf_41, ty_szOf_45, ty_shapeT_45, hr, h2, e1]
abbrev maysH (l : List Tok) (i : Nat) : St := { sl := upd (upd bot 3 (I i)) 0 (L (l.map Tok.enc)), bx := nobox, nt := 16 }
theorem mays_loop (l : List Tok) (hl : lenOk l.length) (hok : ∀ t ∈ l, I64 t.n ∧ t.text.length < 1000000000) : ∀ (rest : List Tok) (i : Nat), l.drop i = rest → i ≤ l.length →
    Ends (exL K 40 (.loop (loopAt Tryz.f40 2)) (maysH l i)) fun o S => (rest.all Tk.may = true ∧ o = .exit 0 ∧ S.nt = 16) ∨ (rest.all Tk.may = false ∧ o = .ret ∧ S.sl 2 = B false) := by
  intro rest
  induction rest with
  | nil =>
    intro i hd hi
    have hin : i = l.length := by
      have := List.drop_eq_nil_iff.1 hd
      omega
    subst hin
    conv in loopAt _ _ => whnf
    rw [exL_loop]
    simp only [go_sem, Nat.reduceLT, reduceIte, reduceCtorEq, Nat.reduceEqDiff, apply_ite (Option.map (outOf _)), Nat.reduceBEq, Nat.reduceAdd, Nat.reduceSub, Nat.reduceLeDiff, Nat.reduceMul, ev_len_sl ty_descOf_41, ev_indexAddr ty_descOf_41, ty_szOf_45, ty_shapeT_45, good_59, keep_40_2, ends_some]
  | cons x rest ih =>
    intro i hd hi
    obtain ⟨g1, g2, g3⟩ := drop_cons hd
    have hlt : decide ((i : Int) < (l.length : Int)) = true := decide_eq_true (by omega)
    have ga := enc_at l i x g1
    have hi2 : i < 9223372036854775807 := by unfold lenOk at hl; omega
    obtain ⟨h1, h2⟩ := hok x (List.mem_of_getElem? g1)
    have hm := May1_den x h1 h2
    simp only [Tok.cells] at hm
    have ih' := ih (i + 1) g2 (by omega)
    conv at ih' in loopAt _ _ => whnf
    conv in loopAt _ _ => whnf
    rw [exL_loop]
    cases hx : Tk.may x
    · rw [hx] at hm
      have hv : (x :: rest).all Tk.may = false := by rw [List.all_cons, hx]; rfl
      rw [hv]
      simp only [go_sem, Nat.reduceLT, reduceIte, reduceCtorEq, Nat.reduceEqDiff, apply_ite (Option.map (outOf _)), Nat.reduceBEq, Nat.reduceAdd, Nat.reduceSub, Nat.reduceLeDiff, Nat.reduceMul, ev_len_sl ty_descOf_41, ev_indexAddr ty_descOf_41, ty_szOf_45, ty_shapeT_45, good_59, keep_40_2, hlt, ga, hm, Int.natCast_nonneg, ends_some]
    · rw [hx] at hm
      have hv : (x :: rest).all Tk.may = rest.all Tk.may := by rw [List.all_cons, hx]; rfl
      rw [hv]
      simp only [go_sem, Nat.reduceLT, reduceIte, reduceCtorEq, Nat.reduceEqDiff, apply_ite (Option.map (outOf _)), Nat.reduceBEq, Nat.reduceAdd, Nat.reduceSub, Nat.reduceLeDiff, Nat.reduceMul, ev_len_sl ty_descOf_41, ev_indexAddr ty_descOf_41, ty_szOf_45, ty_shapeT_45, good_59, keep_40_2, hlt, ga, hm, Int.natCast_nonneg, wrap_nat i hi2]
      rw [exL_head]
      simp only [go_sem, Nat.reduceLT, reduceIte, reduceCtorEq, Nat.reduceEqDiff, apply_ite (Option.map (outOf _)), Nat.reduceBEq, Nat.reduceAdd, Nat.reduceSub, Nat.reduceLeDiff, Nat.reduceMul, ev_len_sl ty_descOf_41, ev_indexAddr ty_descOf_41, ty_szOf_45, ty_shapeT_45, good_59, keep_40_2]
      exact ih'
theorem Mays_den (l : List Tok) (hl : lenOk l.length) (hok : ∀ t ∈ l, I64 t.n ∧ t.text.length < 1000000000) : den K 40 [L (l.map Tok.enc)] [] = some (.ret (B (l.all Tk.may)) []) := by
  refine den_run rfl rfl Tryz.func40 rfl Tryz.ntmps40 ⟨by simp, by simp [LK]⟩ ?_
  have hr : Tryz.f40.results = #[.tmp 2] := rfl
  have hlp := mays_loop l hl hok l 0 rfl (Nat.zero_le _)
  conv at hlp in loopAt _ _ => whnf
  obtain ⟨o, S', e2, h⟩ := hlp
  simp only [go_sem, Nat.reduceLT, reduceIte, reduceCtorEq, Nat.reduceEqDiff, apply_ite (Option.map (outOf _)), Nat.reduceBEq, Nat.reduceAdd, Nat.reduceSub, Nat.reduceLeDiff, Nat.reduceMul, ev_len_sl ty_descOf_41, ev_indexAddr ty_descOf_41, ty_szOf_45, ty_shapeT_45, good_59, keep_40_2]
  rw [exL_head]
  simp only [go_sem, Nat.reduceLT, reduceIte, reduceCtorEq, Nat.reduceEqDiff, apply_ite (Option.map (outOf _)), Nat.reduceBEq, Nat.reduceAdd, Nat.reduceSub, Nat.reduceLeDiff, Nat.reduceMul, ev_len_sl ty_descOf_41, ev_indexAddr ty_descOf_41, ty_szOf_45, ty_shapeT_45, good_59, keep_40_2]
  erw [e2]
  rcases h with ⟨h1, rfl, h2⟩ | ⟨h1, rfl, h2⟩
  · rw [h1]
    simp only [go_sem, Nat.reduceLT, reduceIte, reduceCtorEq, Nat.reduceEqDiff, apply_ite (Option.map (outOf _)), Nat.reduceBEq, Nat.reduceAdd, Nat.reduceSub, Nat.reduceLeDiff, Nat.reduceMul, ev_len_sl ty_descOf_41, ev_indexAddr ty_descOf_41, ty_szOf_45, ty_shapeT_45, good_59, keep_40_2, hr, h2]
  · rw [h1]
    simp only [go_sem, Nat.reduceLT, reduceIte, reduceCtorEq, Nat.reduceEqDiff, apply_ite (Option.map (outOf _)), Nat.reduceBEq, Nat.reduceAdd, Nat.reduceSub, Nat.reduceLeDiff, Nat.reduceMul, ev_len_sl ty_descOf_41, ev_indexAddr ty_descOf_41, ty_szOf_45, ty_shapeT_45, good_59, keep_40_2, hr, h2]
end Go.Abs
