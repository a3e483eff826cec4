/-
  WHAT THE FUNCTIONS COMPUTE: loops; texts of words.
-/
import Derived.Test.YtcnodcgdceoijaaDoorSpecA
set_option linter.unusedSimpArgs false
set_option linter.unusedVariables false
namespace Go.Abs
open Go Go.Proofs

/-! ### Loops -/

theorem CV.live_live (bs : List Nat) (v : CV) : (v.live bs).live bs = v.live bs := by
  cases v with
  | loc s o =>
    by_cases h : bs.contains s = true
    · have e : CV.live bs (.loc s o) = .loc s o := if_pos h
      rw [e, e]
    · have e : CV.live bs (.loc s o) = .top := if_neg h
      rw [e]; rfl
  | fn f c =>
    by_cases h : c.all (fun x => bs.contains x.1) = true
    · have e : CV.live bs (.fn f c) = .fn f c := if_pos h
      rw [e, e]
    · have e : CV.live bs (.fn f c) = .top := if_neg h
      rw [e]; rfl
  | _ => rfl

theorem CV.liveIn_liveIn (bs : List Nat) (v : CV) : (v.liveIn bs).liveIn bs = v.liveIn bs := by
  cases v with
  | loc s o =>
    by_cases h : bs.contains s = true
    · have e : CV.liveIn bs (.loc s o) = .loc s o := if_pos h
      rw [e, e]
    · have e : CV.liveIn bs (.loc s o) = .top := if_neg h
      rw [e]; rfl
  | fn f c =>
    by_cases h : c.all (fun x => bs.contains x.1) = true
    · have e : CV.liveIn bs (.fn f c) = .fn f c := if_pos h
      rw [e, e]
    · have e : CV.liveIn bs (.fn f c) = .top := if_neg h
      rw [e]; rfl
  | _ => rfl

theorem AV.live_live (bs : List Nat) (v : AV) : (v.live bs).live bs = v.live bs := by
  cases v with
  | c v => simp only [AV.live, CV.live_live]
  | agg l => simp [AV.live, CV.liveIn_liveIn, Function.comp_def]
  | tup l => rfl

theorem head_head (kp : List Nat × List Nat) (S : St) : head kp (head kp S) = head kp S := by
  refine St.ext' rfl ?_ ?_
  · funext s
    show keepBoxes kp.2 (keepBoxes kp.2 S.bx kp.2) kp.2 s = keepBoxes kp.2 S.bx kp.2 s
    rw [keepBoxes_get, keepBoxes_get]
    split
    · cases S.bx s with
      | none => rfl
      | some l => simp [CV.live_live, Function.comp_def]
    · rfl
  · intro t
    show keepSlots kp.2 (keepSlots kp.2 S.sl kp.1) kp.1 t = keepSlots kp.2 S.sl kp.1 t
    rw [keepSlots_get, keepSlots_get]
    split
    · exact AV.live_live _ _
    · rfl

theorem exL_head (f : FuncId) (a : Code) (S : St) : exL K f (.loop a) S = exL K f (.loop a) (head (keepF f ((firstReg a).getD 0)) S) := by
  rw [exL_loop, exL_loop (S := head _ S), K_keep, head_head]

/-- the loop whose first region has a number -/
def findLoop (r : Nat) : Code → Option Code
  | .loop a => bif Nat.beq ((firstReg a).getD 0) r then some a else findLoop r a
  | .seq a b => (findLoop r a).orElse fun _ => findLoop r b
  | .cond _ a b => (findLoop r a).orElse fun _ => findLoop r b
  | .block _ a => findLoop r a
  | .scope a => findLoop r a
  | _ => none
def loopAt (fn : Func) (r : Nat) : Code := ((fn.body.bind (findLoop r))).getD .skip

set_option maxRecDepth 10000

/-! ### words -/

inductive Wd where
  | s (t : List UInt8)
  | n (k : Int)

def Wd.enc : Wd → List PV
  | .s t => [.ifc 9 (.str t)]
  | .n k => [.ifc 3 (.int .i64 k)]
def Wd.ok : Wd → Prop
  | .s _ => True
  | .n k => -9223372036854775808 ≤ k ∧ k ≤ 9223372036854775807
def Wd.text : Wd → List UInt8
  | .s t => t
  | .n k => Lib.itoa k
def wordsS (l : List Wd) : List UInt8 := l.flatMap Wd.text

theorem itoa_den (n : Int) (h : -9223372036854775808 ≤ n ∧ n ≤ 9223372036854775807) : den K 54 [I n] [] = some (.ret (T (Lib.itoa n)) []) :=
  prim_run (F := pItoa) rfl (by simp [pItoa, h])

/-- a builder past a loop's head -/
def BS.live' : BS → BS
  | .fresh => .live
  | b => b
theorem BS.live_text (b : BS) : b.live'.text = b.text := by cases b <;> rfl
def BS.add (b : BS) (t : List UInt8) : BS := .wr (b.text ++ t)
def wordsB (b : BS) : List Wd → BS
  | [] => b.live'
  | l => .wr (b.text ++ wordsS l)

theorem wrap_nat (n : Nat) (h : n < 9223372036854775807) : IntKind.i64.wrap ((n : Int) + 1) = ((n + 1 : Nat) : Int) := by
  rw [IntWalk.i64_in _ (by omega)]; rfl

theorem cells_live (b : BS) (k : Nat) (l : List Nat) (h : l.contains k = true) : (b.cells k).map (CV.live l) = b.live'.cells k := by
  cases b with
  | wr s => simp only [BS.cells, List.map_cons, List.map_nil, CV.live, BS.live', h, if_true]
  | _ => rfl

theorem cells_lend (b : BS) (k : Nat) (l : List Nat) : (b.cells k).map (CV.ren (lend (k :: l))) = b.cells 100000 := by
  cases b with
  | wr s => simp [BS.cells, CV.ren, lend, idx, LK]
  | _ => rfl
theorem cells_back (b : BS) (k : Nat) (l : List Nat) : (b.cells 100000).map (CV.ren (back (k :: l))) = b.cells k := by
  cases b with
  | wr s => simp [BS.cells, CV.ren, back, LK]
  | _ => rfl
theorem cells_lent (b : BS) : (b.cells 100000).map (CV.ren lentOnly) = b.cells 100000 := by
  cases b <;> rfl

theorem drop_cons {α : Type} {l rest : List α} {x : α} {i : Nat} (h : l.drop i = x :: rest) : l[i]? = some x ∧ l.drop (i + 1) = rest ∧ i < l.length := by
  have h1 : l[i]? = some x := by
    have : (l.drop i)[0]? = some x := by rw [h]; rfl
    simpa using this
  refine ⟨h1, ?_, (List.getElem?_eq_some_iff.1 h1).1⟩
  have : (l.drop i).tail = rest := by rw [h]; rfl
  rw [← this, List.tail_drop]

theorem lt_true {a b : Int} (h : a < b) : decide (a < b) = true := decide_eq_true h

/-- the head of a loop, as it stands -/
abbrev wordsH (b : BS) (l : List Wd) (i : Nat) : St :=
  { sl := upd (upd (upd (upd bot 10 (I i)) 9 (I l.length)) 8 (L (l.map Wd.enc))) 0 P0, bx := upd nobox 100000 (some (b.cells 100000)), nt := 33 }

theorem wordsB_cons (b : BS) (x : Wd) (rest : List Wd) : wordsB (.wr (b.text ++ x.text)) rest = wordsB b (x :: rest) := by
  cases rest with
  | nil => simp [wordsB, BS.live', wordsS]
  | cons y r => simp [wordsB, BS.text, wordsS]

theorem words_loop (all : List Wd) : ∀ (rest : List Wd) (i : Nat) (b : BS), all.drop i = rest → (∀ x ∈ rest, x.ok) → (b.text ++ wordsS rest).length < txtLim → b.live' = b → i ≤ all.length → all.length < 1000000 →
    exL K 37 (.loop (loopAt Tryd.f37 1)) (wordsH b all i) =
      some (.exit 0, { sl := upd (upd (upd (upd (upd bot 10 (I all.length)) 9 (I all.length)) 8 (L (all.map Wd.enc))) 0 P0) 11 (B false), bx := upd nobox 100000 (some ((wordsB b rest).cells 100000)), nt := 33 })
  | [], i, b, hd, hok, hlen, hb, hi, hal => by
    have hin : i = all.length := by
      have := List.drop_eq_nil_iff.1 hd
      omega
    subst hin
    conv in loopAt _ _ => whnf
    rw [exL_loop]
    simp only [exL_seq, exL_region, exL_cond, exL_block, exL_scope, exL_ret, exL_skip, exL_exit, runRegion, runOps, stepOp, guardA, absOp, takeOver, opd, avOf, cvOf, St.degAt, St.put, okPV, okVal, okAV, absBin, intBin, strBin, boolBin, setBoxes, if_true, Bool.false_eq_true, if_false, Option.map_some, Option.map_none, Option.bind_some, Option.bind_none, thenO, outOf, upd, List.toList_toArray, isOwn, steal, appArgs, inApps, AV.deg, CV.deg, AV.gv, AV.isIter, absNext, some_bne, Nat.reduceLT, reduceIte, reduceCtorEq, Nat.reduceEqDiff, List.length_nil, List.length_cons, apply_ite (Option.map (outOf _)), List.filterMap_cons, List.filterMap_nil, beq_iff_eq, List.getElem?_cons_zero, List.getElem?_cons_succ, Option.getD_some, K_hook, hookB, Nat.reduceBEq, Bool.false_and, Bool.and_false, Bool.and_self, K_P, K_own, absCall, doCall, getBoxes, lend, back, idx, dedup, AV.ren, CV.ren, TV.ren, AV.ptrs, CV.ptrs, zipBox, AV.flat, CV.flat, absLoad, absStore, cellsOfAV, setAt, newBox, markB, bldTypes, absFieldAddr, absField, absExtract, absAssert, noAssert, absMkIface, ifcOf, CV.pv?, content, pushHead, ownT, fillCells, reps, pvs, chunks, enterSt, leave, resOf, resVars, resVar, outBoxes, lentOnly, TV.deg, TV.av, LK, CV.plain, CV.noBld, nilBin, absUn, bound, List.map_cons, List.map_nil, List.all_cons, List.all_nil, List.any_cons, List.any_nil, List.contains_cons, List.contains_nil, List.elem_cons, List.elem_nil, List.cons_append, List.nil_append, List.append_nil, List.flatMap_cons, List.flatMap_nil, List.zip_cons_cons, List.zip_nil_left, List.zip_nil_right, List.take_succ_cons, List.take_zero, List.take_nil, List.drop_succ_cons, List.drop_zero, List.drop_nil, List.isEmpty_nil, List.isEmpty_cons, Bool.and_true, Bool.true_and, Bool.or_true, Bool.true_or, Bool.or_false, Bool.false_or, Bool.not_true, Bool.not_false, Nat.reduceAdd, Nat.reduceSub, Nat.reduceLeDiff, Nat.add_zero, Nat.zero_add, Nat.reduceMul, Option.isNone_none, Option.isNone_some, Option.getD_none, true_and, and_true, not_true_eq_false, not_false_eq_true, decide_true, decide_false, List.toList_toArray, Nat.le_refl, and_self, Bool.not_eq_true, Nat.sub_self, or_true, true_or, Option.some.injEq, List.length_map, List.nil_eq, and_false, false_and, AV.live, CV.live, CV.liveIn, K_keep, firstReg, Option.orElse_some, Option.orElse_none, head, keepSlots, keepBoxes, Int.lt_irrefl, List.length_append, ite_self, memOK, logOps, opKey, lentBoxes, Key.clash, Key.sees, Key.writes, Nat.lt_irrefl, gt_iff_lt, nobox_at, bot_at, false_or, or_false, beq_self_eq_true, Bool.true_beq, Bool.false_beq, ev_len_sl ty_descOf_93, ev_indexAddr ty_descOf_93, ty_szOf_20, ty_shapeT_20, ty_concreteT_9, ty_tvZero_9, ty_fieldOff_64_0, ty_szOf_62, good_52, ty_concreteT_3, ty_tvZero_3, good_54, keep_37_1, cells_live, hb, wordsB]
  | x :: rest, i, b, hd, hok, hlen, hb, hi, hal => by
    obtain ⟨h1, h2, h3⟩ := drop_cons hd
    have hx := hok x (by simp)
    have ih := fun b => words_loop all rest (i + 1) b h2 (fun y hy => hok y (by simp [hy]))
    conv in loopAt _ _ => whnf
    rw [exL_loop]
    have hl1 : (b.text ++ x.text).length < txtLim := by simp [wordsS] at hlen ⊢; omega
    have hws := WriteString_den b x.text hl1
    have hget : (all.map Wd.enc)[(i : Int).toNat]? = some x.enc := by simp [h1]
    have hlt : decide ((i : Int) < (all.length : Int)) = true := lt_true (by omega)
    have hnext := ih (.wr (b.text ++ x.text)) (by simpa [BS.text, wordsS] using hlen) rfl (by omega) hal
    rw [← wordsB_cons b x rest]
    conv at hnext in loopAt _ _ => whnf
    cases x with
    | s t =>
      simp only [Wd.text] at hws hnext ⊢
      simp only [exL_seq, exL_region, exL_cond, exL_block, exL_scope, exL_ret, exL_skip, exL_exit, runRegion, runOps, stepOp, guardA, absOp, takeOver, opd, avOf, cvOf, St.degAt, St.put, okPV, okVal, okAV, absBin, intBin, strBin, boolBin, setBoxes, if_true, Bool.false_eq_true, if_false, Option.map_some, Option.map_none, Option.bind_some, Option.bind_none, thenO, outOf, upd, List.toList_toArray, isOwn, steal, appArgs, inApps, AV.deg, CV.deg, AV.gv, AV.isIter, absNext, some_bne, Nat.reduceLT, reduceIte, reduceCtorEq, Nat.reduceEqDiff, List.length_nil, List.length_cons, apply_ite (Option.map (outOf _)), List.filterMap_cons, List.filterMap_nil, beq_iff_eq, List.getElem?_cons_zero, List.getElem?_cons_succ, Option.getD_some, K_hook, hookB, Nat.reduceBEq, Bool.false_and, Bool.and_false, Bool.and_self, K_P, K_own, absCall, doCall, getBoxes, lend, back, idx, dedup, AV.ren, CV.ren, TV.ren, AV.ptrs, CV.ptrs, zipBox, AV.flat, CV.flat, absLoad, absStore, cellsOfAV, setAt, newBox, markB, bldTypes, absFieldAddr, absField, absExtract, absAssert, noAssert, absMkIface, ifcOf, CV.pv?, content, pushHead, ownT, fillCells, reps, pvs, chunks, enterSt, leave, resOf, resVars, resVar, outBoxes, lentOnly, TV.deg, TV.av, LK, CV.plain, CV.noBld, nilBin, absUn, bound, List.map_cons, List.map_nil, List.all_cons, List.all_nil, List.any_cons, List.any_nil, List.contains_cons, List.contains_nil, List.elem_cons, List.elem_nil, List.cons_append, List.nil_append, List.append_nil, List.flatMap_cons, List.flatMap_nil, List.zip_cons_cons, List.zip_nil_left, List.zip_nil_right, List.take_succ_cons, List.take_zero, List.take_nil, List.drop_succ_cons, List.drop_zero, List.drop_nil, List.isEmpty_nil, List.isEmpty_cons, Bool.and_true, Bool.true_and, Bool.or_true, Bool.true_or, Bool.or_false, Bool.false_or, Bool.not_true, Bool.not_false, Nat.reduceAdd, Nat.reduceSub, Nat.reduceLeDiff, Nat.add_zero, Nat.zero_add, Nat.reduceMul, Option.isNone_none, Option.isNone_some, Option.getD_none, true_and, and_true, not_true_eq_false, not_false_eq_true, decide_true, decide_false, List.toList_toArray, Nat.le_refl, and_self, Bool.not_eq_true, Nat.sub_self, or_true, true_or, Option.some.injEq, List.length_map, List.nil_eq, and_false, false_and, AV.live, CV.live, CV.liveIn, K_keep, firstReg, Option.orElse_some, Option.orElse_none, head, keepSlots, keepBoxes, Int.lt_irrefl, List.length_append, ite_self, memOK, logOps, opKey, lentBoxes, Key.clash, Key.sees, Key.writes, Nat.lt_irrefl, gt_iff_lt, nobox_at, bot_at, false_or, or_false, beq_self_eq_true, Bool.true_beq, Bool.false_beq, ev_len_sl ty_descOf_93, ev_indexAddr ty_descOf_93, ty_szOf_20, ty_shapeT_20, ty_concreteT_9, ty_tvZero_9, ty_fieldOff_64_0, ty_szOf_62, good_52, ty_concreteT_3, ty_tvZero_3, good_54, keep_37_1, cells_live, cells_lend, cells_back, hb, hlt, hget, Int.natCast_nonneg, Wd.enc, hws, wrap_nat i (by omega)]
      rw [exL_head]
      simp only [exL_seq, exL_region, exL_cond, exL_block, exL_scope, exL_ret, exL_skip, exL_exit, runRegion, runOps, stepOp, guardA, absOp, takeOver, opd, avOf, cvOf, St.degAt, St.put, okPV, okVal, okAV, absBin, intBin, strBin, boolBin, setBoxes, if_true, Bool.false_eq_true, if_false, Option.map_some, Option.map_none, Option.bind_some, Option.bind_none, thenO, outOf, upd, List.toList_toArray, isOwn, steal, appArgs, inApps, AV.deg, CV.deg, AV.gv, AV.isIter, absNext, some_bne, Nat.reduceLT, reduceIte, reduceCtorEq, Nat.reduceEqDiff, List.length_nil, List.length_cons, apply_ite (Option.map (outOf _)), List.filterMap_cons, List.filterMap_nil, beq_iff_eq, List.getElem?_cons_zero, List.getElem?_cons_succ, Option.getD_some, K_hook, hookB, Nat.reduceBEq, Bool.false_and, Bool.and_false, Bool.and_self, K_P, K_own, absCall, doCall, getBoxes, lend, back, idx, dedup, AV.ren, CV.ren, TV.ren, AV.ptrs, CV.ptrs, zipBox, AV.flat, CV.flat, absLoad, absStore, cellsOfAV, setAt, newBox, markB, bldTypes, absFieldAddr, absField, absExtract, absAssert, noAssert, absMkIface, ifcOf, CV.pv?, content, pushHead, ownT, fillCells, reps, pvs, chunks, enterSt, leave, resOf, resVars, resVar, outBoxes, lentOnly, TV.deg, TV.av, LK, CV.plain, CV.noBld, nilBin, absUn, bound, List.map_cons, List.map_nil, List.all_cons, List.all_nil, List.any_cons, List.any_nil, List.contains_cons, List.contains_nil, List.elem_cons, List.elem_nil, List.cons_append, List.nil_append, List.append_nil, List.flatMap_cons, List.flatMap_nil, List.zip_cons_cons, List.zip_nil_left, List.zip_nil_right, List.take_succ_cons, List.take_zero, List.take_nil, List.drop_succ_cons, List.drop_zero, List.drop_nil, List.isEmpty_nil, List.isEmpty_cons, Bool.and_true, Bool.true_and, Bool.or_true, Bool.true_or, Bool.or_false, Bool.false_or, Bool.not_true, Bool.not_false, Nat.reduceAdd, Nat.reduceSub, Nat.reduceLeDiff, Nat.add_zero, Nat.zero_add, Nat.reduceMul, Option.isNone_none, Option.isNone_some, Option.getD_none, true_and, and_true, not_true_eq_false, not_false_eq_true, decide_true, decide_false, List.toList_toArray, Nat.le_refl, and_self, Bool.not_eq_true, Nat.sub_self, or_true, true_or, Option.some.injEq, List.length_map, List.nil_eq, and_false, false_and, AV.live, CV.live, CV.liveIn, K_keep, firstReg, Option.orElse_some, Option.orElse_none, head, keepSlots, keepBoxes, Int.lt_irrefl, List.length_append, ite_self, memOK, logOps, opKey, lentBoxes, Key.clash, Key.sees, Key.writes, Nat.lt_irrefl, gt_iff_lt, nobox_at, bot_at, false_or, or_false, beq_self_eq_true, Bool.true_beq, Bool.false_beq, ev_len_sl ty_descOf_93, ev_indexAddr ty_descOf_93, ty_szOf_20, ty_shapeT_20, ty_concreteT_9, ty_tvZero_9, ty_fieldOff_64_0, ty_szOf_62, good_52, ty_concreteT_3, ty_tvZero_3, good_54, keep_37_1, cells_live]
      exact hnext
    | n k =>
      have hit := itoa_den k hx
      simp only [Wd.text] at hws hnext ⊢
      simp only [exL_seq, exL_region, exL_cond, exL_block, exL_scope, exL_ret, exL_skip, exL_exit, runRegion, runOps, stepOp, guardA, absOp, takeOver, opd, avOf, cvOf, St.degAt, St.put, okPV, okVal, okAV, absBin, intBin, strBin, boolBin, setBoxes, if_true, Bool.false_eq_true, if_false, Option.map_some, Option.map_none, Option.bind_some, Option.bind_none, thenO, outOf, upd, List.toList_toArray, isOwn, steal, appArgs, inApps, AV.deg, CV.deg, AV.gv, AV.isIter, absNext, some_bne, Nat.reduceLT, reduceIte, reduceCtorEq, Nat.reduceEqDiff, List.length_nil, List.length_cons, apply_ite (Option.map (outOf _)), List.filterMap_cons, List.filterMap_nil, beq_iff_eq, List.getElem?_cons_zero, List.getElem?_cons_succ, Option.getD_some, K_hook, hookB, Nat.reduceBEq, Bool.false_and, Bool.and_false, Bool.and_self, K_P, K_own, absCall, doCall, getBoxes, lend, back, idx, dedup, AV.ren, CV.ren, TV.ren, AV.ptrs, CV.ptrs, zipBox, AV.flat, CV.flat, absLoad, absStore, cellsOfAV, setAt, newBox, markB, bldTypes, absFieldAddr, absField, absExtract, absAssert, noAssert, absMkIface, ifcOf, CV.pv?, content, pushHead, ownT, fillCells, reps, pvs, chunks, enterSt, leave, resOf, resVars, resVar, outBoxes, lentOnly, TV.deg, TV.av, LK, CV.plain, CV.noBld, nilBin, absUn, bound, List.map_cons, List.map_nil, List.all_cons, List.all_nil, List.any_cons, List.any_nil, List.contains_cons, List.contains_nil, List.elem_cons, List.elem_nil, List.cons_append, List.nil_append, List.append_nil, List.flatMap_cons, List.flatMap_nil, List.zip_cons_cons, List.zip_nil_left, List.zip_nil_right, List.take_succ_cons, List.take_zero, List.take_nil, List.drop_succ_cons, List.drop_zero, List.drop_nil, List.isEmpty_nil, List.isEmpty_cons, Bool.and_true, Bool.true_and, Bool.or_true, Bool.true_or, Bool.or_false, Bool.false_or, Bool.not_true, Bool.not_false, Nat.reduceAdd, Nat.reduceSub, Nat.reduceLeDiff, Nat.add_zero, Nat.zero_add, Nat.reduceMul, Option.isNone_none, Option.isNone_some, Option.getD_none, true_and, and_true, not_true_eq_false, not_false_eq_true, decide_true, decide_false, List.toList_toArray, Nat.le_refl, and_self, Bool.not_eq_true, Nat.sub_self, or_true, true_or, Option.some.injEq, List.length_map, List.nil_eq, and_false, false_and, AV.live, CV.live, CV.liveIn, K_keep, firstReg, Option.orElse_some, Option.orElse_none, head, keepSlots, keepBoxes, Int.lt_irrefl, List.length_append, ite_self, memOK, logOps, opKey, lentBoxes, Key.clash, Key.sees, Key.writes, Nat.lt_irrefl, gt_iff_lt, nobox_at, bot_at, false_or, or_false, beq_self_eq_true, Bool.true_beq, Bool.false_beq, ev_len_sl ty_descOf_93, ev_indexAddr ty_descOf_93, ty_szOf_20, ty_shapeT_20, ty_concreteT_9, ty_tvZero_9, ty_fieldOff_64_0, ty_szOf_62, good_52, ty_concreteT_3, ty_tvZero_3, good_54, keep_37_1, cells_live, cells_lend, cells_back, hb, hlt, hget, Int.natCast_nonneg, Wd.enc, hws, hit, wrap_nat i (by omega)]
      rw [exL_head]
      simp only [exL_seq, exL_region, exL_cond, exL_block, exL_scope, exL_ret, exL_skip, exL_exit, runRegion, runOps, stepOp, guardA, absOp, takeOver, opd, avOf, cvOf, St.degAt, St.put, okPV, okVal, okAV, absBin, intBin, strBin, boolBin, setBoxes, if_true, Bool.false_eq_true, if_false, Option.map_some, Option.map_none, Option.bind_some, Option.bind_none, thenO, outOf, upd, List.toList_toArray, isOwn, steal, appArgs, inApps, AV.deg, CV.deg, AV.gv, AV.isIter, absNext, some_bne, Nat.reduceLT, reduceIte, reduceCtorEq, Nat.reduceEqDiff, List.length_nil, List.length_cons, apply_ite (Option.map (outOf _)), List.filterMap_cons, List.filterMap_nil, beq_iff_eq, List.getElem?_cons_zero, List.getElem?_cons_succ, Option.getD_some, K_hook, hookB, Nat.reduceBEq, Bool.false_and, Bool.and_false, Bool.and_self, K_P, K_own, absCall, doCall, getBoxes, lend, back, idx, dedup, AV.ren, CV.ren, TV.ren, AV.ptrs, CV.ptrs, zipBox, AV.flat, CV.flat, absLoad, absStore, cellsOfAV, setAt, newBox, markB, bldTypes, absFieldAddr, absField, absExtract, absAssert, noAssert, absMkIface, ifcOf, CV.pv?, content, pushHead, ownT, fillCells, reps, pvs, chunks, enterSt, leave, resOf, resVars, resVar, outBoxes, lentOnly, TV.deg, TV.av, LK, CV.plain, CV.noBld, nilBin, absUn, bound, List.map_cons, List.map_nil, List.all_cons, List.all_nil, List.any_cons, List.any_nil, List.contains_cons, List.contains_nil, List.elem_cons, List.elem_nil, List.cons_append, List.nil_append, List.append_nil, List.flatMap_cons, List.flatMap_nil, List.zip_cons_cons, List.zip_nil_left, List.zip_nil_right, List.take_succ_cons, List.take_zero, List.take_nil, List.drop_succ_cons, List.drop_zero, List.drop_nil, List.isEmpty_nil, List.isEmpty_cons, Bool.and_true, Bool.true_and, Bool.or_true, Bool.true_or, Bool.or_false, Bool.false_or, Bool.not_true, Bool.not_false, Nat.reduceAdd, Nat.reduceSub, Nat.reduceLeDiff, Nat.add_zero, Nat.zero_add, Nat.reduceMul, Option.isNone_none, Option.isNone_some, Option.getD_none, true_and, and_true, not_true_eq_false, not_false_eq_true, decide_true, decide_false, List.toList_toArray, Nat.le_refl, and_self, Bool.not_eq_true, Nat.sub_self, or_true, true_or, Option.some.injEq, List.length_map, List.nil_eq, and_false, false_and, AV.live, CV.live, CV.liveIn, K_keep, firstReg, Option.orElse_some, Option.orElse_none, head, keepSlots, keepBoxes, Int.lt_irrefl, List.length_append, ite_self, memOK, logOps, opKey, lentBoxes, Key.clash, Key.sees, Key.writes, Nat.lt_irrefl, gt_iff_lt, nobox_at, bot_at, false_or, or_false, beq_self_eq_true, Bool.true_beq, Bool.false_beq, ev_len_sl ty_descOf_93, ev_indexAddr ty_descOf_93, ty_szOf_20, ty_shapeT_20, ty_concreteT_9, ty_tvZero_9, ty_fieldOff_64_0, ty_szOf_62, good_52, ty_concreteT_3, ty_tvZero_3, good_54, keep_37_1, cells_live]
      exact hnext

theorem words_den (l : List Wd) (b : BS) (hok : ∀ x ∈ l, x.ok) (hlen : (b.text ++ wordsS l).length < txtLim) (hl : l.length < 1000000) :
    den K 37 [P0, L (l.map Wd.enc)] [b.cells 100000] = some (.ret (.tup []) [(wordsB b l).cells 100000]) := by
  refine den_run rfl Tryd.func37 rfl Tryd.ntmps37 ⟨by simp, by simp [LK]⟩ ?_
  have hr : Tryd.f37.results = #[] := rfl
  have hnext := words_loop l l 0 b.live' rfl hok (by rw [BS.live_text]; exact hlen) (by cases b <;> rfl) (by omega) hl
  conv at hnext in loopAt _ _ => whnf
  have hB : wordsB b.live' l = wordsB b l := by cases b <;> cases l <;> rfl
  rw [hB] at hnext
  simp only [exL_seq, exL_region, exL_cond, exL_block, exL_scope, exL_ret, exL_skip, exL_exit, runRegion, runOps, stepOp, guardA, absOp, takeOver, opd, avOf, cvOf, St.degAt, St.put, okPV, okVal, okAV, absBin, intBin, strBin, boolBin, setBoxes, if_true, Bool.false_eq_true, if_false, Option.map_some, Option.map_none, Option.bind_some, Option.bind_none, thenO, outOf, upd, List.toList_toArray, isOwn, steal, appArgs, inApps, AV.deg, CV.deg, AV.gv, AV.isIter, absNext, some_bne, Nat.reduceLT, reduceIte, reduceCtorEq, Nat.reduceEqDiff, List.length_nil, List.length_cons, apply_ite (Option.map (outOf _)), List.filterMap_cons, List.filterMap_nil, beq_iff_eq, List.getElem?_cons_zero, List.getElem?_cons_succ, Option.getD_some, K_hook, hookB, Nat.reduceBEq, Bool.false_and, Bool.and_false, Bool.and_self, K_P, K_own, absCall, doCall, getBoxes, lend, back, idx, dedup, AV.ren, CV.ren, TV.ren, AV.ptrs, CV.ptrs, zipBox, AV.flat, CV.flat, absLoad, absStore, cellsOfAV, setAt, newBox, markB, bldTypes, absFieldAddr, absField, absExtract, absAssert, noAssert, absMkIface, ifcOf, CV.pv?, content, pushHead, ownT, fillCells, reps, pvs, chunks, enterSt, leave, resOf, resVars, resVar, outBoxes, lentOnly, TV.deg, TV.av, LK, CV.plain, CV.noBld, nilBin, absUn, bound, List.map_cons, List.map_nil, List.all_cons, List.all_nil, List.any_cons, List.any_nil, List.contains_cons, List.contains_nil, List.elem_cons, List.elem_nil, List.cons_append, List.nil_append, List.append_nil, List.flatMap_cons, List.flatMap_nil, List.zip_cons_cons, List.zip_nil_left, List.zip_nil_right, List.take_succ_cons, List.take_zero, List.take_nil, List.drop_succ_cons, List.drop_zero, List.drop_nil, List.isEmpty_nil, List.isEmpty_cons, Bool.and_true, Bool.true_and, Bool.or_true, Bool.true_or, Bool.or_false, Bool.false_or, Bool.not_true, Bool.not_false, Nat.reduceAdd, Nat.reduceSub, Nat.reduceLeDiff, Nat.add_zero, Nat.zero_add, Nat.reduceMul, Option.isNone_none, Option.isNone_some, Option.getD_none, true_and, and_true, not_true_eq_false, not_false_eq_true, decide_true, decide_false, List.toList_toArray, Nat.le_refl, and_self, Bool.not_eq_true, Nat.sub_self, or_true, true_or, Option.some.injEq, List.length_map, List.nil_eq, and_false, false_and, AV.live, CV.live, CV.liveIn, K_keep, firstReg, Option.orElse_some, Option.orElse_none, head, keepSlots, keepBoxes, Int.lt_irrefl, List.length_append, ite_self, memOK, logOps, opKey, lentBoxes, Key.clash, Key.sees, Key.writes, Nat.lt_irrefl, gt_iff_lt, nobox_at, bot_at, false_or, or_false, beq_self_eq_true, Bool.true_beq, Bool.false_beq, ev_len_sl ty_descOf_93, ev_indexAddr ty_descOf_93, ty_szOf_20, ty_shapeT_20, ty_concreteT_9, ty_tvZero_9, ty_fieldOff_64_0, ty_szOf_62, good_52, ty_concreteT_3, ty_tvZero_3, good_54, keep_37_1, cells_live]
  rw [exL_head]
  simp only [exL_seq, exL_region, exL_cond, exL_block, exL_scope, exL_ret, exL_skip, exL_exit, runRegion, runOps, stepOp, guardA, absOp, takeOver, opd, avOf, cvOf, St.degAt, St.put, okPV, okVal, okAV, absBin, intBin, strBin, boolBin, setBoxes, if_true, Bool.false_eq_true, if_false, Option.map_some, Option.map_none, Option.bind_some, Option.bind_none, thenO, outOf, upd, List.toList_toArray, isOwn, steal, appArgs, inApps, AV.deg, CV.deg, AV.gv, AV.isIter, absNext, some_bne, Nat.reduceLT, reduceIte, reduceCtorEq, Nat.reduceEqDiff, List.length_nil, List.length_cons, apply_ite (Option.map (outOf _)), List.filterMap_cons, List.filterMap_nil, beq_iff_eq, List.getElem?_cons_zero, List.getElem?_cons_succ, Option.getD_some, K_hook, hookB, Nat.reduceBEq, Bool.false_and, Bool.and_false, Bool.and_self, K_P, K_own, absCall, doCall, getBoxes, lend, back, idx, dedup, AV.ren, CV.ren, TV.ren, AV.ptrs, CV.ptrs, zipBox, AV.flat, CV.flat, absLoad, absStore, cellsOfAV, setAt, newBox, markB, bldTypes, absFieldAddr, absField, absExtract, absAssert, noAssert, absMkIface, ifcOf, CV.pv?, content, pushHead, ownT, fillCells, reps, pvs, chunks, enterSt, leave, resOf, resVars, resVar, outBoxes, lentOnly, TV.deg, TV.av, LK, CV.plain, CV.noBld, nilBin, absUn, bound, List.map_cons, List.map_nil, List.all_cons, List.all_nil, List.any_cons, List.any_nil, List.contains_cons, List.contains_nil, List.elem_cons, List.elem_nil, List.cons_append, List.nil_append, List.append_nil, List.flatMap_cons, List.flatMap_nil, List.zip_cons_cons, List.zip_nil_left, List.zip_nil_right, List.take_succ_cons, List.take_zero, List.take_nil, List.drop_succ_cons, List.drop_zero, List.drop_nil, List.isEmpty_nil, List.isEmpty_cons, Bool.and_true, Bool.true_and, Bool.or_true, Bool.true_or, Bool.or_false, Bool.false_or, Bool.not_true, Bool.not_false, Nat.reduceAdd, Nat.reduceSub, Nat.reduceLeDiff, Nat.add_zero, Nat.zero_add, Nat.reduceMul, Option.isNone_none, Option.isNone_some, Option.getD_none, true_and, and_true, not_true_eq_false, not_false_eq_true, decide_true, decide_false, List.toList_toArray, Nat.le_refl, and_self, Bool.not_eq_true, Nat.sub_self, or_true, true_or, Option.some.injEq, List.length_map, List.nil_eq, and_false, false_and, AV.live, CV.live, CV.liveIn, K_keep, firstReg, Option.orElse_some, Option.orElse_none, head, keepSlots, keepBoxes, Int.lt_irrefl, List.length_append, ite_self, memOK, logOps, opKey, lentBoxes, Key.clash, Key.sees, Key.writes, Nat.lt_irrefl, gt_iff_lt, nobox_at, bot_at, false_or, or_false, beq_self_eq_true, Bool.true_beq, Bool.false_beq, ev_len_sl ty_descOf_93, ev_indexAddr ty_descOf_93, ty_szOf_20, ty_shapeT_20, ty_concreteT_9, ty_tvZero_9, ty_fieldOff_64_0, ty_szOf_62, good_52, ty_concreteT_3, ty_tvZero_3, good_54, keep_37_1, cells_live]
  erw [hnext]
  simp only [exL_seq, exL_region, exL_cond, exL_block, exL_scope, exL_ret, exL_skip, exL_exit, runRegion, runOps, stepOp, guardA, absOp, takeOver, opd, avOf, cvOf, St.degAt, St.put, okPV, okVal, okAV, absBin, intBin, strBin, boolBin, setBoxes, if_true, Bool.false_eq_true, if_false, Option.map_some, Option.map_none, Option.bind_some, Option.bind_none, thenO, outOf, upd, List.toList_toArray, isOwn, steal, appArgs, inApps, AV.deg, CV.deg, AV.gv, AV.isIter, absNext, some_bne, Nat.reduceLT, reduceIte, reduceCtorEq, Nat.reduceEqDiff, List.length_nil, List.length_cons, apply_ite (Option.map (outOf _)), List.filterMap_cons, List.filterMap_nil, beq_iff_eq, List.getElem?_cons_zero, List.getElem?_cons_succ, Option.getD_some, K_hook, hookB, Nat.reduceBEq, Bool.false_and, Bool.and_false, Bool.and_self, K_P, K_own, absCall, doCall, getBoxes, lend, back, idx, dedup, AV.ren, CV.ren, TV.ren, AV.ptrs, CV.ptrs, zipBox, AV.flat, CV.flat, absLoad, absStore, cellsOfAV, setAt, newBox, markB, bldTypes, absFieldAddr, absField, absExtract, absAssert, noAssert, absMkIface, ifcOf, CV.pv?, content, pushHead, ownT, fillCells, reps, pvs, chunks, enterSt, leave, resOf, resVars, resVar, outBoxes, lentOnly, TV.deg, TV.av, LK, CV.plain, CV.noBld, nilBin, absUn, bound, List.map_cons, List.map_nil, List.all_cons, List.all_nil, List.any_cons, List.any_nil, List.contains_cons, List.contains_nil, List.elem_cons, List.elem_nil, List.cons_append, List.nil_append, List.append_nil, List.flatMap_cons, List.flatMap_nil, List.zip_cons_cons, List.zip_nil_left, List.zip_nil_right, List.take_succ_cons, List.take_zero, List.take_nil, List.drop_succ_cons, List.drop_zero, List.drop_nil, List.isEmpty_nil, List.isEmpty_cons, Bool.and_true, Bool.true_and, Bool.or_true, Bool.true_or, Bool.or_false, Bool.false_or, Bool.not_true, Bool.not_false, Nat.reduceAdd, Nat.reduceSub, Nat.reduceLeDiff, Nat.add_zero, Nat.zero_add, Nat.reduceMul, Option.isNone_none, Option.isNone_some, Option.getD_none, true_and, and_true, not_true_eq_false, not_false_eq_true, decide_true, decide_false, List.toList_toArray, Nat.le_refl, and_self, Bool.not_eq_true, Nat.sub_self, or_true, true_or, Option.some.injEq, List.length_map, List.nil_eq, and_false, false_and, AV.live, CV.live, CV.liveIn, K_keep, firstReg, Option.orElse_some, Option.orElse_none, head, keepSlots, keepBoxes, Int.lt_irrefl, List.length_append, ite_self, memOK, logOps, opKey, lentBoxes, Key.clash, Key.sees, Key.writes, Nat.lt_irrefl, gt_iff_lt, nobox_at, bot_at, false_or, or_false, beq_self_eq_true, Bool.true_beq, Bool.false_beq, ev_len_sl ty_descOf_93, ev_indexAddr ty_descOf_93, ty_szOf_20, ty_shapeT_20, ty_concreteT_9, ty_tvZero_9, ty_fieldOff_64_0, ty_szOf_62, good_52, ty_concreteT_3, ty_tvZero_3, good_54, keep_37_1, cells_live, cells_lent, hr]

end Go.Abs
