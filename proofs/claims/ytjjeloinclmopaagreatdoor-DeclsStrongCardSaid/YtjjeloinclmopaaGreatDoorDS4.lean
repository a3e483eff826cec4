/-
  strings.IndexAny of a text of at most eight bytes, as an interpreter runs it: where the first byte stands that ends a line.
  strings.IndexAny, asked for the three bytes that end a line, of a text of whatever bytes: what it answers, and that it does.
  THE ABSTRACT INTERPRETER: what it is run with over this program.
  FACTS ON THE TYPES OF THIS PROGRAM, each by the kernel (printed by a program).
  FACTS ON THE TYPES OF THIS PROGRAM, each by the kernel (printed by a program).
  SELECTORS, in plain Lean: what a selector is, its text, the values that the text reads as; how values are read as selectors. No program stands here.
  WHAT THE FUNCTIONS COMPUTE: the smallest; the builder of texts.
  WHAT THE FUNCTIONS COMPUTE: loops; texts of words.
  WHAT THE FUNCTIONS COMPUTE: a token's text; numbers of an nth; simple selectors.
  TOKENS, in plain Lean: which tokens a text is read as; tokens that may be are read again as they were. No program stands here.
  TOKENS, in plain Lean: tokens that may be are read again as they were (ToksBack, ToksTwo, ToksBlanks). No program stands here.
  TOKENS, in plain Lean: what each token has (ToksParts); two texts, and a comment between (ToksBoth). No program stands here.
  VALUES, plain: how many there are; what is so of each token; what the laws' premises say.
  WHAT THE FUNCTIONS COMPUTE, layer 1: tokens that are the same; lists of them.
  WHAT THE FUNCTIONS COMPUTE, layer 2: blocks' last tokens; values told flat; depth.
  WHAT THE FUNCTIONS COMPUTE, layer 2: are values the same?
  WHAT THE FUNCTIONS COMPUTE, layer 2: values told flat, as the document says; how many there are.
  WHAT THE FUNCTIONS COMPUTE, layer 3, the document's answer: blanks, signs; values trimmed, cut by a sign.
  Layer 3, plain: values trimmed, cut into words, joined: what holds of them, without the program.
  WHAT THE FUNCTIONS COMPUTE, layer 3: values trimmed, cut, joined.
  WHAT THE FUNCTIONS COMPUTE, layer 3, the document's answer: joined, cut into words; lists that are the same.
  WHAT THE FUNCTIONS COMPUTE, layer 3: values joined.
  WHAT THE FUNCTIONS COMPUTE: small letters, as the document's answer has them.
  WHAT THE FUNCTIONS COMPUTE, layer 1: classes of bytes, runs, names.
  WHAT THE FUNCTIONS COMPUTE, layer 1: the scanner's small steps: a name, a token that is laid, a comment, a string.
  WHAT THE FUNCTIONS COMPUTE, layer 1: the scanner's comment, string, number.
  Layer 3, plain: values that are read from a text: what is so of parts of values; what is read is read again.
  SELECTORS: the values of selectors that may be are read as the selectors.
-/
import Derived.KernelRfl
import Derived.Test.YtjjeloinclmopaaGreatDoorProg
import Derived.Lib.Bytealg
import Derived.Test.YtjjeloinclmopaaGreatDoorDS3
set_option linter.unusedSimpArgs false
set_option linter.unusedVariables false
namespace Go.Abs
open Go Go.Proofs
set_option maxRecDepth 10000
theorem decode_width (s : ByteArray) (pos : Nat) (h : pos < s.size) : pos + (Utf8.decode s pos).2 ≤ s.size := by
  simp only [Utf8.decode]
  repeat' split
  all_goals simp_all
  all_goals omega
theorem decode_bytes (s : ByteArray) (pos : Nat) (h : pos < s.size) (ha : 128 ≤ (s[pos]'h).toNat) : ∀ j, pos ≤ j → j < pos + (Utf8.decode s pos).2 → 128 ≤ (s.get! j).toNat := by
  have hn : ¬ (s[pos]'h).toNat < 128 := by omega
  have h0 : 128 ≤ (s.get! pos).toNat := by have := get_at s pos h; rw [Nat.add_zero] at this; rw [this]; exact ha
  intro j h1 h2
  obtain ⟨k, rfl⟩ : ∃ k, j = pos + k := ⟨j - pos, by omega⟩
  have h3 : k < (Utf8.decode s pos).2 := by omega
  clear h1 h2
  simp only [Utf8.decode, get_at s pos h, hn, if_false] at h3
  have key : k = 0 ∨ k = 1 ∧ (s.get! (pos + 1)).toNat / 64 = 2 ∨ k = 2 ∧ (s.get! (pos + 2)).toNat / 64 = 2 ∨ k = 3 ∧ (s.get! (pos + 3)).toNat / 64 = 2 := by
    revert h3
    repeat' split
    all_goals simp_all
    all_goals omega
  rcases key with rfl | ⟨rfl, e⟩ | ⟨rfl, e⟩ | ⟨rfl, e⟩
  · exact h0
  all_goals omega
theorem decode_at (s : List UInt8) (pos : Nat) (h : pos < s.length) : ∃ (r wd : Nat), Utf8.decode ⟨s.toArray⟩ pos = (r, wd) ∧ 1 ≤ wd ∧ pos + wd ≤ s.length ∧ r ≤ 2147483647 ∧
    ((r < 128 ∧ wd = 1 ∧ ∃ b, s[pos]? = some b ∧ b.toNat = r) ∨ (128 ≤ r ∧ ∀ j b, pos ≤ j → j < pos + wd → s[j]? = some b → 128 ≤ b.toNat)) := by
  have hs : (⟨s.toArray⟩ : ByteArray).size = s.length := by simp [ByteArray.size]
  have hp : pos < (⟨s.toArray⟩ : ByteArray).size := by rw [hs]; exact h
  have hb : s[pos]? = some ((⟨s.toArray⟩ : ByteArray)[pos]'hp) := by
    rw [List.getElem?_eq_getElem h]; rfl
  have hw := decode_width ⟨s.toArray⟩ pos hp
  have hle := decode_le ⟨s.toArray⟩ pos
  rw [hs] at hw
  by_cases hc : ((⟨s.toArray⟩ : ByteArray)[pos]'hp).toNat < 128
  · have e := decode_ascii ⟨s.toArray⟩ pos hp hc
    refine ⟨_, _, e, Nat.le_refl _, by omega, by omega, .inl ⟨hc, rfl, _, hb, rfl⟩⟩
  · have e := decode_high ⟨s.toArray⟩ pos hp (by omega)
    refine ⟨_, _, rfl, e.2, hw, hle, .inr ⟨e.1, fun j b h1 h2 hj => ?_⟩⟩
    have h3 := decode_bytes ⟨s.toArray⟩ pos hp (by omega) j h1 h2
    have h4 : (⟨s.toArray⟩ : ByteArray).get! j = b := by
      have hlt : j < s.length := (List.getElem?_eq_some_iff.1 hj).1
      have := get_at ⟨s.toArray⟩ j (by rw [hs]; exact hlt)
      rw [Nat.add_zero] at this
      rw [this]
      rw [List.getElem?_eq_getElem hlt] at hj
      exact Option.some.inj hj
    rw [h4] at h3
    exact h3
theorem NoAny_more {s chars : List UInt8} {i j : Nat} (h : Lib.NoAny s chars i) (h2 : ∀ k b, i ≤ k → k < j → s[k]? = some b → chars.contains b = false) : Lib.NoAny s chars j := fun k b hk hb => by
  by_cases hki : k < i
  · exact h k b hki hb
  · exact h2 k b (by omega) hk hb
def findLoop0 (r : Nat) : Code → Option Code
  | .loop a => bif Nat.beq ((firstReg a).getD 0) r then some a else findLoop0 r a
  | .seq a b => (findLoop0 r a).orElse fun _ => findLoop0 r b
  | .cond _ a b => (findLoop0 r a).orElse fun _ => findLoop0 r b
  | .block _ a => findLoop0 r a
  | .scope a => findLoop0 r a
  | _ => none
def loopAt0 (fn : Func) (r : Nat) : Code := ((fn.body.bind (findLoop0 r))).getD .skip
abbrev anyH (s : List UInt8) (i : Nat) : St := { sl := upd (upd bot 45 (.c (.iter s i))) 1 (.c (.pv (.str endsL))), bx := nobox, nt := 55 }
theorem high_not {b : UInt8} (h : 128 ≤ b.toNat) : endsL.contains b = false := by
  cases hc : endsL.contains b
  · rfl
  · have : b ∈ endsL := by simpa using hc
    have : b = 10 ∨ b = 12 ∨ b = 13 := by simpa [endsL] using this
    rcases this with rfl | rfl | rfl <;> exact absurd h (by decide)
theorem any0_loop (s : List UInt8) (h8 : s.length ≤ 8) : ∀ (k i : Nat) (S : St), s.length - i ≤ k → i ≤ s.length → head ([1, 45], []) S = anyH s i → Lib.NoAny s endsL i →
    Ends (exL K0 291 (.loop (loopAt0 Tryz.f291 18)) S) fun o S => (o = .ret ∧ S.sl 4 = .c (.pv (.int .i64 (Lib.indexAny s endsL))) ∨ Lib.indexAny s endsL = -1 ∧ o = .exit 2) ∧ S.nt = 55 := by
  intro k
  induction k with
  | zero =>
    intro i S hk hi hS hno
    obtain rfl : i = s.length := by omega
    have e := Lib.indexAny_none hno
    conv in loopAt0 _ _ => whnf
    rw [exL_loop]
    simp only [firstReg, Option.orElse_some, Option.getD_some, K0_keep, K0_keep18, hS]
    simp only [exL_seq, exL_cond, exL_skip, exL_exit, runRegion, runOps, stepOp, guardA, absOp, opd, St.degAt, St.put, okAV, setBoxes, if_true, Bool.false_eq_true, if_false, Option.map_some, Option.bind_some, thenO, upd, absNext, some_bne, Nat.reduceLT, reduceCtorEq, Nat.reduceEqDiff, List.length_nil, List.length_cons, List.getElem?_cons_zero, Nat.reduceBEq, Bool.and_self, absExtract, TV.av, List.all_nil, List.any_nil, Bool.or_true, Bool.not_false, Nat.reduceAdd, Nat.zero_add, true_and, and_self, or_true, false_and, ite_self, memOK, logOps, opKey, Key.clash, Key.sees, Key.writes, Nat.lt_irrefl, bot_at, region0, ends_some, e]
  | succ k ih =>
    intro i S hk hi hS hno
    by_cases hlt : i < s.length
    case neg => exact ih i S (by omega) hi hS hno
    obtain ⟨r, wd, hd, hw1, hw2, hr, hcase⟩ := decode_at s i hlt
    have hit : iterNext s i = i + wd := by unfold iterNext; rw [hd]
    have hr0 : (0 : Int) ≤ (r : Int) ∧ (r : Int) ≤ 2147483647 := by omega
    have hru := rune0_den (r : Int) hr0
    obtain ⟨v, hv⟩ : ∃ v, (if (r : Int) < 128 then Lib.indexByte endsL (r : Int).toNat.toUInt8 else -1) = v := ⟨_, rfl⟩
    rw [hv] at hru
    have ih' := ih (i + wd)
    conv at ih' in loopAt0 _ _ => whnf
    conv in loopAt0 _ _ => whnf
    rw [exL_loop]
    simp only [firstReg, Option.orElse_some, Option.getD_some, K0_keep, K0_keep18, hS]
    cases hdec : decide (0 ≤ v)
    · have hno' : Lib.NoAny s endsL (i + wd) := by
        refine NoAny_more hno fun j b h1 h2 hj => ?_
        rcases hcase with ⟨hr1, rfl, b', hb', hbr⟩ | ⟨hr1, hall⟩
        · obtain rfl : j = i := by omega
          rw [hj] at hb'
          cases hb'
          rw [if_pos (by omega)] at hv
          have hback : ((r : Int)).toNat.toUInt8 = b := by rw [← hbr]; simp
          rw [hback] at hv
          rw [Lib.contains_iff_indexByte, hv, hdec]
        · exact high_not (hall j b h1 h2 hj)
      simp only [exL_seq, exL_cond, exL_block, exL_ret, exL_skip, exL_exit, runRegion, runOps, stepOp, guardA, absOp, takeOver, opd, avOf, cvOf, St.degAt, St.put, okPV, okAV, absBin, intBin, setBoxes, if_true, Bool.false_eq_true, if_false, Option.map_some, Option.map_none, Option.bind_some, thenO, outOf, upd, isOwn, steal, appArgs, mvB, inApps, AV.deg, CV.deg, AV.gv, AV.isIter, absNext, some_bne, some_beqN, Nat.reduceLT, Nat.reduceEqDiff, List.length_nil, List.length_cons, List.filterMap_cons, List.filterMap_nil, List.getElem?_cons_zero, List.getElem?_cons_succ, Nat.reduceBEq, Bool.and_self, absCall, doCall, getBoxes, lend, idx, dedup, AV.ren, CV.ren, AV.ptrs, CV.ptrs, zipBox, AV.flat, CV.flat, absExtract, TV.av, LK, List.map_cons, List.map_nil, List.all_cons, List.all_nil, List.any_nil, List.contains_nil, List.append_nil, List.flatMap_cons, List.flatMap_nil, List.zip_nil_right, List.isEmpty_nil, Bool.or_true, Bool.or_false, Bool.not_false, Nat.reduceAdd, Nat.zero_add, Option.some.injEq, ite_self, memOK, logOps, opKey, lentBoxes, Key.clash, Key.sees, Key.writes, bot_at, region0, K0_own, K0_good2, hlt, hd, hit, hru, hdec]
      refine ih' _ (by omega) hw2 ?_ hno'
      rfl
    · have hgo : Lib.indexAny s endsL = (i : Int) := by
        rcases hcase with ⟨hr1, rfl, b', hb', hbr⟩ | ⟨hr1, hall⟩
        · rw [if_pos (by omega)] at hv
          have hback : ((r : Int)).toNat.toUInt8 = b' := by rw [← hbr]; simp
          rw [hback] at hv
          exact Lib.indexAny_hit hno hb' (by rw [Lib.contains_iff_indexByte, hv, hdec])
        · rw [if_neg (by omega)] at hv
          rw [← hv] at hdec
          cases hdec
      simp only [exL_seq, exL_cond, exL_block, exL_ret, exL_skip, exL_exit, runRegion, runOps, stepOp, guardA, absOp, takeOver, opd, avOf, cvOf, St.degAt, St.put, okPV, okAV, absBin, intBin, setBoxes, if_true, Bool.false_eq_true, if_false, Option.map_some, Option.map_none, Option.bind_some, thenO, outOf, upd, isOwn, steal, appArgs, mvB, inApps, AV.deg, CV.deg, AV.gv, AV.isIter, absNext, some_bne, some_beqN, Nat.reduceLT, reduceCtorEq, Nat.reduceEqDiff, List.length_nil, List.length_cons, List.filterMap_cons, List.filterMap_nil, List.getElem?_cons_zero, List.getElem?_cons_succ, Nat.reduceBEq, Bool.and_self, absCall, doCall, getBoxes, lend, idx, dedup, AV.ren, CV.ren, AV.ptrs, CV.ptrs, zipBox, AV.flat, CV.flat, absExtract, TV.av, LK, List.map_cons, List.map_nil, List.all_cons, List.all_nil, List.any_nil, List.contains_nil, List.append_nil, List.flatMap_cons, List.flatMap_nil, List.zip_nil_right, List.isEmpty_nil, Bool.or_true, Bool.or_false, Bool.not_false, Nat.reduceAdd, Nat.zero_add, and_self, Option.some.injEq, false_and, ite_self, memOK, logOps, opKey, lentBoxes, Key.clash, Key.sees, Key.writes, bot_at, or_false, region0, K0_own, K0_good2, hlt, hd, hit, hru, hdec, ends_some, hgo]
theorem any0_den (s : List UInt8) (h8 : s.length ≤ 8) : den K0 291 [.c (.pv (.str s)), .c (.pv (.str endsL))] [] = some (.ret (.c (.pv (.int .i64 (Lib.indexAny s endsL)))) []) := by
  have hr : Tryz.f291.results = #[.tmp 4] := rfl
  have hu := use0_den (s.length : Int)
  have h8d : decide ((8 : Int) < (s.length : Int)) = false := decide_eq_false (by omega)
  rw [h8d] at hu
  have hloop := any0_loop s h8 s.length 0
  conv at hloop in loopAt0 _ _ => whnf
  refine den_run0 rfl Tryz.func291 rfl Tryz.ntmps291 ⟨by simp, by simp [LK]⟩ ?_
  have e0 : (endsL == []) = false := by decide
  have e1 : (((3 : Nat) : Int) == 1) = false := by decide
  simp only [exL_seq, exL_cond, exL_block, exL_ret, exL_skip, runRegion, runOps, stepOp, guardA, absOp, takeOver, opd, avOf, cvOf, St.degAt, St.put, okPV, okAV, absBin, intBin, strBin, setBoxes, if_true, Bool.false_eq_true, if_false, Option.map_some, Option.map_none, Option.bind_some, thenO, upd, List.toList_toArray, isOwn, steal, appArgs, mvB, inApps, AV.deg, CV.deg, AV.gv, AV.isIter, some_beqN, Nat.reduceLT, reduceCtorEq, Nat.reduceEqDiff, List.length_nil, List.length_cons, List.filterMap_cons, List.filterMap_nil, List.getElem?_cons_zero, List.getElem?_cons_succ, Option.getD_some, Nat.reduceBEq, Bool.and_false, Bool.and_self, absCall, doCall, getBoxes, lend, back, idx, dedup, AV.ren, CV.ren, AV.ptrs, CV.ptrs, zipBox, AV.flat, CV.flat, absStore, cellsOfAV, setAt, newBox, markB, bldTypes, absExtract, enterSt, leave, resOf, resVars, resVar, outBoxes, lentOnly, TV.deg, TV.av, LK, List.map_cons, List.map_nil, List.all_cons, List.all_nil, List.any_nil, List.contains_cons, List.contains_nil, List.append_nil, List.flatMap_cons, List.flatMap_nil, List.zip_nil_left, List.zip_nil_right, List.isEmpty_nil, Bool.or_true, Bool.or_false, Bool.not_false, Nat.reduceAdd, Nat.zero_add, true_and, List.toList_toArray, Option.some.injEq, ite_self, memOK, logOps, opKey, lentBoxes, Key.clash, Key.sees, Key.writes, beq_self_eq_true, region0, K0_own, K0_P, K0_good1, hr, hu, ev_len_str K0_str, ev_range K0_str, e0, e1]
  obtain ⟨o, S', e, hq, hn⟩ := hloop (anyH s 0) (by omega) (Nat.zero_le _) rfl (Lib.NoAny.zero _ _)
  rw [exL_loop] at e ⊢
  simp only [firstReg, Option.orElse_some, Option.getD_some, K0_keep, K0_keep18] at e ⊢
  rw [show head ([1, 45], []) (anyH s 0) = anyH s 0 from rfl] at e
  simp only [head, keepSlots, keepBoxes, upd, AV.live, CV.live, reduceIte, Nat.reduceEqDiff]
  erw [e]
  rcases hq with ⟨rfl, hv⟩ | ⟨hv, rfl⟩
  · simp only [Option.map_some, Option.bind_some, thenO, outOf, hv]
  · simp only [exL_seq, exL_ret, runRegion, runOps, stepOp, guardA, absOp, takeOver, opd, avOf, cvOf, St.degAt, St.put, setBoxes, if_true, Bool.false_eq_true, if_false, Option.map_some, Option.bind_some, thenO, outOf, upd, isOwn, steal, AV.deg, CV.deg, AV.isIter, Nat.reduceLT, List.length_nil, List.length_cons, List.all_nil, List.any_nil, Bool.or_true, Bool.not_false, Nat.zero_add, ite_self, memOK, logOps, opKey, Key.clash, Key.sees, Key.writes, region0, hv, hn]
end Go.Abs
namespace Go.Abs
open Go Go.Proofs Go.RowKit
def pIndexAny : Prim
  | [.c (.pv (.str s)), .c (.pv (.str p))], [] => if p = [10, 12, 13] ∧ s.length < 4294967281 then some (.c (.pv (.int .i64 (Lib.indexAny s p))), []) else none
  | _, _ => none
def goodB0 (P : Program) (f : Nat) : Bool :=
  match P.funcs[f]? with
  | some fn => fn.name != "runtime.NumGoroutine" && (match fn.body with | some c => codeOK (fun _ => false) c | none => false)
  | none => false
theorem goods0_ok : [291, 295, 264, 283, 244].all (goodB0 Tryz.prog) = true := by kernel_rfl
theorem K0_prog : Prog K0 := by
  refine ⟨by kernel_rfl, fun g hg => ?_, fun f F args bxs x _ hF hx => ?_, fun f F args bxs r call _ hF => by cases hF⟩
  · have h1 : g ∈ [291, 295, 264, 283, 244] := by simpa [K0] using hg
    have h2 := List.all_eq_true.1 goods0_ok g h1
    unfold goodB0 at h2
    split at h2
    · rename_i fn hfn
      simp only [Bool.and_eq_true] at h2
      obtain ⟨h3, h4⟩ := h2
      split at h4
      · rename_i c hc
        exact ⟨fn, c, hfn, by simpa using h3, hc, h4⟩
      · cases h4
    · cases h2
  · have h2 : pr0 f = some F := hF
    unfold pr0 at h2
    split at h2
    · rename_i hf
      cases h2
      have : f = 244 := by simpa using hf
      subst this
      exact pIndexByte_ok hx
    · cases h2
theorem h116 : (Tryz.prog.info? 200).map (fun i => (i.zero, i.size)) = some (some (.agg (Array.replicate 256 (.bool false))), 256) := by kernel_rfl
theorem pIndexAny_ok {args : List AV} {bxs : List (List CV)} {x : AV × List (List CV)} (h : pIndexAny args bxs = some x) : Contract Tryz.prog 291 args bxs (.ret x.1 x.2) := by
  unfold pIndexAny at h
  split at h
  case h_2 => cases h
  rename_i s p
  split at h
  case isFalse => cases h
  rename_i hs
  cases h
  obtain ⟨rfl, hs⟩ := hs
  by_cases h8 : s.length ≤ 8
  · exact den_ok K0_prog (by rfl) (any0_den s h8)
  · refine contract_data fun G w cargs hw hargs => ?_
    obtain ⟨x, y, rfl, hx, hy⟩ := args_two hargs
    cases hx.strv
    cases hy.strv
    have hsz : (⟨s.toArray⟩ : ByteArray).size = s.length := by simp [ByteArray.size]
    refine (Tryz.strings_IndexAny_long (zero_of_info h116).1 ⟨s.toArray⟩ ⟨([10, 12, 13] : List UInt8).toArray⟩ w (by decide) (by rw [hsz]; omega) (by rw [hsz]; exact hs) (by decide) ?_).mono ?_
    · intro j b hb
      have : b ∈ ([10, 12, 13] : List UInt8) := List.mem_of_getElem? hb
      have : b = 10 ∨ b = 12 ∨ b = 13 := by simpa using this
      rcases this with rfl | rfl | rfl <;> decide
    · rintro e w' ⟨rfl, rfl⟩
      exact ⟨_, rfl, .int _ _, ((Below.refl _ _).alloc (Nat.le_refl _) _).alloc (by simp) _⟩
end Go.Abs
namespace Go.Abs
open Go Go.Proofs
def keepL : List (Nat × Nat × List Nat × List Nat) := [
  (39, 3, [0, 1, 5, 6], []),
  (39, 7, [0, 1, 5, 6, 7], []),
  (78, 3, [1, 3, 7, 8, 9], [1, 3]),
  (50, 3, [3, 6, 7, 8], []),
  (46, 4, [0, 1, 5], []),
  (46, 9, [0, 1, 5, 6], []),
  (156, 2, [3], [6]),
  (72, 3, [0, 3, 4], []),
  (74, 3, [0, 3, 4], []),
  (117, 2, [0, 3], []),
  (86, 2, [0, 1, 2, 7], []),
  (79, 1, [0, 8, 9, 10], [100000]),
  (128, 1, [0, 6, 7, 8], [100000]),
  (99, 12, [0, 1, 5, 39, 40, 41], []),
  (99, 22, [1, 8, 63, 64, 65], [8]),
  (42, 4, [4, 5, 6], []),
  (94, 4, [0, 1, 5], []),
  (122, 5, [0, 4, 6], [4]),
  (174, 5, [5, 15, 16, 17], []),
  (73, 2, [0, 3, 4], []),
  (73, 4, [0, 3, 4], []),
  (32, 4, [0, 1, 5, 6, 7], []),
  (90, 4, [2, 4, 5, 6], [2, 5, 10]),
  (90, 6, [2, 4, 5, 7], [2, 5, 7, 10]),
  (247, 2, [0, 1, 2, 7], [100000]),
  (251, 6, [0, 2, 3, 4, 29], [100000]),
  (185, 2, [0, 5], []),
  (187, 2, [0, 1, 5], []),
  (188, 1, [0, 1], []),
  (190, 4, [0, 1, 4, 6, 7], [4]),
  (121, 2, [0, 2, 3, 8, 9], [8, 9]),
  (76, 3, [3, 4], []),
  (210, 3, [0, 2, 4, 5], [2, 9]),
  (211, 2, [0, 3], [100000]),
  (277, 15, [0, 1, 5, 6, 7, 8, 9, 10], []),
  (291, 12, [0, 6, 8], [6]),
  (291, 18, [1, 45], []),
  (261, 1, [0, 1, 4], []),
  (262, 11, [0, 1, 3, 4, 10, 11, 12, 13, 14, 15, 16], [12]),
  (262, 18, [0, 1, 3, 4, 10, 11, 12, 13, 17], [12]),
  (292, 5, [0, 1, 5, 6, 7, 8, 9], []),
  (292, 11, [0, 1, 5, 6, 7, 8, 10], []),
  (264, 5, [0, 7, 8, 9], []),
  (264, 12, [0, 7, 8, 9, 12], []),
  (264, 25, [0, 7, 8, 9, 14, 15], []),
  (264, 29, [0, 7, 8, 9, 14, 15, 16], []),
  (264, 38, [175], []),
  (197, 2, [0, 2, 4], [2]),
  (296, 3, [0, 4, 5], []),
  (296, 8, [4, 6, 7, 8], []),
  (158, 5, [0, 3, 4], []),
  (21, 4, [0, 1, 5], []),
  (180, 3, [3, 8, 9, 10], []),
  (75, 3, [0, 3, 4], []),
  (172, 3, [3, 6, 7, 8], []),
  (65, 3, [0, 3, 4], []),
  (51, 4, [0, 1, 2, 7], []),
  (213, 2, [0, 1, 2, 7], [100000, 100001]),
  (119, 4, [1, 2, 15, 16, 17], [100000]),
  (222, 2, [0, 1, 7, 8], [100000]),
  (104, 1, [0], []),
  (104, 3, [0], []),
  (58, 3, [1, 5, 8, 9, 10], []),
  (31, 3, [0, 1, 5, 6], []),
  (168, 2, [0, 1, 7, 8], [100000]),
  (6, 5, [0, 3, 4], []),
  (6, 11, [0, 3, 4, 5, 6], []),
  (10, 18, [9, 11, 13, 14, 15, 16], []),
  (13, 11, [1, 5, 7, 8, 9, 10], [9]),
  (16, 2, [0, 1, 5], []),
  (18, 4, [0, 1, 5], []),
  (19, 3, [3, 9, 10, 11], []),
  (20, 4, [3, 4, 5], []),
  (22, 3, [3, 7, 8, 9], []),
  (23, 3, [0, 3, 4], []),
  (25, 2, [0, 3], []),
  (41, 3, [4, 9, 10, 11], [4]),
  (48, 2, [0, 3], []),
  (48, 7, [0, 3, 4, 5, 6], [4]),
  (54, 5, [2, 4, 5], [2]),
  (55, 3, [3, 6, 7, 8], []),
  (64, 2, [0, 1, 5], []),
  (68, 4, [1, 2, 15, 16, 17], [100000]),
  (89, 3, [0, 2, 3, 4], [2, 3, 100000]),
  (97, 3, [1, 3, 11, 12, 13], [1]),
  (98, 2, [0, 3], []),
  (112, 2, [0, 1, 7, 8], [100000]),
  (142, 4, [1, 2, 15, 16, 17], [100000]),
  (144, 4, [1, 2, 15, 16, 17], [100000]),
  (146, 4, [1, 2, 15, 16, 17], [100000]),
  (148, 2, [0, 4], [100000]),
  (161, 2, [0, 1, 7, 8], [100000]),
  (162, 2, [0, 1, 7, 8, 9], []),
  (171, 3, [3, 8, 9, 10], []),
  (173, 1, [0, 1], []),
  (207, 2, [0, 3], [100000]),
  (216, 2, [0, 1, 7, 8], []),
  (218, 2, [0, 1, 7, 8], [100000]),
  (236, 3, [3, 8, 9, 10], []),
  (1000000, 0, [], [])]
def keepF (f r : Nat) : List Nat × List Nat := match keepL.find? (fun x => x.1 == f && x.2.1 == r) with | some x => x.2.2 | none => ([], [])
def prL : List (Nat × Prim) := [
  (67, pHasPrefix),
  (244, pIndexByte),
  (258, pIndex),
  (291, pIndexAny),
  (130, pItoa),
  (76, pLow),
  (171, pSmall),
  (219, pPairs),
  (155, pParse),
  (169, pClone),
  (52, pAt),
  (1000000, fun _ _ => none)]
def prF (f : Nat) : Option Prim := (prL.find? (fun x => x.1 == f)).map (·.2)
def hookB (f i : Nat) : Bool := f == 210 && i == 6
def ownB (f : Nat) : Bool :=
  f == 219 ||
  f == 55 ||
  f == 1000000
def goodB (P : Program) (f : Nat) : Bool :=
  match P.funcs[f]? with
  | some fn => fn.name != "runtime.NumGoroutine" && (match fn.body with | some c => codeOK (hookB f) c | none => false)
  | none => false
def goods : List Nat := [3, 4, 5, 6, 7, 8, 9, 10, 11, 12, 13, 14, 15, 16, 17, 18, 19, 20, 21, 22, 23, 24, 25, 26, 27, 28, 29, 30, 31, 32, 33, 34, 35, 36, 37, 38, 39, 40, 41, 42, 43, 44, 45, 46, 47, 48, 49, 50, 51, 52, 53, 54, 55, 56, 57, 58, 59, 60, 61, 62, 63, 64, 65, 66, 67, 68, 69, 70, 71, 72, 73, 74, 75, 76, 77, 78, 79, 80, 81, 82, 83, 84, 85, 86, 87, 88, 89, 90, 91, 92, 93, 94, 95, 96, 97, 98, 99, 100, 101, 102, 103, 104, 105, 106, 107, 108, 109, 110, 111, 112, 113, 114, 115, 116, 117, 118, 119, 120, 121, 122, 123, 124, 125, 126, 127, 128, 129, 130, 131, 132, 133, 134, 135, 136, 137, 138, 139, 140, 141, 142, 143, 144, 145, 146, 147, 148, 149, 150, 151, 152, 153, 154, 155, 156, 157, 158, 159, 160, 161, 162, 163, 164, 165, 166, 167, 168, 169, 170, 171, 172, 173, 174, 175, 176, 177, 178, 179, 180, 181, 182, 183, 184, 185, 186, 187, 188, 189, 190, 191, 192, 193, 194, 195, 196, 197, 198, 199, 200, 201, 202, 203, 204, 205, 206, 207, 208, 209, 210, 211, 212, 213, 214, 215, 216, 217, 218, 219, 220, 221, 222, 223, 224, 226, 227, 228, 229, 230, 231, 232, 233, 234, 235, 236, 237, 238, 239, 240, 241, 242, 243, 244, 245, 246, 247, 248, 249, 250, 251, 252, 253, 254, 255, 256, 258, 259, 260, 261, 262, 263, 264, 265, 266, 267, 268, 269, 270, 271, 272, 273, 274, 275, 276, 277, 278, 279, 280, 281, 282, 283, 284, 286, 287, 288, 289, 291, 292, 293, 294, 295, 296]
theorem goods_ok : goods.all (goodB Tryz.prog) = true := by kernel_rfl
theorem good_has {g : Nat} (hg : goods.contains g = true) : ∃ fn, Tryz.prog.funcs[g]? = some fn ∧ fn.name ≠ "runtime.NumGoroutine" ∧ fn.body.isSome = true := by
  have h1 : g ∈ goods := by simpa using hg
  have h2 := List.all_eq_true.1 goods_ok g h1
  unfold goodB at h2
  split at h2
  · rename_i fn hfn
    simp only [Bool.and_eq_true] at h2
    obtain ⟨h3, h4⟩ := h2
    split at h4
    · rename_i c hc
      exact ⟨fn, hfn, by simpa using h3, by rw [hc]; rfl⟩
    · cases h4
  · cases h2
def hpL : List (Nat × (List AV → List (List CV) → Plan)) := [
  (1000000, fun _ _ => .fail)]
def hpF (f : Nat) : Option (List AV → List (List CV) → Plan) := (hpL.find? (fun x => x.1 == f)).map (·.2)
noncomputable def K : Cfg := { P := Tryz.prog, pr := prF, keep := keepF, ownRet := ownB, good := goods.contains, hook := hookB, hp := hpF }
theorem K_prog : Prog K := by
  refine ⟨by kernel_rfl, fun g hg => ?_, fun f F args bxs x _ hF hx => ?_, fun f F args bxs r call _ hF hc hr => ?_⟩
  · have h1 : g ∈ goods := by simpa [K] using hg
    have h2 := List.all_eq_true.1 goods_ok g h1
    unfold goodB at h2
    split at h2
    · rename_i fn hfn
      simp only [Bool.and_eq_true] at h2
      obtain ⟨h3, h4⟩ := h2
      split at h4
      · rename_i c hc
        exact ⟨fn, c, hfn, by simpa using h3, hc, h4⟩
      · cases h4
    · cases h2
  · have h1 : ∀ y ∈ prL, ∀ args bxs x, y.2 args bxs = some x → Contract Tryz.prog y.1 args bxs (.ret x.1 x.2) := by
      intro y hy
      simp only [prL, List.mem_cons, List.not_mem_nil, or_false] at hy
      repeat' (first | (rcases hy with rfl | hy) | (cases hy))
      all_goals first
        | exact fun _ _ _ h => pHasPrefix_ok h
        | exact fun _ _ _ h => pIndexByte_ok h
        | exact fun _ _ _ h => pIndex_ok h
        | exact fun _ _ _ h => pIndexAny_ok h
        | exact fun _ _ _ h => pItoa_ok h
        | exact fun _ _ _ h => pLow_ok h
        | exact fun _ _ _ h => pSmall_ok h
        | exact fun _ _ _ h => pPairs_ok h
        | exact fun _ _ _ h => pParse_ok h
        | exact fun _ _ _ h => pClone_ok h
        | exact fun _ _ _ h => pAt_ok h
        | exact fun _ _ _ h => by cases h
    have h2 : prF f = some F := hF
    unfold prF at h2
    rw [Option.map_eq_some_iff] at h2
    obtain ⟨y, hy, rfl⟩ := h2
    have h3 := List.mem_of_find?_eq_some hy
    have h4 : y.1 = f := by simpa using List.find?_some hy
    rw [← h4]
    exact h1 y h3 args bxs x hx
  · have h1 : ∀ y ∈ hpL, ∀ args bxs r, (y.2 args bxs).run call = some r → Contract Tryz.prog y.1 args bxs r := by
      intro y hy
      simp only [hpL, List.mem_cons, List.not_mem_nil, or_false] at hy
      repeat' (first | (rcases hy with rfl | hy) | (cases hy))
      all_goals first
        | exact fun _ _ _ h => by cases h
    have h2 : hpF f = some F := hF
    unfold hpF at h2
    rw [Option.map_eq_some_iff] at h2
    obtain ⟨y, hy, rfl⟩ := h2
    have h3 := List.mem_of_find?_eq_some hy
    have h4 : y.1 = f := by simpa using List.find?_some hy
    rw [← h4]
    exact h1 y h3 args bxs r hr
end Go.Abs
namespace Go.Abs
open Go Go.Proofs
theorem ty_shapeT_3 : shapeT Tryz.prog 3 = Option.some Option.none := by kernel_rfl
theorem ty_szOf_3 : szOf Tryz.prog 3 = Option.some 1 := by kernel_rfl
theorem ty_descOf_3 : descOf Tryz.prog 3 = Option.some (Go.Abs.Desc.int Go.IntKind.i64) := by kernel_rfl
theorem ty_shapeT_4 : shapeT Tryz.prog 4 = Option.some Option.none := by kernel_rfl
theorem ty_szOf_4 : szOf Tryz.prog 4 = Option.some 1 := by kernel_rfl
theorem ty_isBoolT_4 : isBoolT Tryz.prog 4 = Bool.true := by kernel_rfl
theorem ty_szOf_5 : szOf Tryz.prog 5 = Option.some 1 := by kernel_rfl
theorem ty_zeroCells_5 : zeroCells Tryz.prog 5 = Option.some [Go.Abs.CV.pv (Go.Abs.PV.int Go.IntKind.u8 0)] := by kernel_rfl
theorem ty_descOf_5 : descOf Tryz.prog 5 = Option.some (Go.Abs.Desc.int Go.IntKind.u8) := by kernel_rfl
theorem ty_shapeT_9 : shapeT Tryz.prog 9 = Option.some Option.none := by kernel_rfl
theorem ty_szOf_9 : szOf Tryz.prog 9 = Option.some 1 := by kernel_rfl
theorem ty_zeroCells_9 : zeroCells Tryz.prog 9 = Option.some [Go.Abs.CV.pv (Go.Abs.PV.str [])] := by kernel_rfl
theorem ty_descOf_9 : descOf Tryz.prog 9 = Option.some Go.Abs.Desc.str := by kernel_rfl
theorem ty_descOf_21 : descOf Tryz.prog 21 = Option.some (Go.Abs.Desc.int Go.IntKind.i32) := by kernel_rfl
theorem ty_shapeT_22 : shapeT Tryz.prog 22 = Option.some Option.none := by kernel_rfl
theorem ty_szOf_22 : szOf Tryz.prog 22 = Option.some 1 := by kernel_rfl
theorem ty_zeroCells_22 : zeroCells Tryz.prog 22 = Option.some [Go.Abs.CV.nils] := by kernel_rfl
theorem ty_appInfo_22 : appInfo Tryz.prog 22 = Option.some (49, 5) := by kernel_rfl
theorem ty_descOf_22 : descOf Tryz.prog 22 = Option.some (Go.Abs.Desc.sl 49 Bool.false) := by kernel_rfl
theorem ty_appInfo_23 : appInfo Tryz.prog 23 = Option.some (44, 3) := by kernel_rfl
theorem ty_descOf_23 : descOf Tryz.prog 23 = Option.some (Go.Abs.Desc.sl 44 Bool.false) := by kernel_rfl
theorem ty_appInfo_41 : appInfo Tryz.prog 41 = Option.some (22, 1) := by kernel_rfl
theorem ty_descOf_41 : descOf Tryz.prog 41 = Option.some (Go.Abs.Desc.sl 22 Bool.false) := by kernel_rfl
theorem ty_shapeT_44 : shapeT Tryz.prog 44 = Option.some (Option.some 3) := by kernel_rfl
theorem ty_szOf_44 : szOf Tryz.prog 44 = Option.some 3 := by kernel_rfl
theorem ty_zeroCells_44 : zeroCells Tryz.prog 44 = Option.some [Go.Abs.CV.pv (Go.Abs.PV.str []), Go.Abs.CV.nils, Go.Abs.CV.pv (Go.Abs.PV.bool Bool.false)] := by kernel_rfl
theorem ty_placesOf_44 : placesOf Tryz.prog 44 = Option.some [(0, 1), (1, 1), (2, 1)] := by kernel_rfl
theorem ty_fieldOff_44_0 : fieldOff Tryz.prog 44 0 = Option.some (0, 9) := by kernel_rfl
theorem ty_fieldOff_44_1 : fieldOff Tryz.prog 44 1 = Option.some (1, 22) := by kernel_rfl
theorem ty_fieldOff_44_2 : fieldOff Tryz.prog 44 2 = Option.some (2, 4) := by kernel_rfl
theorem ty_shapeT_47 : shapeT Tryz.prog 47 = Option.some (Option.some 3) := by kernel_rfl
theorem ty_szOf_47 : szOf Tryz.prog 47 = Option.some 3 := by kernel_rfl
theorem ty_zeroCells_47 : zeroCells Tryz.prog 47 = Option.some [Go.Abs.CV.pv (Go.Abs.PV.int Go.IntKind.i64 0), Go.Abs.CV.pv (Go.Abs.PV.str []), Go.Abs.CV.pv (Go.Abs.PV.int Go.IntKind.i64 0)] := by kernel_rfl
theorem ty_placesOf_47 : placesOf Tryz.prog 47 = Option.some [(0, 1), (1, 1), (2, 1)] := by kernel_rfl
theorem ty_fieldOff_47_0 : fieldOff Tryz.prog 47 0 = Option.some (0, 3) := by kernel_rfl
theorem ty_fieldOff_47_1 : fieldOff Tryz.prog 47 1 = Option.some (1, 9) := by kernel_rfl
theorem ty_fieldOff_47_2 : fieldOff Tryz.prog 47 2 = Option.some (2, 3) := by kernel_rfl
theorem ty_shapeT_49 : shapeT Tryz.prog 49 = Option.some (Option.some 5) := by kernel_rfl
theorem ty_szOf_49 : szOf Tryz.prog 49 = Option.some 5 := by kernel_rfl
theorem ty_zeroCells_49 : zeroCells Tryz.prog 49 = Option.some [Go.Abs.CV.pv (Go.Abs.PV.int Go.IntKind.i64 0), Go.Abs.CV.pv (Go.Abs.PV.int Go.IntKind.i64 0), Go.Abs.CV.pv (Go.Abs.PV.str []), Go.Abs.CV.pv (Go.Abs.PV.int Go.IntKind.i64 0), Go.Abs.CV.nils] := by kernel_rfl
theorem ty_placesOf_49 : placesOf Tryz.prog 49 = Option.some [(0, 1), (1, 3), (4, 1)] := by kernel_rfl
theorem ty_fieldOff_49_0 : fieldOff Tryz.prog 49 0 = Option.some (0, 3) := by kernel_rfl
theorem ty_fieldOff_49_1 : fieldOff Tryz.prog 49 1 = Option.some (1, 47) := by kernel_rfl
theorem ty_fieldOff_49_2 : fieldOff Tryz.prog 49 2 = Option.some (4, 22) := by kernel_rfl
theorem ty_shapeT_90 : shapeT Tryz.prog 90 = Option.some Option.none := by kernel_rfl
theorem ty_szOf_90 : szOf Tryz.prog 90 = Option.some 1 := by kernel_rfl
theorem ty_appInfo_90 : appInfo Tryz.prog 90 = Option.some (47, 3) := by kernel_rfl
theorem ty_descOf_90 : descOf Tryz.prog 90 = Option.some (Go.Abs.Desc.sl 47 Bool.false) := by kernel_rfl
theorem ty_descOf_98 : descOf Tryz.prog 98 = Option.some (Go.Abs.Desc.sl 5 Bool.true) := by kernel_rfl
theorem ty_shapeT_123 : shapeT Tryz.prog 123 = Option.some Option.none := by kernel_rfl
theorem ty_descOf_123 : descOf Tryz.prog 123 = Option.some (Go.Abs.Desc.sl 9 Bool.false) := by kernel_rfl
theorem ty_shapeT_139 : shapeT Tryz.prog 139 = Option.some (Option.some 3) := by kernel_rfl
theorem ty_szOf_139 : szOf Tryz.prog 139 = Option.some 3 := by kernel_rfl
theorem ty_zeroCells_139 : zeroCells Tryz.prog 139 = Option.some [Go.Abs.CV.nils, Go.Abs.CV.pv (Go.Abs.PV.int Go.IntKind.i64 0), Go.Abs.CV.pv (Go.Abs.PV.bool Bool.false)] := by kernel_rfl
theorem ty_placesOf_139 : placesOf Tryz.prog 139 = Option.some [(0, 1), (1, 1), (2, 1)] := by kernel_rfl
theorem ty_fieldOff_139_0 : fieldOff Tryz.prog 139 0 = Option.some (0, 22) := by kernel_rfl
theorem ty_fieldOff_139_1 : fieldOff Tryz.prog 139 1 = Option.some (1, 3) := by kernel_rfl
theorem ty_fieldOff_139_2 : fieldOff Tryz.prog 139 2 = Option.some (2, 4) := by kernel_rfl
theorem ty_zeroCells_210 : zeroCells Tryz.prog 210 = Option.some [] := by kernel_rfl
theorem ty_placesOf_210 : placesOf Tryz.prog 210 = Option.some [] := by kernel_rfl
theorem ty_concreteT_210 : concreteT Tryz.prog 210 = Bool.true := by kernel_rfl
theorem ty_fieldOff_214_0 : fieldOff Tryz.prog 214 0 = Option.some (0, 90) := by kernel_rfl
theorem ty_fieldOff_214_1 : fieldOff Tryz.prog 214 1 = Option.some (1, 3) := by kernel_rfl
theorem ty_shapeT_217 : shapeT Tryz.prog 217 = Option.some Option.none := by kernel_rfl
theorem ty_szOf_217 : szOf Tryz.prog 217 = Option.some 1 := by kernel_rfl
theorem ty_descOf_217 : descOf Tryz.prog 217 = Option.some Go.Abs.Desc.str := by kernel_rfl
theorem ty_zeroCells_219 : zeroCells Tryz.prog 219 = Option.some [Go.Abs.CV.pv (Go.Abs.PV.str []), Go.Abs.CV.nils] := by kernel_rfl
theorem ty_placesOf_219 : placesOf Tryz.prog 219 = Option.some [(0, 1), (1, 1)] := by kernel_rfl
theorem ty_fieldOff_219_0 : fieldOff Tryz.prog 219 0 = Option.some (0, 217) := by kernel_rfl
theorem ty_fieldOff_219_1 : fieldOff Tryz.prog 219 1 = Option.some (1, 90) := by kernel_rfl
theorem ty_szOf_223 : szOf Tryz.prog 223 = Option.some 2 := by kernel_rfl
theorem ty_zeroCells_223 : zeroCells Tryz.prog 223 = Option.some [Go.Abs.CV.pv (Go.Abs.PV.str []), Go.Abs.CV.pv (Go.Abs.PV.str [])] := by kernel_rfl
theorem ty_fieldOff_223_1 : fieldOff Tryz.prog 223 1 = Option.some (1, 9) := by kernel_rfl
theorem ty_isPtrT_243 : isPtrT Tryz.prog 243 = Bool.true := by kernel_rfl
end Go.Abs
namespace Go.Abs
open Go Go.Proofs
theorem good_15 : K.good 15 = true := by kernel_rfl
theorem good_16 : K.good 16 = true := by kernel_rfl
theorem good_17 : K.good 17 = true := by kernel_rfl
theorem good_18 : K.good 18 = true := by kernel_rfl
theorem good_19 : K.good 19 = true := by kernel_rfl
theorem good_21 : K.good 21 = true := by kernel_rfl
theorem good_22 : K.good 22 = true := by kernel_rfl
theorem good_25 : K.good 25 = true := by kernel_rfl
theorem good_26 : K.good 26 = true := by kernel_rfl
theorem good_27 : K.good 27 = true := by kernel_rfl
theorem good_28 : K.good 28 = true := by kernel_rfl
theorem good_33 : K.good 33 = true := by kernel_rfl
theorem good_34 : K.good 34 = true := by kernel_rfl
theorem good_35 : K.good 35 = true := by kernel_rfl
theorem good_49 : K.good 49 = true := by kernel_rfl
theorem good_51 : K.good 51 = true := by kernel_rfl
theorem good_52 : K.good 52 = true := by kernel_rfl
theorem good_53 : K.good 53 = true := by kernel_rfl
theorem good_55 : K.good 55 = true := by kernel_rfl
theorem good_56 : K.good 56 = true := by kernel_rfl
theorem good_57 : K.good 57 = true := by kernel_rfl
theorem good_58 : K.good 58 = true := by kernel_rfl
theorem good_59 : K.good 59 = true := by kernel_rfl
theorem good_63 : K.good 63 = true := by kernel_rfl
theorem good_64 : K.good 64 = true := by kernel_rfl
theorem good_65 : K.good 65 = true := by kernel_rfl
theorem good_66 : K.good 66 = true := by kernel_rfl
theorem good_67 : K.good 67 = true := by kernel_rfl
theorem good_68 : K.good 68 = true := by kernel_rfl
theorem good_69 : K.good 69 = true := by kernel_rfl
theorem good_70 : K.good 70 = true := by kernel_rfl
theorem good_71 : K.good 71 = true := by kernel_rfl
theorem good_72 : K.good 72 = true := by kernel_rfl
theorem good_75 : K.good 75 = true := by kernel_rfl
theorem good_76 : K.good 76 = true := by kernel_rfl
theorem good_103 : K.good 103 = true := by kernel_rfl
theorem good_104 : K.good 104 = true := by kernel_rfl
theorem good_105 : K.good 105 = true := by kernel_rfl
theorem good_106 : K.good 106 = true := by kernel_rfl
theorem good_107 : K.good 107 = true := by kernel_rfl
theorem good_108 : K.good 108 = true := by kernel_rfl
theorem good_109 : K.good 109 = true := by kernel_rfl
theorem good_113 : K.good 113 = true := by kernel_rfl
theorem good_114 : K.good 114 = true := by kernel_rfl
theorem good_116 : K.good 116 = true := by kernel_rfl
theorem good_117 : K.good 117 = true := by kernel_rfl
theorem good_119 : K.good 119 = true := by kernel_rfl
theorem good_120 : K.good 120 = true := by kernel_rfl
theorem good_121 : K.good 121 = true := by kernel_rfl
theorem good_122 : K.good 122 = true := by kernel_rfl
theorem good_124 : K.good 124 = true := by kernel_rfl
theorem good_125 : K.good 125 = true := by kernel_rfl
theorem good_130 : K.good 130 = true := by kernel_rfl
theorem good_156 : K.good 156 = true := by kernel_rfl
theorem good_168 : K.good 168 = true := by kernel_rfl
theorem good_169 : K.good 169 = true := by kernel_rfl
theorem good_170 : K.good 170 = true := by kernel_rfl
theorem good_171 : K.good 171 = true := by kernel_rfl
theorem good_172 : K.good 172 = true := by kernel_rfl
theorem good_174 : K.good 174 = true := by kernel_rfl
theorem good_175 : K.good 175 = true := by kernel_rfl
theorem good_176 : K.good 176 = true := by kernel_rfl
theorem good_177 : K.good 177 = true := by kernel_rfl
theorem good_178 : K.good 178 = true := by kernel_rfl
theorem good_179 : K.good 179 = true := by kernel_rfl
theorem good_182 : K.good 182 = true := by kernel_rfl
theorem good_183 : K.good 183 = true := by kernel_rfl
theorem good_184 : K.good 184 = true := by kernel_rfl
theorem good_185 : K.good 185 = true := by kernel_rfl
theorem good_186 : K.good 186 = true := by kernel_rfl
theorem good_187 : K.good 187 = true := by kernel_rfl
theorem good_188 : K.good 188 = true := by kernel_rfl
theorem good_189 : K.good 189 = true := by kernel_rfl
theorem good_190 : K.good 190 = true := by kernel_rfl
theorem good_214 : K.good 214 = true := by kernel_rfl
theorem good_218 : K.good 218 = true := by kernel_rfl
theorem good_219 : K.good 219 = true := by kernel_rfl
theorem good_220 : K.good 220 = true := by kernel_rfl
theorem good_223 : K.good 223 = true := by kernel_rfl
theorem good_241 : K.good 241 = true := by kernel_rfl
theorem good_242 : K.good 242 = true := by kernel_rfl
theorem good_243 : K.good 243 = true := by kernel_rfl
theorem good_244 : K.good 244 = true := by kernel_rfl
theorem good_245 : K.good 245 = true := by kernel_rfl
theorem good_246 : K.good 246 = true := by kernel_rfl
theorem good_247 : K.good 247 = true := by kernel_rfl
theorem good_248 : K.good 248 = true := by kernel_rfl
theorem good_249 : K.good 249 = true := by kernel_rfl
theorem good_250 : K.good 250 = true := by kernel_rfl
theorem good_251 : K.good 251 = true := by kernel_rfl
theorem good_258 : K.good 258 = true := by kernel_rfl
theorem good_273 : K.good 273 = true := by kernel_rfl
theorem good_274 : K.good 274 = true := by kernel_rfl
theorem good_276 : K.good 276 = true := by kernel_rfl
theorem good_291 : K.good 291 = true := by kernel_rfl
theorem keep_156_2 : keepF 156 2 = ([3], [6]) := by kernel_rfl
theorem keep_72_3 : keepF 72 3 = ([0, 3, 4], []) := by kernel_rfl
theorem keep_117_2 : keepF 117 2 = ([0, 3], []) := by kernel_rfl
theorem keep_122_5 : keepF 122 5 = ([0, 4, 6], [4]) := by kernel_rfl
theorem keep_174_5 : keepF 174 5 = ([5, 15, 16, 17], []) := by kernel_rfl
theorem keep_247_2 : keepF 247 2 = ([0, 1, 2, 7], [100000]) := by kernel_rfl
theorem keep_251_6 : keepF 251 6 = ([0, 2, 3, 4, 29], [100000]) := by kernel_rfl
theorem keep_185_2 : keepF 185 2 = ([0, 5], []) := by kernel_rfl
theorem keep_187_2 : keepF 187 2 = ([0, 1, 5], []) := by kernel_rfl
theorem keep_188_1 : keepF 188 1 = ([0, 1], []) := by kernel_rfl
theorem keep_190_4 : keepF 190 4 = ([0, 1, 4, 6, 7], [4]) := by kernel_rfl
theorem keep_121_2 : keepF 121 2 = ([0, 2, 3, 8, 9], [8, 9]) := by kernel_rfl
theorem keep_21_4 : keepF 21 4 = ([0, 1, 5], []) := by kernel_rfl
theorem keep_75_3 : keepF 75 3 = ([0, 3, 4], []) := by kernel_rfl
theorem keep_172_3 : keepF 172 3 = ([3, 6, 7, 8], []) := by kernel_rfl
theorem keep_65_3 : keepF 65 3 = ([0, 3, 4], []) := by kernel_rfl
theorem keep_51_4 : keepF 51 4 = ([0, 1, 2, 7], []) := by kernel_rfl
theorem keep_119_4 : keepF 119 4 = ([1, 2, 15, 16, 17], [100000]) := by kernel_rfl
theorem keep_222_2 : keepF 222 2 = ([0, 1, 7, 8], [100000]) := by kernel_rfl
theorem keep_104_1 : keepF 104 1 = ([0], []) := by kernel_rfl
theorem keep_104_3 : keepF 104 3 = ([0], []) := by kernel_rfl
theorem keep_58_3 : keepF 58 3 = ([1, 5, 8, 9, 10], []) := by kernel_rfl
theorem keep_168_2 : keepF 168 2 = ([0, 1, 7, 8], [100000]) := by kernel_rfl
theorem keep_16_2 : keepF 16 2 = ([0, 1, 5], []) := by kernel_rfl
theorem keep_18_4 : keepF 18 4 = ([0, 1, 5], []) := by kernel_rfl
theorem keep_19_3 : keepF 19 3 = ([3, 9, 10, 11], []) := by kernel_rfl
theorem keep_22_3 : keepF 22 3 = ([3, 7, 8, 9], []) := by kernel_rfl
theorem keep_23_3 : keepF 23 3 = ([0, 3, 4], []) := by kernel_rfl
theorem keep_25_2 : keepF 25 2 = ([0, 3], []) := by kernel_rfl
theorem keep_55_3 : keepF 55 3 = ([3, 6, 7, 8], []) := by kernel_rfl
theorem keep_64_2 : keepF 64 2 = ([0, 1, 5], []) := by kernel_rfl
theorem keep_68_4 : keepF 68 4 = ([1, 2, 15, 16, 17], [100000]) := by kernel_rfl
theorem keep_173_1 : keepF 173 1 = ([0, 1], []) := by kernel_rfl
theorem keep_218_2 : keepF 218 2 = ([0, 1, 7, 8], [100000]) := by kernel_rfl
end Go.Abs
namespace Go.Abs
def valueS (s : List UInt8) : List UInt8 := if 0 ≤ Lib.indexByte s 34 then 39 :: s ++ [39] else 34 :: s ++ [34]
def nthS (a b : Int) : List UInt8 := (if a = 0 then [] else Lib.itoa a ++ [110]) ++ (if a = 0 ∨ b < 0 then Lib.itoa b else if 0 < b then 43 :: Lib.itoa b else [])
inductive Sim where
  | mk (kind : Int) (name value : List UInt8) (a b : Int) (l : List Sim)
mutual
def simS : Sim → List UInt8
  | .mk k n v a b l =>
    if k = 1 then [42]
    else if k = 2 then n
    else if k = 3 then 35 :: n
    else if k = 4 then 46 :: n
    else if k = 5 then 91 :: (n ++ [93])
    else if k = 6 then 91 :: (n ++ 61 :: (valueS v ++ [93]))
    else if k = 7 then 58 :: n
    else if k = 8 then [58, 110, 116, 104, 45, 99, 104, 105, 108, 100, 40] ++ (nthS a b ++ [41])
    else if k = 9 then [58, 114, 111, 111, 116]
    else if k = 10 then [58, 101, 109, 112, 116, 121]
    else if k = 11 then [58, 110, 111, 116, 40] ++ (simsS l ++ [41])
    else []
def simsS : List Sim → List UInt8
  | [] => []
  | x :: l => simS x ++ simsS l
end
def Sim.kind : Sim → Int
  | .mk k _ _ _ _ _ => k
structure Prt where
  comb : Int
  l : List Sim
structure Cpx where
  parts : List Prt
  pseudo : List UInt8
namespace Sl
def isSign (s : List UInt8) : Val → Bool
  | .mk k t _ => k == 1 && decide (t = ⟨7, s, 0⟩)
def isBlank : Val → Bool
  | .mk k t _ => k == 1 && t.kind == 8
def trim (l : List Val) : List Val := ((l.dropWhile isBlank).reverse.dropWhile isBlank).reverse
def tokK (kind : Int) : List Val → Option Tok
  | .mk k t _ :: _ => if k = 1 ∧ t.kind = kind then some t else none
  | [] => none
def sign (s : List UInt8) : List Val → Option (List Val)
  | v :: r => if isSign s v then some r else none
  | [] => none
def name (l : List Val) : Option (List UInt8 × List Val) := (tokK 1 l).map fun t => (t.text, l.tail)
def valueK (kind : Int) : List Val → Option ((Tok × List Val) × List Val)
  | .mk k t c :: r => if k = kind then some ((t, c), r) else none
  | [] => none
def digits (s : List UInt8) : Int := if s.length < 1 ∨ 4 < s.length then -1 else if s.all Tk.digit then s.foldl (fun n c => 10 * n + ((c.toNat : Int) - 48)) 0 else -1
def nth1 (t : Tok) : Option (Int × Int) :=
  if t.kind = 1 then (if t.text = [111, 100, 100] then some (2, 1) else if t.text = [101, 118, 101, 110] then some (2, 0) else if t.text = [110] then some (1, 0) else none)
  else if t.kind = 5 then
    (if t.text = [] then some (0, t.n) else if t.text = [110] then some (t.n, 0)
     else if 2 < t.text.length ∧ t.text.take 2 = [110, 45] ∧ 0 ≤ digits (t.text.drop 2) then some (t.n, -digits (t.text.drop 2)) else none)
  else none
def nth (v : List Val) : Option (Int × Int) :=
  match trim v with
  | [.mk k t _] => if k = 1 then nth1 t else none
  | [.mk k t _, s, .mk k' u _] => if k = 1 ∧ t.kind = 5 ∧ t.text = [110] ∧ isSign [43] s = true ∧ k' = 1 ∧ u.kind = 5 ∧ u.text = [] ∧ 0 ≤ u.n then some (t.n, u.n) else none
  | _ => none
def few (n : Int) : Prop := -9999 ≤ n ∧ n ≤ 9999
instance (n : Int) : Decidable (few n) := by unfold few; infer_instance
def nthM (v : List Val) : Option (Int × Int) :=
  match nth v with
  | some x => if few x.1 ∧ few x.2 then some x else none
  | none => none
def attr (l : List Val) : Option Sim :=
  match l.filter (fun v => !isBlank v) with
  | [.mk k t _] => if k = 1 ∧ t.kind = 1 then some (.mk 5 t.text [] 0 0 []) else none
  | [.mk k t _, e, .mk k' u _] => if k = 1 ∧ t.kind = 1 ∧ isSign [61] e = true ∧ k' = 1 ∧ (u.kind = 1 ∨ u.kind = 6) then some (.mk 6 t.text u.text 0 0 []) else none
  | _ => none
def hoverT : List UInt8 := [104, 111, 118, 101, 114]
def focusT : List UInt8 := [102, 111, 99, 117, 115]
def activeT : List UInt8 := [97, 99, 116, 105, 118, 101]
def checkedT : List UInt8 := [99, 104, 101, 99, 107, 101, 100]
def rootT : List UInt8 := [114, 111, 111, 116]
def emptyT : List UInt8 := [101, 109, 112, 116, 121]
def firstT : List UInt8 := [102, 105, 114, 115, 116, 45, 99, 104, 105, 108, 100]
def nthT : List UInt8 := [110, 116, 104, 45, 99, 104, 105, 108, 100]
def notT : List UInt8 := [110, 111, 116]
def beforeT : List UInt8 := [98, 101, 102, 111, 114, 101]
def afterT : List UInt8 := [97, 102, 116, 101, 114]
def isState (s : List UInt8) : Prop := s = hoverT ∨ s = focusT ∨ s = activeT ∨ s = checkedT
instance (s : List UInt8) : Decidable (isState s) := by unfold isState; infer_instance
def colonName (s : List UInt8) : Option Sim :=
  if isState s then some (.mk 7 s [] 0 0 []) else if s = rootT then some (.mk 9 [] [] 0 0 []) else if s = emptyT then some (.mk 10 [] [] 0 0 [])
  else if s = firstT then some (.mk 8 [] [] 0 1 []) else none
def low1 (c : UInt8) : UInt8 := if 65 ≤ c.toNat ∧ c.toNat ≤ 90 then c + 32 else c
def low (s : List UInt8) : List UInt8 := s.map low1
def colon (g : List Val → Option (Sim × List Val)) (l : List Val) : Option (Sim × List Val) :=
  match valueK 5 l with
  | some ((t, c), r) =>
    if t.text = nthT then (nthM c).map fun x => (.mk 8 [] [] x.1 x.2 [], r)
    else if t.text = notT then
      (match g (trim c) with
       | some (x, []) => if x.kind = 11 then none else some (.mk 11 [] [] 0 0 [x], r)
       | _ => none)
    else none
  | none =>
    match name l with
    | some (s, r) => (colonName s).map fun x => (x, r)
    | none => none
def simple : Nat → Bool → List Val → Option (Sim × List Val)
  | 0, _, _ => none
  | f + 1, first, l =>
    match (if first then tokK 1 l else none) with
    | some t => some (.mk 2 (low t.text) [] 0 0 [], l.tail)
    | none =>
    match (if first then sign [42] l else none) with
    | some r => some (.mk 1 [] [] 0 0 [], r)
    | none =>
    match tokK 4 l with
    | some t => some (.mk 3 t.text [] 0 0 [], l.tail)
    | none =>
    match sign [46] l with
    | some r => (name r).map fun x => (.mk 4 x.1 [] 0 0 [], x.2)
    | none =>
    match sign [58] l with
    | some r => colon (simple f true) r
    | none =>
    match valueK 3 l with
    | some x => (attr x.1.2).map fun y => (y, x.2)
    | none => none
def over : List Val → Bool
  | [] => true
  | v :: _ => isBlank v || isSign [62] v || isSign [43] v || isSign [126] v
def double : List Val → Bool
  | v :: w :: _ => isSign [58] v && isSign [58] w
  | _ => false
def part : Nat → Bool → List Val → Option (List Sim × List Val)
  | 0, _, _ => none
  | f + 1, first, l =>
    if over l || double l then some ([], l)
    else match simple (Ne.size l) first l with
      | none => none
      | some (x, r) => (part f false r).map fun y => (x :: y.1, y.2)
def comb (l : List Val) : Int × List Val :=
  let m := l.dropWhile isBlank
  match sign [62] m with
  | some r => (2, r.dropWhile isBlank)
  | none =>
  match sign [43] m with
  | some r => (3, r.dropWhile isBlank)
  | none =>
  match sign [126] m with
  | some r => (4, r.dropWhile isBlank)
  | none => (1, m.dropWhile isBlank)
def cpx : Nat → Int → List Val → Option Cpx
  | 0, _, _ => none
  | n + 1, c, l =>
    match part (l.length + 1) true l with
    | none => none
    | some (ps, r) =>
      if double r then
        (match name (r.drop 2) with
         | some (s, []) => if (s = beforeT ∨ s = afterT) ∧ ps.length ≤ 8 then some ⟨[⟨c, ps⟩], s⟩ else none
         | _ => none)
      else if 8 < ps.length ∨ ps = [] then none
      else if r.isEmpty then some ⟨[⟨c, ps⟩], []⟩
      else (cpx n (comb r).1 (comb r).2).map fun x => ⟨⟨c, ps⟩ :: x.parts, x.pseudo⟩
def at_ (s : List UInt8) : List Val → List (List Val)
  | [] => [[]]
  | v :: l => if isSign s v then [] :: at_ s l else match at_ s l with
    | [] => [[v]]
    | p :: ps => (v :: p) :: ps
def all_ : List (List Val) → Option (List Cpx)
  | [] => some []
  | p :: ps => match cpx 16 0 (trim p), all_ ps with
    | some c, some cs => some (c :: cs)
    | _, _ => none
def parse (l : List Val) : Option (List Cpx) := if (at_ [44] l).length ≤ 32 then all_ (at_ [44] l) else none
def read (s : List UInt8) : Option (List Cpx) := (Ne.parse 60 (Tk.all s)).bind fun v => parse (trim v)
def tv (t : Tok) : Val := .mk 1 t []
def dv (c : UInt8) : Val := tv ⟨7, [c], 0⟩
def iv (s : List UInt8) : Val := tv ⟨1, s, 0⟩
end Sl
end Go.Abs
namespace Go.Abs
open Go Go.Proofs
abbrev I (n : Int) : AV := .c (.pv (.int .i64 n))
abbrev T (l : List UInt8) : AV := .c (.pv (.str l))
abbrev B (b : Bool) : AV := .c (.pv (.bool b))
abbrev L (l : List (List PV)) : AV := .c (.pv (.sl l))
abbrev P0 : AV := .c (.loc 100000 0)
theorem den_run {f : FuncId} {fn : Func} {x : Code} {nt : Nat} {args : List AV} {bxs : List (List CV)} {r : Res} (hp : prF f = none) (hh : hpF f = none) (hf : Tryz.prog.funcs[f]? = some fn) (hx : fn.body = some x) (hn : fn.ntmps = nt)
    (hl : args.length ≤ nt ∧ nt < LK) (h : (exL K f x (enterSt nt args bxs)).bind (fun r => leave K f fn bxs.length (some r)) = some r) : den K f args bxs = some r := by
  rw [den_eq (K := K) hp hh hf hx, hn, if_pos hl]
  exact h
theorem K_own (f : FuncId) (h : (
  f == 219 ||
  f == 55 ||
  f == 1000000) = false) : K.ownRet f = false := h
theorem K_ownP : K.ownRet 219 = true := rfl
theorem K_ownT : K.ownRet 55 = true := rfl
theorem K_hook (f i : Nat) : K.hook f i = hookB f i := rfl
theorem K_P : K.P = Tryz.prog := rfl
theorem K_keep (f r : Nat) : K.keep f r = keepF f r := rfl
theorem prim_run {f : FuncId} {F : Prim} {args : List AV} {bxs cs : List (List CV)} {v : AV} (h : prF f = some F) (hF : F args bxs = some (v, cs)) : den K f args bxs = some (.ret v cs) := by
  rw [den_prim (K := K) h, hF]; rfl
set_option maxRecDepth 10000
theorem lens_nil (n : Nat) : lens n [] = true := rfl
end Go.Abs
namespace Go.Abs
open Go Go.Proofs
theorem exL_head (f : FuncId) (a : Code) (S : St) : exL K f (.loop a) S = exL K f (.loop a) (head (keepF f ((firstReg a).getD 0)) S) := by
  rw [exL_loop, exL_loop (S := head _ S), K_keep, head_head]
set_option maxRecDepth 10000
attribute [local go_sem] exL_seq exL_region exL_cond exL_block exL_scope exL_ret exL_skip exL_exit runRegion runOps stepOp guardA absOp takeOver opd avOf cvOf St.degAt St.put okPV okVal okAV absBin intBin strBin boolBin setBoxes if_true Bool.false_eq_true if_false Option.map_some Option.map_none Option.bind_some Option.bind_none thenO outOf upd List.toList_toArray isOwn steal appArgs mvB inApps AV.deg CV.deg AV.gv AV.isIter absNext some_bne some_beqN List.length_nil List.length_cons List.filterMap_cons List.filterMap_nil beq_iff_eq List.getElem?_cons_zero List.getElem?_cons_succ Option.getD_some K_hook hookB Bool.false_and Bool.and_false Bool.and_self K_P K_own absCall doCall getBoxes lend back idx dedup AV.ren CV.ren TV.ren AV.ptrs CV.ptrs zipBox AV.flat CV.flat absLoad absStore cellsOfAV setAt newBox markB bldTypes absFieldAddr absField absExtract absAssert noAssert absMkIface ifcOf CV.pv? content pushHead ownT fillCells reps pvs chunks enterSt leave resOf resVars resVar outBoxes lentOnly TV.deg TV.av LK CV.plain CV.noBld nilBin absUn bound List.map_cons List.map_nil List.all_cons List.all_nil List.any_cons List.any_nil List.contains_cons List.contains_nil List.elem_cons List.elem_nil List.cons_append List.nil_append List.append_nil List.flatMap_cons List.flatMap_nil List.zip_cons_cons List.zip_nil_left List.zip_nil_right List.take_succ_cons List.take_zero List.take_nil List.drop_succ_cons List.drop_zero List.drop_nil List.isEmpty_nil List.isEmpty_cons Bool.and_true Bool.true_and Bool.or_true Bool.true_or Bool.or_false Bool.false_or Bool.not_true Bool.not_false Nat.add_zero Nat.zero_add Option.isNone_none Option.isNone_some Option.getD_none true_and and_true not_true_eq_false not_false_eq_true decide_true decide_false Nat.le_refl and_self Bool.not_eq_true Nat.sub_self or_true true_or Option.some.injEq List.length_map List.nil_eq and_false false_and AV.live CV.live CV.liveIn K_keep firstReg Option.orElse_some Option.orElse_none head keepSlots keepBoxes Int.lt_irrefl List.length_append ite_self memOK logOps opKey lentBoxes Key.clash Key.sees Key.writes Nat.lt_irrefl gt_iff_lt nobox_at bot_at false_or or_false beq_self_eq_true Bool.true_beq Bool.false_beq
theorem itoa_den (n : Int) (h : -9223372036854775808 ≤ n ∧ n ≤ 9223372036854775807) : den K 130 [I n] [] = some (.ret (T (Lib.itoa n)) []) :=
  prim_run (F := pItoa) rfl (by simp [pItoa, h])
theorem wrap_nat (n : Nat) (h : n < 9223372036854775807) : IntKind.i64.wrap ((n : Int) + 1) = ((n + 1 : Nat) : Int) := by
  rw [IntWalk.i64_in _ (by omega)]; rfl
theorem drop_cons {α : Type} {l rest : List α} {x : α} {i : Nat} (h : l.drop i = x :: rest) : l[i]? = some x ∧ l.drop (i + 1) = rest ∧ i < l.length := by
  have h1 : l[i]? = some x := by
    have : (l.drop i)[0]? = some x := by rw [h]; rfl
    simpa using this
  refine ⟨h1, ?_, (List.getElem?_eq_some_iff.1 h1).1⟩
  have : (l.drop i).tail = rest := by rw [h]; rfl
  rw [← this, List.tail_drop]
end Go.Abs
namespace Go.Abs
open Go Go.Proofs
set_option maxRecDepth 10000
attribute [local go_sem] exL_seq exL_region exL_cond exL_block exL_scope exL_ret exL_skip exL_exit runRegion runOps stepOp guardA absOp takeOver opd avOf cvOf St.degAt St.put okPV okVal okAV absBin intBin strBin boolBin setBoxes if_true Bool.false_eq_true if_false Option.map_some Option.map_none Option.bind_some Option.bind_none thenO outOf upd List.toList_toArray isOwn steal appArgs mvB inApps AV.deg CV.deg AV.gv AV.isIter absNext some_bne some_beqN List.length_nil List.length_cons List.filterMap_cons List.filterMap_nil beq_iff_eq List.getElem?_cons_zero List.getElem?_cons_succ Option.getD_some K_hook hookB Bool.false_and Bool.and_false Bool.and_self K_P K_own absCall doCall getBoxes lend back idx dedup AV.ren CV.ren TV.ren AV.ptrs CV.ptrs zipBox AV.flat CV.flat absLoad absStore cellsOfAV setAt newBox markB bldTypes absFieldAddr absField absExtract absAssert noAssert absMkIface ifcOf CV.pv? content pushHead ownT fillCells reps pvs chunks enterSt leave resOf resVars resVar outBoxes lentOnly TV.deg TV.av LK CV.plain CV.noBld nilBin absUn bound List.map_cons List.map_nil List.all_cons List.all_nil List.any_cons List.any_nil List.contains_cons List.contains_nil List.elem_cons List.elem_nil List.cons_append List.nil_append List.append_nil List.flatMap_cons List.flatMap_nil List.zip_cons_cons List.zip_nil_left List.zip_nil_right List.take_succ_cons List.take_zero List.take_nil List.drop_succ_cons List.drop_zero List.drop_nil List.isEmpty_nil List.isEmpty_cons Bool.and_true Bool.true_and Bool.or_true Bool.true_or Bool.or_false Bool.false_or Bool.not_true Bool.not_false Nat.add_zero Nat.zero_add Option.isNone_none Option.isNone_some Option.getD_none true_and and_true not_true_eq_false not_false_eq_true decide_true decide_false Nat.le_refl and_self Bool.not_eq_true Nat.sub_self or_true true_or Option.some.injEq List.length_map List.nil_eq and_false false_and AV.live CV.live CV.liveIn K_keep firstReg Option.orElse_some Option.orElse_none head keepSlots keepBoxes Int.lt_irrefl List.length_append ite_self memOK logOps opKey lentBoxes Key.clash Key.sees Key.writes Nat.lt_irrefl gt_iff_lt nobox_at bot_at false_or or_false beq_self_eq_true Bool.true_beq Bool.false_beq
theorem itoa_len {n : Int} (h : I64 n) : (Lib.itoa n).length ≤ 21 := Lib.itoa_length_le n h.1 h.2
set_option maxHeartbeats 4000000 in
theorem One_den (t : Tok) (hn : I64 t.n) (hl : t.text.length < 1000000000000) : den K 175 [.agg t.cells] [] = some (.ret (T (oneS t)) []) := by
  obtain ⟨k, s, n⟩ := t
  refine den_run rfl rfl Tryz.func175 rfl Tryz.ntmps175 ⟨by simp, by simp [LK]⟩ ?_
  have hr : Tryz.f175.results = #[.tmp 2] := rfl
  have hit := itoa_den n hn
  have hi := itoa_len hn
  simp only at hl hi
  have l1 : s.length + 1 < strLim := by simp [strLim]; omega
  have l1' : 1 + s.length < strLim := by simp [strLim]; omega
  have l2 : (Lib.itoa n).length + s.length < strLim := by simp [strLim]; omega
  have l3 : 1 + s.length + 1 < strLim := by simp [strLim]; omega
  have l4 : s.length + 2 < strLim := by simp [strLim]; omega
  have l5 : s.length + 2 + 1 < strLim := by simp [strLim]; omega
  have l6 : s.length + 2 + 1 + 2 < strLim := by simp [strLim]; omega
  have l7 : s.length + 1 + 1 < strLim := by simp [strLim]; omega
  have hk : k = 1 ∨ k = 2 ∨ k = 3 ∨ k = 4 ∨ k = 5 ∨ k = 6 ∨ k = 7 ∨ k = 8 ∨ (k ≠ 1 ∧ k ≠ 2 ∧ k ≠ 3 ∧ k ≠ 4 ∧ k ≠ 5 ∧ k ≠ 6 ∧ k ≠ 7 ∧ k ≠ 8) := by omega
  rcases hk with rfl | rfl | rfl | rfl | rfl | rfl | rfl | rfl | ⟨h1, h2, h3, h4, h5, h6, h7, h8⟩
  · simp [go_sem, Nat.reduceLT, reduceIte, Nat.reduceEqDiff, Nat.reduceBEq, Nat.reduceAdd, ty_fieldOff_47_0, ty_szOf_3, ty_shapeT_3, ty_fieldOff_47_1, ty_szOf_9, ty_shapeT_9, Tok.cells, oneS]
  · simp [go_sem, Nat.reduceLT, reduceIte, Nat.reduceEqDiff, Nat.reduceBEq, Nat.reduceAdd, ty_fieldOff_47_0, ty_szOf_3, ty_shapeT_3, ty_fieldOff_47_1, ty_szOf_9, ty_shapeT_9, Tok.cells, oneS, l1]
  · simp [go_sem, Nat.reduceLT, reduceIte, Nat.reduceEqDiff, Nat.reduceBEq, Nat.reduceAdd, ty_fieldOff_47_0, ty_szOf_3, ty_shapeT_3, ty_fieldOff_47_1, ty_szOf_9, ty_shapeT_9, Tok.cells, oneS, l1']
  · simp [go_sem, Nat.reduceLT, reduceIte, Nat.reduceEqDiff, Nat.reduceBEq, Nat.reduceAdd, ty_fieldOff_47_0, ty_szOf_3, ty_shapeT_3, ty_fieldOff_47_1, ty_szOf_9, ty_shapeT_9, Tok.cells, oneS, l1']
  · simp [go_sem, Nat.reduceLT, reduceIte, reduceCtorEq, Nat.reduceEqDiff, Nat.reduceBEq, Nat.reduceAdd, ty_fieldOff_47_0, ty_szOf_3, ty_shapeT_3, ty_fieldOff_47_1, ty_szOf_9, ty_shapeT_9, ty_fieldOff_47_2, good_130, Tok.cells, oneS, hit, l2]
  · by_cases h : n = 39 <;> simp [go_sem, Nat.reduceLT, reduceIte, Nat.reduceEqDiff, Nat.reduceBEq, Nat.reduceAdd, ty_fieldOff_47_0, ty_szOf_3, ty_shapeT_3, ty_fieldOff_47_1, ty_szOf_9, ty_shapeT_9, ty_fieldOff_47_2, Tok.cells, oneS, h, l1', l7]
  · by_cases h : s = [34]
    · simp [go_sem, Nat.reduceLT, reduceIte, Nat.reduceEqDiff, Nat.reduceBEq, Nat.reduceAdd, ty_fieldOff_47_0, ty_szOf_3, ty_shapeT_3, ty_fieldOff_47_1, ty_szOf_9, ty_shapeT_9, Tok.cells, oneS, h, strLim]
    · have e : (s == [34]) = false := by simp [h]
      by_cases h' : s = [39]
      · simp [go_sem, Nat.reduceLT, reduceIte, Nat.reduceEqDiff, Nat.reduceBEq, Nat.reduceAdd, ty_fieldOff_47_0, ty_szOf_3, ty_shapeT_3, ty_fieldOff_47_1, ty_szOf_9, ty_shapeT_9, Tok.cells, oneS, h', strLim]
      · have e' : (s == [39]) = false := by simp [h']
        simp [go_sem, Nat.reduceLT, reduceIte, Nat.reduceEqDiff, Nat.reduceBEq, Nat.reduceAdd, ty_fieldOff_47_0, ty_szOf_3, ty_shapeT_3, ty_fieldOff_47_1, ty_szOf_9, ty_shapeT_9, Tok.cells, oneS, e, e', h, h']
  · simp [go_sem, Nat.reduceLT, reduceIte, Nat.reduceEqDiff, Nat.reduceBEq, Nat.reduceAdd, ty_fieldOff_47_0, ty_szOf_3, ty_shapeT_3, Tok.cells, oneS]
  · simp [go_sem, Nat.reduceLT, reduceIte, Nat.reduceEqDiff, Nat.reduceBEq, Nat.reduceAdd, ty_fieldOff_47_0, ty_szOf_3, ty_shapeT_3, Tok.cells, oneS, h1, h2, h3, h4, h5, h6, h7, h8]
end Go.Abs
namespace Go.Abs.Tk
open Go
theorem begins_zero : begins 0 = false := by decide
theorem within_zero : within 0 = false := by decide
theorem digit_zero : digit 0 = false := by decide
theorem begins_within {c : UInt8} (h : begins c = true) : within c = true := by simp [within, h]
theorem begins_digit {c : UInt8} (h : begins c = true) : digit c = false := by
  simp only [begins, digit, decide_eq_true_eq, decide_eq_false_iff_not] at *; omega
theorem digit_ne {c d : UInt8} (h : digit c = true) (hd : digit d = false) : c ≠ d := fun e => by rw [e, hd] at h; cases h
theorem within_ne {c d : UInt8} (h : within c = true) (hd : within d = false) : c ≠ d := fun e => by rw [e, hd] at h; cases h
theorem blank_cases {c : UInt8} (h : blank c = true) : c = 32 ∨ c = 10 ∨ c = 9 ∨ c = 12 ∨ c = 13 := by simpa [blank, or_assoc] using h
theorem within_blank {c : UInt8} (h : within c = true) : blank c = false := by
  cases hb : blank c
  · rfl
  · rcases blank_cases hb with rfl | rfl | rfl | rfl | rfl <;> revert h <;> decide
theorem digit_within {c : UInt8} (h : digit c = true) : within c = true := by simp [within, h]
theorem digit_blank {c : UInt8} (h : digit c = true) : blank c = false := within_blank (digit_within h)
section run
variable {p : UInt8 → Bool}
theorem run_nil : run p [] = 0 := rfl
theorem run_le : ∀ l : List UInt8, run p l ≤ l.length
  | [] => Nat.le_refl _
  | c :: r => by
    rw [run]; have := run_le r
    split <;> simp <;> omega
theorem run_pos {c : UInt8} {r : List UInt8} (h : p c = true) : 0 < run p (c :: r) := by rw [run, if_pos h]; omega
theorem run_take : ∀ l : List UInt8, ∀ b ∈ l.take (run p l), p b = true
  | [], b, h => by simp at h
  | c :: r, b, h => by
    rw [run] at h
    split at h
    · rename_i hc
      rw [List.take_succ_cons] at h
      rcases List.mem_cons.1 h with rfl | h
      · exact hc
      · exact run_take r b h
    · simp at h
theorem run_stop (h0 : p 0 = false) : ∀ l : List UInt8, p (at0 (l.drop (run p l))) = false
  | [] => h0
  | c :: r => by
    rw [run]
    split
    · rw [List.drop_succ_cons]; exact run_stop h0 r
    · rename_i hc
      simpa [at0] using hc
theorem run_app : ∀ {a y : List UInt8}, (∀ b ∈ a, p b = true) → run p (a ++ y) = a.length + run p y
  | [], y, _ => by simp
  | c :: a, y, h => by
    rw [List.cons_append, run, if_pos (h c (by simp)), run_app fun b hb => h b (by simp [hb])]
    simp; omega
theorem run_zero : ∀ {y : List UInt8}, p (at0 y) = false → run p y = 0
  | [], _ => rfl
  | c :: r, h => by
    rw [run, if_neg]; simpa [at0] using h
theorem run_word {a y : List UInt8} (h : ∀ b ∈ a, p b = true) (hy : p (at0 y) = false) : run p (a ++ y) = a.length := by rw [run_app h, run_zero hy]; rfl
theorem run_pos_iff {y : List UInt8} (h0 : p 0 = false) : 0 < run p y ↔ p (at0 y) = true := by
  cases y with
  | nil => simp [run, at0, h0]
  | cons c r =>
    rw [run, at0]
    cases p c <;> simp
end run
theorem at0_app {a y : List UInt8} (h : a ≠ []) : at0 (a ++ y) = at0 a := by
  cases a with
  | nil => exact absurd rfl h
  | cons c r => rfl
def isName (x : List UInt8) : Prop := nameB x = true ∧ ∀ b ∈ x, within b = true
theorem nameB_nil : nameB [] = false := by decide
theorem isName_ne {x : List UInt8} (h : isName x) : x ≠ [] := fun e => by have := h.1; rw [e, nameB_nil] at this; cases this
theorem isName_len {x : List UInt8} (h : isName x) : 0 < x.length := List.length_pos_iff.2 (isName_ne h)
theorem nameB_app {x y : List UInt8} (h : nameB x = true) : nameB (x ++ y) = true := by
  match x, h with
  | [], h => rw [nameB_nil] at h; cases h
  | [c], h =>
    have hc : begins c = true := by
      simp only [nameB, at0, List.tail_cons, begins_zero, Bool.false_or, Bool.or_eq_true, Bool.and_eq_true, beq_iff_eq] at h
      rcases h with h | ⟨_, h⟩
      · exact h
      · exact absurd h (by decide)
    simp [nameB, at0, hc]
  | c :: d :: r, h => exact h
theorem nameB_within {x : List UInt8} (h : nameB x = true) : within (at0 x) = true := by
  simp only [nameB, Bool.or_eq_true, Bool.and_eq_true, beq_iff_eq] at h
  rcases h with h | ⟨h, _⟩
  · exact begins_within h
  · rw [h]; decide
theorem name_app {x y : List UInt8} (h : isName x) (hy : within (at0 y) = false) : name (x ++ y) = x.length := by
  rw [name, if_pos (nameB_app h.1), run_word h.2 hy]
theorem name_zero {y : List UInt8} (h : nameB y = false) : name y = 0 := by rw [name, h]; rfl
theorem name_pos {l : List UInt8} (h : 0 < name l) : nameB l = true := by
  rw [name] at h; split at h
  · assumption
  · omega
theorem name_pos_iff {l : List UInt8} : 0 < name l ↔ nameB l = true := by
  refine ⟨name_pos, fun h => ?_⟩
  rw [name, if_pos h]
  exact (run_pos_iff within_zero).2 (nameB_within h)
theorem name_le (l : List UInt8) : name l ≤ l.length := by
  rw [name]; split
  · exact run_le l
  · omega
theorem name_take {l : List UInt8} (h : 0 < name l) : isName (l.take (name l)) := by
  have hb := name_pos h
  have e : name l = run within l := by rw [name, if_pos hb]
  refine ⟨?_, by rw [e]; exact run_take l⟩
  rw [e]
  match l, hb with
  | [], hb => rw [nameB_nil] at hb; cases hb
  | [c], hb =>
    have : run within [c] = 1 := by rw [run, if_pos (show within c = true from nameB_within hb)]; rfl
    rw [this]; exact hb
  | c :: d :: r, hb =>
    have hc : within c = true := nameB_within hb
    by_cases hd : within d = true
    · have : run within (c :: d :: r) = run within r + 2 := by rw [run, if_pos hc, run, if_pos hd]
      rw [this]; exact hb
    · have hd' : within d = false := by simpa using hd
      have : run within (c :: d :: r) = 1 := by rw [run, if_pos hc, run, if_neg hd]
      rw [this]
      simp only [nameB, at0, List.tail_cons, Bool.or_eq_true, Bool.and_eq_true, beq_iff_eq] at hb
      have hbc : begins c = true := by
        rcases hb with hb | ⟨_, hb | hb⟩
        · exact hb
        · rw [begins_within hb] at hd'; cases hd'
        · exact absurd hd' (by rw [hb]; decide)
      simp [nameB, at0, hbc]
theorem shut_le : ∀ {l : List UInt8} {n : Nat}, shut l = some n → n ≤ l.length ∧ 2 ≤ n
  | c :: r, n, h => by
    rw [shut] at h
    split at h
    · rename_i hc
      cases h
      cases r with
      | nil => exact absurd hc.2 (by decide)
      | cons d r => simp
    · rw [Option.map_eq_some_iff] at h
      obtain ⟨m, hm, rfl⟩ := h
      have := shut_le hm
      simp; omega
theorem comment_pos (r : List UInt8) : 2 ≤ comment r := by unfold comment; split <;> omega
theorem inner_le {q : UInt8} : ∀ {l : List UInt8} {n : Nat}, inner q l = some n → n + 1 ≤ l.length
  | c :: r, n, h => by
    rw [inner] at h
    split at h
    · cases h; simp
    · split at h
      · cases h
      · rw [Option.map_eq_some_iff] at h
        obtain ⟨m, hm, rfl⟩ := h
        have := inner_le hm
        simp; omega
theorem inner_take {q : UInt8} : ∀ {l : List UInt8} {n : Nat}, inner q l = some n → ∀ b ∈ l.take n, b ≠ q ∧ ending b = false
  | c :: r, n, h, b, hb => by
    rw [inner] at h
    split at h
    · cases h; simp at hb
    · rename_i hq
      split at h
      · cases h
      · rename_i he
        rw [Option.map_eq_some_iff] at h
        obtain ⟨m, hm, rfl⟩ := h
        rw [List.take_succ_cons] at hb
        rcases List.mem_cons.1 hb with rfl | hb
        · exact ⟨hq, by simpa using he⟩
        · exact inner_take hm b hb
theorem inner_app {q : UInt8} {y : List UInt8} : ∀ {x : List UInt8}, (∀ b ∈ x, b ≠ q ∧ ending b = false) → inner q (x ++ q :: y) = some x.length
  | [], _ => by simp [inner]
  | c :: x, h => by
    have hc := h c (by simp)
    rw [List.cons_append, inner, if_neg hc.1, if_neg (by simp [hc.2]), inner_app fun b hb => h b (by simp [hb])]
    rfl
theorem num_app : ∀ {a y : List UInt8} {n : Int}, (∀ b ∈ a, digit b = true) → num n (a ++ y) = num (num n a) y
  | [], _, _, _ => rfl
  | c :: a, y, n, h => by
    rw [List.cons_append, num, if_pos (h c (by simp)), num, if_pos (h c (by simp)), num_app fun b hb => h b (by simp [hb])]
theorem num_stop {y : List UInt8} {n : Int} (h : digit (at0 y) = false) : num n y = n := by
  cases y with
  | nil => rfl
  | cons c r => rw [num, if_neg]; simpa [at0] using h
theorem num_bound : ∀ {l : List UInt8} {n : Int}, 0 ≤ n → n ≤ 999999999 → 0 ≤ num n l ∧ num n l ≤ 999999999
  | [], n, h1, h2 => ⟨h1, h2⟩
  | c :: r, n, h1, h2 => by
    rw [num]
    split
    · rename_i hc
      have : 48 ≤ c.toNat := by simp only [digit, decide_eq_true_eq] at hc; omega
      exact num_bound (by omega) (by omega)
    · exact ⟨h1, h2⟩
theorem digit_of {k : Nat} (h : k < 10) : digit (UInt8.ofNat (48 + k)) = true ∧ ((UInt8.ofNat (48 + k)).toNat : Int) - 48 = k := by
  have : (UInt8.ofNat (48 + k)).toNat = 48 + k := by rw [UInt8.toNat_ofNat']; omega
  refine ⟨?_, by rw [this]; omega⟩
  simp only [digit, this, decide_eq_true_eq]; omega
theorem dec_digits : ∀ (k u : Nat), u ≤ k → ∀ b ∈ Lib.decDigits u, digit b = true := by
  intro k
  induction k with
  | zero =>
    intro u hu b hb
    rw [Lib.decDigits, dif_pos (by omega)] at hb
    simp only [List.mem_singleton] at hb
    rw [hb]; exact (digit_of (by omega)).1
  | succ k ih =>
    intro u hu b hb
    rw [Lib.decDigits] at hb
    split at hb
    · simp only [List.mem_singleton] at hb
      rw [hb]; exact (digit_of (by omega)).1
    · rcases List.mem_append.1 hb with hb | hb
      · exact ih (u / 10) (by omega) b hb
      · simp only [List.mem_singleton] at hb
        rw [hb]; exact (digit_of (Nat.mod_lt _ (by omega))).1
theorem dec_num : ∀ (k u : Nat), u ≤ k → u ≤ 999999999 → num 0 (Lib.decDigits u) = u := by
  intro k
  induction k with
  | zero =>
    intro u hu _
    obtain rfl : u = 0 := by omega
    rw [Lib.decDigits, dif_pos (by omega)]
    decide
  | succ k ih =>
    intro u hu hm
    rw [Lib.decDigits]
    split
    · rename_i h
      have h2 := digit_of h
      rw [num, if_pos h2.1, num, h2.2]; omega
    · have h2 := digit_of (Nat.mod_lt u (by omega : 0 < 10))
      rw [num_app (dec_digits (u / 10) (u / 10) (Nat.le_refl _)), ih (u / 10) (by omega) (by omega), num, if_pos h2.1, num, h2.2]; omega
theorem dec_ne : ∀ (u : Nat), Lib.decDigits u ≠ [] := by
  intro u h
  rw [Lib.decDigits] at h
  split at h <;> simp at h
end Go.Abs.Tk
namespace Go.Abs.Tk
open Go
inductive Good : Tok → Prop
  | ident (x : List UInt8) : isName x → Good ⟨1, x, 0⟩
  | func (x : List UInt8) : isName x → Good ⟨2, x, 0⟩
  | word (x : List UInt8) : isName x → Good ⟨3, x, 0⟩
  | hash (x : List UInt8) : x ≠ [] → (∀ b ∈ x, within b = true) → Good ⟨4, x, 0⟩
  | num (x : List UInt8) (n : Int) : -999999999 ≤ n → n ≤ 999999999 → (x = [] ∨ x = [37] ∨ isName x) → Good ⟨5, x, n⟩
  | str (x : List UInt8) (q : UInt8) : q = 34 ∨ q = 39 → (∀ b ∈ x, b ≠ q ∧ ending b = false) → Good ⟨6, x, q.toNat⟩
  | delim (c : UInt8) : begins c = false → digit c = false → blank c = false → Good ⟨7, [c], 0⟩
  | white : Good ⟨8, [10], 0⟩
theorem unit_good (l : List UInt8) : l.take (unit l) = [] ∨ l.take (unit l) = [37] ∨ isName (l.take (unit l)) := by
  unfold unit
  split
  · rename_i h
    cases l with
    | nil => exact absurd h (by decide)
    | cons c r => right; left; rw [at0] at h; rw [h]; rfl
  · by_cases h : 0 < name l
    · exact .inr (.inr (name_take h))
    · left; rw [show name l = 0 by omega]; rfl
theorem unit_le (l : List UInt8) : unit l ≤ l.length := by
  unfold unit
  split
  · rename_i h
    cases l with
    | nil => exact absurd h (by decide)
    | cons c r => simp
  · exact name_le l
theorem number_good (neg : Bool) (l : List UInt8) : Good (number neg l).1 := by
  have hb := num_bound (l := l) (n := 0) (by omega) (by omega)
  unfold number
  refine .num _ _ ?_ ?_ (unit_good _)
  · cases neg <;> simp <;> omega
  · cases neg <;> simp <;> omega
theorem number_le (neg : Bool) (l : List UInt8) : (number neg l).2 ≤ l.length := by
  unfold number
  have h1 := run_le (p := digit) l
  have h2 := unit_le (l.drop (run digit l))
  simp only [List.length_drop] at h2
  simp only; omega
theorem number_pos (neg : Bool) (l : List UInt8) (h : digit (at0 l) = true) : 1 ≤ (number neg l).2 := by
  unfold number
  have := (run_pos_iff (y := l) digit_zero).2 h
  simp only; omega
theorem step_good {c : UInt8} {r : List UInt8} {t : Tok} (h : (step c r).1 = some t) : Good t := by
  unfold step at h
  split at h
  · cases h
  split at h
  · cases h; exact .white
  split at h
  · rename_i hq
    cases h
    obtain ⟨n, hn⟩ := Option.isSome_iff_exists.1 hq.2
    rw [hn]
    exact .str _ c hq.1 (inner_take hn)
  split at h
  · rename_i hq
    cases h
    exact .hash _ (fun e => by
      have h1 := congrArg List.length e
      rw [List.length_take, List.length_nil] at h1
      have h2 := run_le (p := within) r
      have h3 := hq.2
      omega) (run_take r)
  split at h
  · rename_i hq
    cases h
    exact .word _ (name_take hq.2)
  split at h
  · cases h; exact number_good _ _
  split at h
  · cases h; exact number_good _ _
  split at h
  · rename_i hn
    split at h
    · cases h; exact .func _ (name_take hn)
    · cases h; exact .ident _ (name_take hn)
  · rename_i h1 h2 h3 h4 h5 h6 h7 h8
    cases h
    refine .delim c ?_ (by simpa using h6) (by simpa using h2)
    cases hb : begins c
    · rfl
    · exact absurd (name_pos_iff.2 (show nameB (c :: r) = true by simp [nameB, at0, hb])) h8
theorem step_pos (c : UInt8) (r : List UInt8) : 1 ≤ (step c r).2 := by
  unfold step
  split
  · have := comment_pos r.tail; simp only; omega
  split
  · rename_i h; exact run_pos h
  split
  · rename_i h
    obtain ⟨n, hn⟩ := Option.isSome_iff_exists.1 h.2
    simp only; omega
  split
  · simp only; omega
  split
  · simp only; omega
  split
  · rename_i h; exact number_pos false (c :: r) h
  split
  · simp only; omega
  split
  · split <;> simp only <;> omega
  · exact Nat.le_refl _
theorem comment_le {r : List UInt8} : comment r ≤ r.length + 2 := by
  unfold comment
  split
  · rename_i n h; have := shut_le h; omega
  · omega
theorem step_le (c : UInt8) (r : List UInt8) : (step c r).2 ≤ (c :: r).length := by
  unfold step
  split
  · rename_i h
    have := comment_le (r := r.tail)
    cases r with
    | nil => exact absurd h.2 (by decide)
    | cons d r => simp only [List.tail_cons, List.length_cons] at *; omega
  split
  · exact run_le _
  split
  · rename_i h
    obtain ⟨n, hn⟩ := Option.isSome_iff_exists.1 h.2
    have := inner_le hn
    rw [hn]; simp; omega
  split
  · have := run_le (p := within) r; simp; omega
  split
  · have := name_le r; simp; omega
  split
  · exact number_le false _
  split
  · have := number_le true r; simp; omega
  split
  · rename_i h
    split
    · rename_i h40
      have h1 := name_le (c :: r)
      have : name (c :: r) ≠ (c :: r).length := fun e => by
        rw [e, List.drop_length] at h40; exact absurd h40 (by decide)
      simp only; omega
    · exact name_le _
  · simp
theorem allN_eq : ∀ (k j : Nat) (l : List UInt8), l.length ≤ k → l.length ≤ j → allN k l = allN j l := by
  intro k
  induction k with
  | zero =>
    intro j l h _
    obtain rfl : l = [] := List.length_eq_zero_iff.1 (by omega)
    cases j <;> rfl
  | succ k ih =>
    intro j l hk hj
    cases l with
    | nil => cases j <;> rfl
    | cons c r =>
      cases j with
      | zero => simp at hj
      | succ j =>
        have hp := step_pos c r
        have hd : ((c :: r).drop (step c r).2).length ≤ r.length := by rw [List.length_drop]; simp; omega
        simp only [List.length_cons] at hk hj
        rw [allN, allN, ih j _ (by omega) (by omega)]
theorem all_nil : all [] = [] := rfl
theorem all_cons (c : UInt8) (r : List UInt8) : all (c :: r) = (step c r).1.toList ++ all ((c :: r).drop (step c r).2) := by
  have hp := step_pos c r
  have hd : ((c :: r).drop (step c r).2).length ≤ r.length := by rw [List.length_drop]; simp; omega
  rw [all, List.length_cons, allN]
  rw [allN_eq r.length _ _ hd (Nat.le_refl _), ← all]
theorem all_ind {Q : List UInt8 → Prop} (h0 : Q []) (h1 : ∀ c r, Q ((c :: r).drop (step c r).2) → Q (c :: r)) : ∀ l, Q l := by
  have : ∀ (k : Nat) (l : List UInt8), l.length ≤ k → Q l := by
    intro k
    induction k with
    | zero => intro l h; obtain rfl : l = [] := List.length_eq_zero_iff.1 (by omega); exact h0
    | succ k ih =>
      intro l h
      cases l with
      | nil => exact h0
      | cons c r =>
        have hp := step_pos c r
        exact h1 c r (ih _ (by rw [List.length_drop]; simp at *; omega))
  exact fun l => this l.length l (Nat.le_refl _)
theorem all_good (l : List UInt8) : ∀ t ∈ all l, Good t := by
  refine all_ind (Q := fun l => ∀ t ∈ all l, Good t) (fun t h => by simp [all_nil] at h) (fun c r ih t ht => ?_) l
  rw [all_cons] at ht
  rcases List.mem_append.1 ht with ht | ht
  · exact step_good (by simpa [Option.mem_toList] using ht)
  · exact ih t ht
theorem at0_cons (c : UInt8) (r : List UInt8) : at0 (c :: r) = c := rfl
def sep (t : Tok) (y : List UInt8) : Prop :=
  (t.kind = 1 → within (at0 y) = false ∧ at0 y ≠ 40) ∧
  (t.kind = 3 ∨ t.kind = 4 → within (at0 y) = false) ∧
  (t.kind = 5 → (t.text = [] → digit (at0 y) = false ∧ at0 y ≠ 37 ∧ nameB y = false) ∧ (isName t.text → within (at0 y) = false)) ∧
  (t.kind = 8 → blank (at0 y) = false) ∧
  (t.kind = 7 → (t.text = [47] → at0 y ≠ 42) ∧ (t.text = [35] → within (at0 y) = false) ∧ (t.text = [64] → nameB y = false) ∧ (t.text = [45] → digit (at0 y) = false ∧ nameB (45 :: y) = false))
theorem nameB_head {c : UInt8} {y : List UInt8} (h : at0 y = c) (hc : within c = false) : nameB y = false := by
  cases hn : nameB y
  · rfl
  · have := nameB_within hn; rw [h, hc] at this; cases this
theorem nameB_dash {y : List UInt8} (h : begins (at0 y) = false) (h2 : at0 y ≠ 45) : nameB (45 :: y) = false := by
  have e : nameB (45 :: y) = (begins 45 || ((45 : UInt8) == 45 && (begins (at0 y) || at0 y == 45))) := rfl
  rw [e, h, beq_eq_false_iff_ne.2 h2]; decide
theorem sep_sign {y : List UInt8} {c : UInt8} (h : at0 y = c) (t : Tok) (h1 : within c = false) (h2 : blank c = false) (h3 : c ≠ 40) (h4 : c ≠ 37) (h5 : c ≠ 42) : sep t y := by
  have hb : begins c = false := by simp only [within, Bool.or_eq_false_iff] at h1; exact h1.1.1
  have hd : digit c = false := by simp only [within, Bool.or_eq_false_iff] at h1; exact h1.1.2
  have h45 : c ≠ 45 := fun e => by rw [e] at h1; revert h1; decide
  have hn := nameB_head h h1
  unfold sep
  rw [h]
  exact ⟨fun _ => ⟨h1, h3⟩, fun _ => h1, fun _ => ⟨fun _ => ⟨hd, h4, hn⟩, fun _ => h1⟩, fun _ => h2, fun _ => ⟨fun _ => h5, fun _ => h1, fun _ => hn, fun _ => ⟨hd, nameB_dash (by rw [h]; exact hb) (by rw [h]; exact h45)⟩⟩⟩
theorem sep_nil (t : Tok) : sep t [] := sep_sign (c := 0) rfl t (by decide) (by decide) (by decide) (by decide) (by decide)
theorem nameB_cases {c : UInt8} {r : List UInt8} (h : nameB (c :: r) = true) : begins c = true ∨ c = 45 ∧ (begins (at0 r) = true ∨ at0 r = 45) := by
  simpa [nameB, at0] using h
theorem step_name {c : UInt8} {r : List UInt8} (h : nameB (c :: r) = true) : step c r =
    if at0 ((c :: r).drop (name (c :: r))) = 40 then (some ⟨2, (c :: r).take (name (c :: r)), 0⟩, name (c :: r) + 1)
    else (some ⟨1, (c :: r).take (name (c :: r)), 0⟩, name (c :: r)) := by
  have hw : within c = true := nameB_within h
  have hne : ∀ d, within d = false → c ≠ d := fun d hd => within_ne hw hd
  have hdig : digit c = false := by
    rcases nameB_cases h with hb | ⟨rfl, _⟩
    · exact begins_digit hb
    · decide
  have h45 : ¬ (c = 45 ∧ digit (at0 r) = true) := by
    rintro ⟨rfl, hd⟩
    rcases nameB_cases h with hb | ⟨_, hb | hb⟩
    · exact absurd hb (by decide)
    · rw [begins_digit hb] at hd; cases hd
    · rw [hb] at hd; revert hd; decide
  unfold step
  rw [if_neg (fun e => hne 47 (by decide) e.1), if_neg (by simp [within_blank hw]), if_neg (fun e => by
    rcases e.1 with e | e
    · exact hne 34 (by decide) e
    · exact hne 39 (by decide) e), if_neg (fun e => hne 35 (by decide) e.1), if_neg (fun e => hne 64 (by decide) e.1), if_neg (by simp [hdig]), if_neg h45, if_pos (name_pos_iff.2 h)]
theorem step_number {c : UInt8} {r : List UInt8} (h : digit c = true) : step c r = (some (number false (c :: r)).1, (number false (c :: r)).2) := by
  have hne : ∀ d, digit d = false → c ≠ d := fun d hd => digit_ne h hd
  unfold step
  rw [if_neg (fun e => hne 47 (by decide) e.1), if_neg (by simp [digit_blank h]), if_neg (fun e => by
    rcases e.1 with e | e
    · exact hne 34 (by decide) e
    · exact hne 39 (by decide) e), if_neg (fun e => hne 35 (by decide) e.1), if_neg (fun e => hne 64 (by decide) e.1), if_pos h]
theorem step_minus {r : List UInt8} (h : digit (at0 r) = true) : step 45 r = (some (number true r).1, (number true r).2 + 1) := by
  unfold step
  rw [if_neg (fun e => absurd e.1 (by decide)), if_neg (by decide), if_neg (by simp), if_neg (by simp), if_neg (by simp), if_neg (by decide), if_pos ⟨rfl, h⟩]
theorem number_app (neg : Bool) {u : Nat} (hu : u ≤ 999999999) {z : List UInt8} (hz : digit (at0 z) = false) : number neg (Lib.decDigits u ++ z) = (⟨5, z.take (unit z), if neg then -(u : Int) else u⟩, (Lib.decDigits u).length + unit z) := by
  have hd := dec_digits u u (Nat.le_refl _)
  unfold number
  rw [run_word hd hz, List.drop_left, num_app hd, dec_num u u (Nat.le_refl _) hu, num_stop hz]
theorem unit_zero {y : List UInt8} (h1 : at0 y ≠ 37) (h2 : nameB y = false) : unit y = 0 := by rw [unit, if_neg h1, name_zero h2]
theorem unit_name {x y : List UInt8} (h : isName x) (hy : within (at0 y) = false) : unit (x ++ y) = x.length := by
  have : at0 (x ++ y) ≠ 37 := by
    rw [at0_app (isName_ne h)]
    exact within_ne (nameB_within h.1) (by decide)
  rw [unit, if_neg this, name_app h hy]
theorem name_nodigit {x : List UInt8} (h : nameB x = true) : digit (at0 x) = false := by
  cases x with
  | nil => rfl
  | cons c r =>
    rcases nameB_cases h with hb | ⟨rfl, _⟩
    · exact begins_digit hb
    · rw [at0_cons]; decide
theorem unit_sep {x y : List UInt8} {n : Int} (hx : x = [] ∨ x = [37] ∨ isName x) (hs : sep ⟨5, x, n⟩ y) : digit (at0 (x ++ y)) = false ∧ unit (x ++ y) = x.length := by
  obtain ⟨_, _, h5, _, _⟩ := hs
  obtain ⟨h6, h7⟩ := h5 rfl
  rcases hx with rfl | rfl | hx
  · obtain ⟨a, b, c⟩ := h6 rfl
    exact ⟨a, unit_zero b c⟩
  · exact ⟨by show digit 37 = false; decide, rfl⟩
  · exact ⟨by rw [at0_app (isName_ne hx)]; exact name_nodigit hx.1, unit_name hx (h7 hx)⟩
theorem one_num (x : List UInt8) (n : Int) : oneS ⟨5, x, n⟩ = Lib.itoa n ++ x := rfl
theorem all_num {x y : List UInt8} {n : Int} (h1 : -999999999 ≤ n) (h2 : n ≤ 999999999) (hd : digit (at0 (x ++ y)) = false) (hu : unit (x ++ y) = x.length) : all (Lib.itoa n ++ (x ++ y)) = ⟨5, x, n⟩ :: all y := by
  by_cases hn : n < 0
  · have e : Lib.itoa n = 45 :: Lib.decDigits n.natAbs := by unfold Lib.itoa; rw [if_pos hn]
    have hh : digit (at0 (Lib.decDigits n.natAbs ++ (x ++ y))) = true := by
      rw [at0_app (dec_ne _)]
      cases hl : Lib.decDigits n.natAbs with
      | nil => exact absurd hl (dec_ne _)
      | cons c r => exact dec_digits _ _ (Nat.le_refl _) c (by rw [hl]; simp)
    rw [e, List.cons_append, all_cons, step_minus hh, number_app true (by omega) hd, hu]
    simp only [Option.toList_some, List.drop_succ_cons, List.cons_append, List.nil_append, if_true]
    rw [← List.drop_drop, List.drop_left, List.drop_left, List.take_left]
    rw [show -((n.natAbs : Nat) : Int) = n by omega]
  · have e : Lib.itoa n = Lib.decDigits n.toNat := by unfold Lib.itoa; rw [if_neg hn]
    rw [e]
    cases hl : Lib.decDigits n.toNat with
    | nil => exact absurd hl (dec_ne _)
    | cons c r =>
      have hc : digit c = true := dec_digits _ _ (Nat.le_refl _) c (by rw [hl]; simp)
      rw [List.cons_append, all_cons, step_number hc, ← List.cons_append, ← hl, number_app false (by omega) hd, hu]
      simp only [Option.toList_some, List.cons_append, List.nil_append, Bool.false_eq_true, if_false]
      rw [← List.drop_drop, List.drop_left, List.drop_left, List.take_left]
      rw [show ((n.toNat : Nat) : Int) = n by omega]
theorem all_line (y : List UInt8) : all (47 :: 42 :: 10 :: 42 :: 47 :: y) = all y := by
  rw [all_cons]
  rfl
theorem all_quote {q : UInt8} (h : q = 34 ∨ q = 39) (y : List UInt8) : all (q :: 47 :: 42 :: 10 :: 42 :: 47 :: y) = ⟨7, [q], 0⟩ :: all y := by
  have hi : inner q (47 :: 42 :: 10 :: 42 :: 47 :: y) = none := by rcases h with rfl | rfl <;> rfl
  have e : step q (47 :: 42 :: 10 :: 42 :: 47 :: y) = (some ⟨7, [q], 0⟩, 1) := by
    unfold step
    rcases h with rfl | rfl <;> (rw [hi]; rfl)
  rw [all_cons, e]
  simp only [Option.toList_some, List.drop_succ_cons, List.drop_zero, List.cons_append, List.nil_append, all_line]
theorem step_delim {c : UInt8} {y : List UInt8} (h1 : begins c = false) (h2 : digit c = false) (h3 : blank c = false) (h34 : c ≠ 34) (h39 : c ≠ 39) (hs : sep ⟨7, [c], 0⟩ y) : step c y = (some ⟨7, [c], 0⟩, 1) := by
  obtain ⟨_, _, _, _, h7⟩ := hs
  obtain ⟨a, b, d, e⟩ := h7 rfl
  unfold step
  rw [if_neg (fun x => a (by rw [x.1]) x.2), if_neg (by simp [h3]), if_neg (fun x => by rcases x.1 with x | x <;> contradiction),
    if_neg (fun x => by have := (run_pos_iff within_zero).1 x.2; rw [b (by rw [x.1])] at this; cases this),
    if_neg (fun x => by have := name_pos_iff.1 x.2; rw [d (by rw [x.1])] at this; cases this),
    if_neg (by simp [h2]), if_neg (fun x => by have := (e (by rw [x.1])).1; rw [x.2] at this; cases this), if_neg]
  intro x
  have hn := name_pos_iff.1 x
  rcases nameB_cases hn with hb | ⟨rfl, _⟩
  · rw [h1] at hb; cases hb
  · rw [(e rfl).2] at hn; cases hn
theorem one_delim {c : UInt8} (h34 : c ≠ 34) (h39 : c ≠ 39) : oneS ⟨7, [c], 0⟩ = [c] := by simp [oneS, h34, h39]
theorem all_one {t : Tok} {y : List UInt8} (h : Good t) (hs : sep t y) : all (oneS t ++ y) = t :: all y := by
  cases h with
  | ident x hx =>
    have e1 : oneS ⟨1, x, 0⟩ = x := rfl
    obtain ⟨hw, h40⟩ := hs.1 rfl
    have hn := name_app hx hw
    have hb := nameB_app (y := y) hx.1
    rw [e1]
    cases x with
    | nil => exact absurd rfl (isName_ne hx)
    | cons c r =>
      rw [List.cons_append] at hn hb ⊢
      rw [all_cons, step_name hb, hn, ← List.cons_append, List.drop_left, List.take_left, if_neg h40]
      simp only [Option.toList_some, List.cons_append, List.nil_append]
      rw [← List.cons_append, List.drop_left]
  | func x hx =>
    have e1 : oneS ⟨2, x, 0⟩ = x ++ [40] := rfl
    have hn := name_app (y := 40 :: y) hx (by rw [at0_cons]; decide)
    have hb := nameB_app (y := 40 :: y) hx.1
    rw [e1, List.append_assoc, List.cons_append, List.nil_append]
    cases x with
    | nil => exact absurd rfl (isName_ne hx)
    | cons c r =>
      rw [List.cons_append] at hn hb ⊢
      rw [all_cons, step_name hb, hn, ← List.cons_append, List.drop_left, List.take_left, if_pos (at0_cons 40 y)]
      simp only [Option.toList_some, List.cons_append, List.nil_append]
      rw [← List.cons_append, ← List.drop_drop, List.drop_left]
      rfl
  | word x hx =>
    have e1 : oneS ⟨3, x, 0⟩ = 64 :: x := rfl
    have hw := hs.2.1 (.inl rfl)
    have hn := name_app hx hw
    have e : step 64 (x ++ y) = (some ⟨3, x, 0⟩, x.length + 1) := by
      unfold step
      rw [if_neg (fun e => absurd e.1 (by decide)), if_neg (by decide), if_neg (by simp), if_neg (by simp), if_pos ⟨rfl, by rw [hn]; exact isName_len hx⟩, hn, List.take_left]
    rw [e1, List.cons_append, all_cons, e]
    simp only [Option.toList_some, List.drop_succ_cons, List.drop_left, List.cons_append, List.nil_append]
  | hash x hne hx =>
    have e1 : oneS ⟨4, x, 0⟩ = 35 :: x := rfl
    have hw := hs.2.1 (.inr rfl)
    have hn := run_word hx hw
    have e : step 35 (x ++ y) = (some ⟨4, x, 0⟩, x.length + 1) := by
      unfold step
      rw [if_neg (fun e => absurd e.1 (by decide)), if_neg (by decide), if_neg (by simp), if_pos ⟨rfl, by rw [hn]; exact List.length_pos_iff.2 hne⟩, hn, List.take_left]
    rw [e1, List.cons_append, all_cons, e]
    simp only [Option.toList_some, List.drop_succ_cons, List.drop_left, List.cons_append, List.nil_append]
  | num x n h1 h2 hx =>
    obtain ⟨hd, hu⟩ := unit_sep hx hs
    rw [one_num, List.append_assoc]
    exact all_num h1 h2 hd hu
  | str x q hq hx =>
    have e1 : oneS ⟨6, x, q.toNat⟩ = q :: (x ++ [q]) := by rcases hq with rfl | rfl <;> rfl
    have hi := inner_app (y := y) hx
    have e : step q (x ++ q :: y) = (some ⟨6, x, q.toNat⟩, x.length + 2) := by
      unfold step
      rw [if_neg (fun e => by rcases hq with rfl | rfl <;> exact absurd e.1 (by decide)), if_neg (by rcases hq with rfl | rfl <;> decide), if_pos ⟨hq, by rw [hi]; rfl⟩, hi]
      simp only [Option.getD_some, List.take_left]
    rw [e1, List.cons_append, List.append_assoc, List.cons_append, List.nil_append, all_cons, e]
    simp only [Option.toList_some, List.drop_succ_cons, List.cons_append, List.nil_append]
    rw [← List.drop_drop, List.drop_left]
    rfl
  | delim c h1 h2 h3 =>
    by_cases hq : c = 34 ∨ c = 39
    · have e1 : oneS ⟨7, [c], 0⟩ = [c, 47, 42, 10, 42, 47] := by rcases hq with rfl | rfl <;> rfl
      rw [e1]
      exact all_quote hq y
    · rw [not_or] at hq
      rw [one_delim hq.1 hq.2, List.cons_append, List.nil_append, all_cons, step_delim h1 h2 h3 hq.1 hq.2 hs]
      simp only [Option.toList_some, List.drop_succ_cons, List.drop_zero, List.cons_append, List.nil_append]
  | white =>
    have hw := hs.2.2.2.1 rfl
    have e1 : oneS ⟨8, [10], 0⟩ = [10] := rfl
    have hr : run blank (10 :: y) = 1 := by rw [run, if_pos (by decide), run_zero hw]
    have e : step 10 y = (some ⟨8, [10], 0⟩, 1) := by
      unfold step
      rw [if_neg (fun e => absurd e.1 (by decide)), if_pos (by decide), hr]
    rw [e1, List.cons_append, List.nil_append, all_cons, e]
    simp only [Option.toList_some, List.drop_succ_cons, List.drop_zero, List.cons_append, List.nil_append]
theorem good_all {t : Tok} (h : Good t) : all (oneS t) = [t] := by
  have := all_one h (sep_nil t)
  rw [List.append_nil, all_nil] at this
  exact this
theorem may_iff {t : Tok} : may t = true ↔ Good t := by
  unfold may
  rw [decide_eq_true_eq]
  exact ⟨fun h => all_good _ t (by rw [h]; simp), good_all⟩
end Go.Abs.Tk
namespace Go.Abs.Tk
open Go
theorem all_len (l : List UInt8) : (all l).length ≤ l.length := by
  refine all_ind (Q := fun l => (all l).length ≤ l.length) (Nat.le_refl _) (fun c r ih => ?_) l
  rw [all_cons, List.length_append]
  have h1 := step_pos c r
  have h2 := step_le c r
  have h3 : (step c r).1.toList.length ≤ 1 := by cases (step c r).1 <;> simp
  rw [List.length_drop] at ih
  simp only [List.length_cons] at *
  omega
section both
variable {R R' : List UInt8}
end both
end Go.Abs.Tk
namespace Go.Abs
open Go
theorem size_mem : ∀ {l : List Val} {k : Int} {t : Tok} {l' : List Val}, Val.mk k t l' ∈ l → Ne.size l' < Ne.size l
  | v :: l, k, t, l', h => by
    rw [Ne.size]
    rcases List.mem_cons.1 h with rfl | h
    · rw [Ne.sizeV]; omega
    · have := size_mem h; omega
theorem ind_list {Q : List Val → Prop} (h : ∀ l, (∀ k t l', Val.mk k t l' ∈ l → Q l') → Q l) (l : List Val) : Q l := by
  have key : ∀ (m : Nat) (l : List Val), Ne.size l ≤ m → Q l := by
    intro m
    induction m with
    | zero =>
      intro l hl
      refine h l fun k t l' hm => ?_
      have := size_mem hm; omega
    | succ m ih =>
      intro l hl
      refine h l fun k t l' hm => ih l' ?_
      have := size_mem hm; omega
  exact key _ l (Nat.le_refl _)
theorem fewL_cons (deep left : Int) (k : Int) (t : Tok) (l r : List Val) : Ne.fewL deep left (.mk k t l :: r) =
    if left < 0 then left else if 100 < t.text.length then -1 else Ne.fewL deep (if 0 ≤ left - 1 ∧ l.isEmpty = false then Ne.few (deep - 1) (left - 1) l else left - 1) r := by
  rw [Ne.fewL, Ne.fewV]
  rfl
theorem few_bound : ∀ (l : List Val) (deep left : Int), -1 ≤ left → -1 ≤ Ne.fewL deep left l ∧ Ne.fewL deep left l ≤ left ∧ (0 ≤ left → -1 ≤ Ne.few deep left l ∧ Ne.few deep left l ≤ left) := by
  have key : ∀ (l : List Val), (∀ k t l', Val.mk k t l' ∈ l → ∀ deep left : Int, -1 ≤ left → -1 ≤ Ne.fewL deep left l' ∧ Ne.fewL deep left l' ≤ left) → ∀ deep left : Int, -1 ≤ left → -1 ≤ Ne.fewL deep left l ∧ Ne.fewL deep left l ≤ left := by
    intro l
    induction l with
    | nil => intro _ deep left h; rw [Ne.fewL]; omega
    | cons v r ih =>
      obtain ⟨k, t, l⟩ := v
      intro hin deep left h
      rw [fewL_cons]
      split
      · omega
      · split
        · omega
        · have hr := ih (fun k t l' hm => hin k t l' (by simp [hm])) deep
          split
          · have h1 := hin k t l (by simp) (deep - 1) (left - 1) (by omega)
            have h2 : -1 ≤ Ne.few (deep - 1) (left - 1) l ∧ Ne.few (deep - 1) (left - 1) l ≤ left - 1 := by
              unfold Ne.few
              split <;> omega
            have := hr _ h2.1
            omega
          · have := hr (left - 1) (by omega)
            omega
  intro l deep left h
  have hl : ∀ deep left : Int, -1 ≤ left → -1 ≤ Ne.fewL deep left l ∧ Ne.fewL deep left l ≤ left := ind_list (fun l hin => key l hin) l
  have h1 := hl deep left h
  refine ⟨h1.1, h1.2, fun h0 => ?_⟩
  unfold Ne.few
  split
  · omega
  · exact h1
theorem parse_len {left : Nat} {l : List Tok} {x : List Val × List Tok} (h : Ne.until_ 0 left l = some x) : Ne.size x.1 ≤ l.length := by
  have : Ne.parse left l = some x.1 := by unfold Ne.parse; rw [h]; rfl
  exact (Ne.parse_good this).2.2.1
def TokOk (t : Tok) : Prop := I64 t.n ∧ t.text.length < 1000000000
mutual
def Ne.allV (p : Tok → Prop) : Val → Prop
  | .mk _ t l => p t ∧ Ne.allT p l
def Ne.allT (p : Tok → Prop) : List Val → Prop
  | [] => True
  | v :: l => Ne.allV p v ∧ Ne.allT p l
end
mutual
theorem Ne.allV_and {p q : Tok → Prop} : ∀ v : Val, Ne.allV p v → Ne.allV q v → Ne.allV (fun t => p t ∧ q t) v
  | .mk _ t l, h, k => by
    rw [Ne.allV] at h k ⊢
    exact ⟨⟨h.1, k.1⟩, Ne.allT_and l h.2 k.2⟩
theorem Ne.allT_and {p q : Tok → Prop} : ∀ l : List Val, Ne.allT p l → Ne.allT q l → Ne.allT (fun t => p t ∧ q t) l
  | [], _, _ => by rw [Ne.allT]; trivial
  | v :: l, h, k => by
    rw [Ne.allT] at h k ⊢
    exact ⟨Ne.allV_and v h.1 k.1, Ne.allT_and l h.2 k.2⟩
end
mutual
theorem Ne.flatV_all {p : Tok → Prop} (hd : ∀ c : UInt8, p ⟨7, [c], 0⟩) : ∀ v : Val, Ne.allV p v → ∀ t ∈ Ne.flatV v, p t
  | .mk k t l, h => by
    rw [Ne.allV] at h
    rw [Ne.flatV]
    intro x hx
    split at hx
    · obtain rfl : x = t := by simpa using hx
      exact h.1
    · split at hx
      · simp only [List.mem_cons, List.mem_append, List.not_mem_nil, or_false] at hx
        rcases hx with rfl | hx | rfl
        · exact h.1
        · exact Ne.flat_all hd l h.2 x hx
        · exact hd _
      · split at hx
        · simp only [List.mem_cons, List.mem_append, List.not_mem_nil, or_false] at hx
          rcases hx with rfl | hx | rfl
          · exact hd _
          · exact Ne.flat_all hd l h.2 x hx
          · exact hd _
        · cases hx
theorem Ne.flat_all {p : Tok → Prop} (hd : ∀ c : UInt8, p ⟨7, [c], 0⟩) : ∀ l : List Val, Ne.allT p l → ∀ t ∈ Ne.flat l, p t
  | [], _ => by rw [Ne.flat]; intro t ht; cases ht
  | v :: l, h => by
    rw [Ne.allT] at h
    rw [Ne.flat]
    intro t ht
    rcases List.mem_append.1 ht with ht | ht
    · exact Ne.flatV_all hd v h.1 t ht
    · exact Ne.flat_all hd l h.2 t ht
end
theorem fewL_facts (l : List Val) : ∀ (deep left : Int), 0 ≤ Ne.fewL deep left l → (Ne.size l : Int) ≤ left - Ne.fewL deep left l ∧ Ne.allT (fun t => t.text.length ≤ 100) l := by
  have key : ∀ (l : List Val), (∀ k t l', Val.mk k t l' ∈ l → ∀ deep left : Int, 0 ≤ Ne.fewL deep left l' → (Ne.size l' : Int) ≤ left - Ne.fewL deep left l' ∧ Ne.allT (fun t => t.text.length ≤ 100) l') →
      ∀ deep left : Int, 0 ≤ Ne.fewL deep left l → (Ne.size l : Int) ≤ left - Ne.fewL deep left l ∧ Ne.allT (fun t => t.text.length ≤ 100) l := by
    intro l
    induction l with
    | nil =>
      intro _ deep left h
      rw [Ne.fewL, Ne.size, Ne.allT]
      exact ⟨by omega, trivial⟩
    | cons v r ih =>
      obtain ⟨k, t, l⟩ := v
      intro hin deep left h
      rw [fewL_cons] at h ⊢
      rw [Ne.size, Ne.sizeV, Ne.allT, Ne.allV]
      split at h
      · omega
      · rename_i h0
        rw [if_neg h0]
        split at h
        · omega
        · rename_i h1
          rw [if_neg h1]
          have hr := ih (fun k t l' hm => hin k t l' (by simp [hm])) deep _ h
          split at h
          · rename_i h2
            rw [if_pos h2] at hr ⊢
            have hnext : 0 ≤ Ne.few (deep - 1) (left - 1) l := by omega
            have hf : Ne.few (deep - 1) (left - 1) l = Ne.fewL (deep - 1) (left - 1) l := by
              unfold Ne.few at hnext ⊢
              split at hnext
              · omega
              · rename_i h3; rw [if_neg h3]
            rw [hf] at hnext hr ⊢
            have hl := hin k t l (by simp) (deep - 1) (left - 1) hnext
            exact ⟨by omega, ⟨by omega, hl.2⟩, hr.2⟩
          · rename_i h2
            rw [if_neg h2] at hr ⊢
            have hn : 0 ≤ left - 1 := by omega
            have hl : l = [] := by
              cases l with
              | nil => rfl
              | cons a b => exact absurd ⟨hn, rfl⟩ h2
            subst hl
            rw [Ne.size, Ne.allT]
            exact ⟨by omega, ⟨by omega, trivial⟩, hr.2⟩
  exact ind_list (Q := fun l => ∀ (deep left : Int), 0 ≤ Ne.fewL deep left l → (Ne.size l : Int) ≤ left - Ne.fewL deep left l ∧ Ne.allT (fun t => t.text.length ≤ 100) l) (fun l hin => key l hin) l
theorem few_facts {l : List Val} {deep left : Int} (h : 0 ≤ Ne.few deep left l) : (Ne.size l : Int) ≤ left ∧ Ne.allT (fun t => t.text.length ≤ 100) l := by
  unfold Ne.few at h
  split at h
  · omega
  · have := fewL_facts l deep left h
    exact ⟨by omega, this.2⟩
theorem delim_ok (c : UInt8) : TokOk ⟨7, [c], 0⟩ := ⟨by simp [I64], by simp⟩
theorem flat_ok {l : List Val} (h1 : Ne.allT (fun t => I64 t.n) l) (h2 : Ne.allT (fun t => t.text.length ≤ 100) l) : ∀ t ∈ Ne.flat l, TokOk t :=
  Ne.flat_all delim_ok l (by
    have h := Ne.allT_and l h1 h2
    have key : ∀ l : List Val, Ne.allT (fun t => I64 t.n ∧ t.text.length ≤ 100) l → Ne.allT TokOk l := by
      intro l
      refine ind_list (Q := fun l => Ne.allT (fun t => I64 t.n ∧ t.text.length ≤ 100) l → Ne.allT TokOk l) (fun l hin => ?_) l
      induction l with
      | nil => intro _; rw [Ne.allT]; trivial
      | cons v r ih =>
        obtain ⟨k, t, l'⟩ := v
        intro h
        rw [Ne.allT, Ne.allV] at h ⊢
        exact ⟨⟨⟨h.1.1.1, by have := h.1.1.2; omega⟩, hin k t l' (by simp) h.1.2⟩, ih (fun k t l' hm => hin k t l' (by simp [hm])) h.2⟩
    exact key l h)
theorem same_refl (l : List Val) : Ne.same l l = true := (Ne.same_iff l l).2 rfl
end Go.Abs
namespace Go.Abs
open Go Go.Proofs
set_option maxRecDepth 10000
attribute [local go_sem] exL_seq exL_region exL_cond exL_block exL_scope exL_ret exL_skip exL_exit runRegion runOps stepOp guardA absOp takeOver opd avOf cvOf St.degAt St.put okPV okVal okAV absBin intBin strBin boolBin setBoxes if_true Bool.false_eq_true if_false Option.map_some Option.map_none Option.bind_some Option.bind_none thenO outOf upd List.toList_toArray isOwn steal appArgs mvB inApps AV.deg CV.deg AV.gv AV.isIter absNext some_bne some_beqN List.length_nil List.length_cons List.filterMap_cons List.filterMap_nil beq_iff_eq List.getElem?_cons_zero List.getElem?_cons_succ Option.getD_some K_hook hookB Bool.false_and Bool.and_false Bool.and_self K_P K_own absCall doCall getBoxes lend back idx dedup AV.ren CV.ren TV.ren AV.ptrs CV.ptrs zipBox AV.flat CV.flat absLoad absStore cellsOfAV setAt newBox markB bldTypes absFieldAddr absField absExtract absAssert noAssert absMkIface ifcOf CV.pv? content pushHead ownT fillCells reps pvs chunks enterSt leave resOf resVars resVar outBoxes lentOnly TV.deg TV.av LK CV.plain CV.noBld nilBin absUn bound List.map_cons List.map_nil List.all_cons List.all_nil List.any_cons List.any_nil List.contains_cons List.contains_nil List.elem_cons List.elem_nil List.cons_append List.nil_append List.append_nil List.flatMap_cons List.flatMap_nil List.zip_cons_cons List.zip_nil_left List.zip_nil_right List.take_succ_cons List.take_zero List.take_nil List.drop_succ_cons List.drop_zero List.drop_nil List.isEmpty_nil List.isEmpty_cons Bool.and_true Bool.true_and Bool.or_true Bool.true_or Bool.or_false Bool.false_or Bool.not_true Bool.not_false Nat.add_zero Nat.zero_add Option.isNone_none Option.isNone_some Option.getD_none true_and and_true not_true_eq_false not_false_eq_true decide_true decide_false Nat.le_refl and_self Bool.not_eq_true Nat.sub_self or_true true_or Option.some.injEq List.length_map List.nil_eq and_false false_and AV.live CV.live CV.liveIn K_keep firstReg Option.orElse_some Option.orElse_none head keepSlots keepBoxes Int.lt_irrefl List.length_append ite_self memOK logOps opKey lentBoxes Key.clash Key.sees Key.writes Nat.lt_irrefl gt_iff_lt nobox_at bot_at false_or or_false beq_self_eq_true Bool.true_beq Bool.false_beq
theorem tok_eq (k k' n n' : Int) (t t' : List UInt8) : structEq Tryz.prog 47 [.int .i64 k, .str t, .int .i64 n] [.int .i64 k', .str t', .int .i64 n'] = some ((k == k') && ((t == t') && ((n == n') && true))) := by kernel_rfl
theorem tok_beq (a b : Tok) : ((a.kind == b.kind) && ((a.text == b.text) && ((a.n == b.n) && true))) = decide (a = b) := by
  obtain ⟨k, t, n⟩ := a
  obtain ⟨k', t', n'⟩ := b
  rw [Bool.eq_iff_iff, decide_eq_true_eq]
  simp [Tok.mk.injEq]
def lenOk (n : Nat) : Prop := n < 9000000000000000000
theorem enc_at (l : List Tok) (i : Nat) (t : Tok) (h : l[i]? = some t) : (l.map Tok.enc)[(i : Int).toNat]? = some [.int .i64 t.kind, .str t.text, .int .i64 t.n] := by
  simp [h, Tok.enc]
end Go.Abs
namespace Go.Abs
open Go Go.Proofs
set_option maxRecDepth 10000
attribute [local go_sem] exL_seq exL_region exL_cond exL_block exL_scope exL_ret exL_skip exL_exit runRegion runOps stepOp guardA absOp takeOver opd avOf cvOf St.degAt St.put okPV okVal okAV absBin intBin strBin boolBin setBoxes if_true Bool.false_eq_true if_false Option.map_some Option.map_none Option.bind_some Option.bind_none thenO outOf upd List.toList_toArray isOwn steal appArgs mvB inApps AV.deg CV.deg AV.gv AV.isIter absNext some_bne some_beqN List.length_nil List.length_cons List.filterMap_cons List.filterMap_nil beq_iff_eq List.getElem?_cons_zero List.getElem?_cons_succ Option.getD_some K_hook hookB Bool.false_and Bool.and_false Bool.and_self K_P K_own absCall doCall getBoxes lend back idx dedup AV.ren CV.ren TV.ren AV.ptrs CV.ptrs zipBox AV.flat CV.flat absLoad absStore cellsOfAV setAt newBox markB bldTypes absFieldAddr absField absExtract absAssert noAssert absMkIface ifcOf CV.pv? content pushHead ownT fillCells reps pvs chunks enterSt leave resOf resVars resVar outBoxes lentOnly TV.deg TV.av LK CV.plain CV.noBld nilBin absUn bound List.map_cons List.map_nil List.all_cons List.all_nil List.any_cons List.any_nil List.contains_cons List.contains_nil List.elem_cons List.elem_nil List.cons_append List.nil_append List.append_nil List.flatMap_cons List.flatMap_nil List.zip_cons_cons List.zip_nil_left List.zip_nil_right List.take_succ_cons List.take_zero List.take_nil List.drop_succ_cons List.drop_zero List.drop_nil List.isEmpty_nil List.isEmpty_cons Bool.and_true Bool.true_and Bool.or_true Bool.true_or Bool.or_false Bool.false_or Bool.not_true Bool.not_false Nat.add_zero Nat.zero_add Option.isNone_none Option.isNone_some Option.getD_none true_and and_true not_true_eq_false not_false_eq_true decide_true decide_false Nat.le_refl and_self Bool.not_eq_true Nat.sub_self or_true true_or Option.some.injEq List.length_map List.nil_eq and_false false_and AV.live CV.live CV.liveIn K_keep firstReg Option.orElse_some Option.orElse_none head keepSlots keepBoxes Int.lt_irrefl List.length_append ite_self memOK logOps opKey lentBoxes Key.clash Key.sees Key.writes Nat.lt_irrefl gt_iff_lt nobox_at bot_at false_or or_false beq_self_eq_true Bool.true_beq Bool.false_beq
theorem lens_valsK (l : List Val) : lens 5 (encL l) = true := by
  rw [encL_map]
  simp only [lens, List.all_map, List.all_eq_true, Function.comp_apply, beq_iff_eq]
  intro v _
  exact enc_len v
theorem lens_toksK (l : List Tok) : lens 3 (l.map Tok.enc) = true := by simp [lens, Tok.enc]
theorem lens_tokK (a b c : PV) : lens 3 [[a, b, c]] = true := rfl
theorem lens_valK (a b c d e : PV) : lens 5 [[a, b, c, d, e]] = true := rfl
theorem val_at (l : List Val) (i : Nat) (k : Int) (t : Tok) (l' : List Val) (h : l[i]? = some (.mk k t l')) : (encL l)[(i : Int).toNat]? = some [.int .i64 k, .int .i64 t.kind, .str t.text, .int .i64 t.n, .sl (encL l')] := encL_get l i _ h
theorem pairs_den : den K 219 [] [] = some (.ret (.c (.cmap pairsE)) []) := prim_run (F := pPairs) rfl rfl
theorem delim_den (s : List UInt8) : den K 220 [T s] [] = some (.ret (.agg [.pv (.int .i64 7), .pv (.str s), .pv (.int .i64 0)]) []) := by
  refine den_run rfl rfl Tryz.func220 rfl Tryz.ntmps220 ⟨by simp, by simp [LK]⟩ ?_
  have hr : Tryz.f220.results = #[.cell 2 47] := rfl
  simp only [go_sem, Nat.reduceLT, reduceCtorEq, Nat.reduceEqDiff, Nat.reduceBEq, Nat.reduceAdd, Nat.reduceSub, Nat.reduceLeDiff, ty_shapeT_47, ty_zeroCells_47, ev_build ty_zeroCells_47 ty_placesOf_47, ty_szOf_47, hr]
abbrev closeCv (k : Int) : List CV := [.pv (.int .i64 7), .pv (.str [Ne.closeC k]), .pv (.int .i64 0)]
theorem closing_den (k : Int) : den K 221 [I k] [] = some (.ret (.agg (closeCv k)) []) := by
  refine den_run rfl rfl Tryz.func221 rfl Tryz.ntmps221 ⟨by simp, by simp [LK]⟩ ?_
  have hr : Tryz.f221.results = #[.cell 2 47] := rfl
  have hp := pairs_den
  have d1 := delim_den [41]
  have d2 := delim_den [93]
  have d3 := delim_den [125]
  by_cases h2 : k = 2
  · subst h2
    simp only [go_sem, Nat.reduceLT, reduceCtorEq, Nat.reduceEqDiff, Nat.reduceBEq, Nat.reduceAdd, Nat.reduceSub, Nat.reduceLeDiff, ty_shapeT_47, ty_zeroCells_47, good_219, ty_zeroCells_223, ty_szOf_223, ty_fieldOff_223_1, ty_szOf_9, ty_shapeT_9, good_220, ty_szOf_47, K_ownP, hr, hp, NR.look_2, d1]
    rfl
  by_cases h3 : k = 3
  · subst h3
    simp only [go_sem, Nat.reduceLT, reduceCtorEq, Nat.reduceEqDiff, Nat.reduceBEq, Nat.reduceAdd, Nat.reduceSub, Nat.reduceLeDiff, ty_shapeT_47, ty_zeroCells_47, good_219, ty_zeroCells_223, ty_szOf_223, ty_fieldOff_223_1, ty_szOf_9, ty_shapeT_9, good_220, ty_szOf_47, K_ownP, hr, hp, NR.look_3, d2]
    rfl
  by_cases h4 : k = 4
  · subst h4
    simp only [go_sem, Nat.reduceLT, reduceCtorEq, Nat.reduceEqDiff, Nat.reduceBEq, Nat.reduceAdd, Nat.reduceSub, Nat.reduceLeDiff, ty_shapeT_47, ty_zeroCells_47, good_219, ty_zeroCells_223, ty_szOf_223, ty_fieldOff_223_1, ty_szOf_9, ty_shapeT_9, good_220, ty_szOf_47, K_ownP, hr, hp, NR.look_4, d3]
    rfl
  have hl := NR.look_no k h2 h3 h4
  have hv : Ne.closeC k = 41 := by simp [Ne.closeC, h3, h4]
  rw [closeCv, hv]
  simp only [go_sem, Nat.reduceLT, reduceCtorEq, Nat.reduceEqDiff, Nat.reduceBEq, Nat.reduceAdd, Nat.reduceSub, Nat.reduceLeDiff, ty_shapeT_47, ty_zeroCells_47, good_219, ty_zeroCells_223, ty_szOf_223, ty_fieldOff_223_1, ty_szOf_9, ty_shapeT_9, good_220, ty_szOf_47, K_ownP, hr, hp, hl, d1]
theorem snoc_tok (acc : List Tok) (t : Tok) : acc.map Tok.enc ++ [[.int .i64 t.kind, .str t.text, .int .i64 t.n]] = (acc ++ [t]).map Tok.enc := by simp [Tok.enc]
theorem snoc_del (acc : List Tok) (c : UInt8) : acc.map Tok.enc ++ [[.int .i64 7, .str [c], .int .i64 0]] = (acc ++ [Tok.mk 7 [c] 0]).map Tok.enc := by simp [Tok.enc]
theorem app_toks (a b : List Tok) : a.map Tok.enc ++ b.map Tok.enc = (a ++ b).map Tok.enc := by simp
end Go.Abs
namespace Go.Abs
open Go Go.Proofs
set_option maxRecDepth 10000
attribute [local go_sem] exL_seq exL_region exL_cond exL_block exL_scope exL_ret exL_skip exL_exit runRegion runOps stepOp guardA absOp takeOver opd avOf cvOf St.degAt St.put okPV okVal okAV absBin intBin strBin boolBin setBoxes if_true Bool.false_eq_true if_false Option.map_some Option.map_none Option.bind_some Option.bind_none thenO outOf upd List.toList_toArray isOwn steal appArgs mvB inApps AV.deg CV.deg AV.gv AV.isIter absNext some_bne some_beqN List.length_nil List.length_cons List.filterMap_cons List.filterMap_nil beq_iff_eq List.getElem?_cons_zero List.getElem?_cons_succ Option.getD_some K_hook hookB Bool.false_and Bool.and_false Bool.and_self K_P K_own absCall doCall getBoxes lend back idx dedup AV.ren CV.ren TV.ren AV.ptrs CV.ptrs zipBox AV.flat CV.flat absLoad absStore cellsOfAV setAt newBox markB bldTypes absFieldAddr absField absExtract absAssert noAssert absMkIface ifcOf CV.pv? content pushHead ownT fillCells reps pvs chunks enterSt leave resOf resVars resVar outBoxes lentOnly TV.deg TV.av LK CV.plain CV.noBld nilBin absUn bound List.map_cons List.map_nil List.all_cons List.all_nil List.any_cons List.any_nil List.contains_cons List.contains_nil List.elem_cons List.elem_nil List.cons_append List.nil_append List.append_nil List.flatMap_cons List.flatMap_nil List.zip_cons_cons List.zip_nil_left List.zip_nil_right List.take_succ_cons List.take_zero List.take_nil List.drop_succ_cons List.drop_zero List.drop_nil List.isEmpty_nil List.isEmpty_cons Bool.and_true Bool.true_and Bool.or_true Bool.true_or Bool.or_false Bool.false_or Bool.not_true Bool.not_false Nat.add_zero Nat.zero_add Option.isNone_none Option.isNone_some Option.getD_none true_and and_true not_true_eq_false not_false_eq_true decide_true decide_false Nat.le_refl and_self Bool.not_eq_true Nat.sub_self or_true true_or Option.some.injEq List.length_map List.nil_eq and_false false_and AV.live CV.live CV.liveIn K_keep firstReg Option.orElse_some Option.orElse_none head keepSlots keepBoxes Int.lt_irrefl List.length_append ite_self memOK logOps opKey lentBoxes Key.clash Key.sees Key.writes Nat.lt_irrefl gt_iff_lt nobox_at bot_at false_or or_false beq_self_eq_true Bool.true_beq Bool.false_beq
abbrev FV (f : Nat) : AV := .c (.fn f [])
abbrev valCv (k : Int) (t : Tok) (l : List Val) : List CV := [.pv (.int .i64 k), .pv (.int .i64 t.kind), .pv (.str t.text), .pv (.int .i64 t.n), .pv (.sl (encL l))]
def VSameDen (a b : List Val) : Prop := den K 70 [L (encL a), L (encL b)] [] = some (.ret (B (Ne.same a b)) [])
def VSame2Den (a b : List Val) : Prop := den K 21 [L (encL a), L (encL b)] [] = some (.ret (B (Ne.same a b)) [])
theorem same1_den (k k' : Int) (t t' : Tok) (l l' : List Val) (h : VSameDen l l') : den K 120 [.agg (valCv k t l), .agg (valCv k' t' l')] [] = some (.ret (B (Ne.sameV (.mk k t l) (.mk k' t' l'))) []) := by
  have hr : Tryz.f120.results = #[.tmp 4] := rfl
  have heq := tok_eq t.kind t'.kind t.n t'.n t.text t'.text
  rw [tok_beq] at heq
  unfold VSameDen at h
  rw [Ne.sameV]
  refine den_run rfl rfl Tryz.func120 rfl Tryz.ntmps120 ⟨by simp, by simp [LK]⟩ ?_
  cases b1 : (k == k')
  · simp only [go_sem, Nat.reduceLT, Nat.reduceEqDiff, Nat.reduceBEq, Nat.reduceAdd, Nat.reduceSub, Nat.reduceLeDiff, ty_fieldOff_49_0, ty_szOf_3, ty_shapeT_3, hr, b1]
  · cases b2 : decide (t = t')
    · rw [b2] at heq
      simp only [go_sem, Nat.reduceLT, Nat.reduceEqDiff, Nat.reduceBEq, Nat.reduceAdd, Nat.reduceSub, Nat.reduceLeDiff, ty_fieldOff_49_0, ty_szOf_3, ty_shapeT_3, ty_fieldOff_49_1, ty_szOf_47, ty_shapeT_47, hr, b1, heq]
    · rw [b2] at heq
      simp only [go_sem, Nat.reduceLT, Nat.reduceEqDiff, Nat.reduceBEq, Nat.reduceAdd, Nat.reduceSub, Nat.reduceLeDiff, ty_fieldOff_49_0, ty_szOf_3, ty_shapeT_3, ty_fieldOff_49_1, ty_szOf_47, ty_shapeT_47, ty_fieldOff_49_2, ty_szOf_22, ty_shapeT_22, good_70, hr, b1, heq, h]
abbrev eqH (a b : List Val) (i : Nat) : St :=
  { sl := upd (upd (upd (upd (upd bot 17 (I i)) 16 (I a.length)) 15 (L (encL a))) 2 (FV 120)) 1 (L (encL b)), bx := upd nobox 100000 none, nt := 32 }
theorem eq_loop (a b : List Val) (hab : a.length = b.length) (ha : a.length ≤ 1000000) (hin : ∀ k t l' m, Val.mk k t l' ∈ a → (∃ k' t', Val.mk k' t' m ∈ b) → VSameDen l' m) : ∀ (ra rb : List Val) (i : Nat), a.drop i = ra → b.drop i = rb → i ≤ a.length →
    Ends (exL K 119 (.loop (loopAt Tryz.f119 4)) (eqH a b i)) fun o S => (Ne.same ra rb = true ∧ o = .exit 0 ∧ S.nt = 32) ∨ (Ne.same ra rb = false ∧ o = .ret ∧ S.sl 6 = B false)
  | [], rb, i, hda, hdb, hi => by
    have hin : i = a.length := by
      have := List.drop_eq_nil_iff.1 hda
      omega
    obtain rfl : rb = [] := by rw [← hdb, hin, hab, List.drop_length]
    subst hin
    conv in loopAt _ _ => whnf
    rw [exL_loop]
    simp only [go_sem, Nat.reduceLT, reduceCtorEq, Nat.reduceEqDiff, Nat.reduceBEq, keep_119_4, ends_some, Ne.same]
  | .mk k t l' :: ra, rb, i, hda, hdb, hi => by
    obtain ⟨g1, g2, g3⟩ := drop_cons hda
    cases rb with
    | nil =>
      have := List.drop_eq_nil_iff.1 hdb
      omega
    | cons y rb =>
      obtain ⟨k', t', m⟩ := y
      obtain ⟨k1, k2, k3⟩ := drop_cons hdb
      have hlt : decide ((i : Int) < (a.length : Int)) = true := decide_eq_true (by omega)
      have ga := val_at a i k t l' g1
      have gb := val_at b i k' t' m k1
      have hsd := same1_den k k' t t' l' m (hin k t l' m (List.mem_of_getElem? g1) ⟨k', t', List.mem_of_getElem? k1⟩)
      have ih := eq_loop a b hab ha hin ra rb (i + 1) g2 k2 (by omega)
      conv at ih in loopAt _ _ => whnf
      conv in loopAt _ _ => whnf
      rw [exL_loop]
      rw [Ne.same]
      cases hxy : Ne.sameV (.mk k t l') (.mk k' t' m)
      · rw [hxy] at hsd
        rw [Bool.false_and]
        simp only [go_sem, Nat.reduceLT, Nat.reduceEqDiff, Nat.reduceBEq, Nat.reduceAdd, ev_indexAddr ty_descOf_22, ty_szOf_49, ty_shapeT_49, ty_zeroCells_49, keep_119_4, good_120, hlt, ga, gb, hsd, Int.natCast_nonneg, ends_some]
      · rw [hxy] at hsd
        rw [Bool.true_and]
        simp only [go_sem, Nat.reduceLT, Nat.reduceEqDiff, Nat.reduceBEq, Nat.reduceAdd, ev_indexAddr ty_descOf_22, ty_szOf_49, ty_shapeT_49, ty_zeroCells_49, keep_119_4, good_120, hlt, ga, gb, hsd, Int.natCast_nonneg, wrap_nat i (by omega)]
        rw [exL_head]
        simp only [go_sem, Nat.reduceEqDiff, keep_119_4]
        exact ih
theorem same_len : ∀ {a b : List Val}, a.length ≠ b.length → Ne.same a b = false
  | [], [], h => absurd rfl h
  | [], _ :: _, _ => rfl
  | _ :: _, [], _ => rfl
  | x :: a, y :: b, h => by
    rw [Ne.same, same_len (a := a) (b := b) (by simpa using h), Bool.and_false]
theorem EqualFunc_den (a b : List Val) (ha : a.length ≤ 1000000) (hb : b.length ≤ 1000000) (hin : ∀ k t l' m, Val.mk k t l' ∈ a → (∃ k' t', Val.mk k' t' m ∈ b) → VSameDen l' m) :
    den K 119 [L (encL a), L (encL b), FV 120] [] = some (.ret (B (Ne.same a b)) []) := by
  refine den_run rfl rfl Tryz.func119 rfl Tryz.ntmps119 ⟨by simp, by simp [LK]⟩ ?_
  have hr : Tryz.f119.results = #[.tmp 6] := rfl
  by_cases hab : a.length = b.length
  · have e0 : ((a.length : Int) != (b.length : Int)) = false := by simp [hab]
    have h := eq_loop a b hab ha hin a b 0 rfl rfl (by omega)
    conv at h in loopAt _ _ => whnf
    obtain ⟨o, S', w, hq⟩ := h
    simp only [go_sem, Nat.reduceLT, reduceCtorEq, Nat.reduceEqDiff, Nat.reduceBEq, Nat.reduceAdd, ev_len_sl ty_descOf_22, encL_len, e0]
    rw [exL_head]
    simp only [go_sem, Nat.reduceEqDiff, keep_119_4]
    erw [w]
    rcases hq with ⟨hv, rfl, hn⟩ | ⟨hv, rfl, h6⟩
    · simp only [go_sem, Nat.reduceLT, Nat.reduceBEq, hr, hv, hn]
    · simp only [go_sem, hr, hv, h6]
  · have e0 : ((a.length : Int) != (b.length : Int)) = true := by rw [bne_iff_ne]; omega
    have hv := same_len hab
    simp only [go_sem, Nat.reduceLT, reduceCtorEq, Nat.reduceEqDiff, Nat.reduceBEq, Nat.reduceAdd, ev_len_sl ty_descOf_22, encL_len, e0, hr, hv]
theorem VSame_den (a : List Val) : Ne.size a ≤ 1000000 → ∀ b, Ne.size b ≤ 1000000 → VSameDen a b := by
  refine ind_list (Q := fun a => Ne.size a ≤ 1000000 → ∀ b, Ne.size b ≤ 1000000 → VSameDen a b) (fun a hin ha b hb => ?_) a
  have h := EqualFunc_den a b (Nat.le_trans (Ne.length_size a) ha) (Nat.le_trans (Ne.length_size b) hb) (fun k t l' m hm ⟨k', t', hm'⟩ => hin k t l' hm (by have := size_mem hm; omega) m (by have := size_mem hm'; omega))
  unfold VSameDen
  refine den_run rfl rfl Tryz.func70 rfl Tryz.ntmps70 ⟨by simp, by simp [LK]⟩ ?_
  have hr : Tryz.f70.results = #[.tmp 4] := rfl
  simp only [go_sem, Nat.reduceLT, reduceCtorEq, Nat.reduceEqDiff, Nat.reduceBEq, Nat.reduceAdd, good_119, hr, h]
abbrev same2H (a b : List Val) (i : Nat) : St := { sl := upd (upd (upd bot 5 (I i)) 1 (L (encL b))) 0 (L (encL a)), bx := nobox, nt := 55 }
set_option maxHeartbeats 8000000 in
theorem same2_loop (a b : List Val) (hab : a.length = b.length) (ha : a.length ≤ 1000000) (hin : ∀ k t l' m, Val.mk k t l' ∈ a → (∃ k' t', Val.mk k' t' m ∈ b) → VSame2Den l' m) : ∀ (ra rb : List Val) (i : Nat), a.drop i = ra → b.drop i = rb → i ≤ a.length →
    Ends (exL K 21 (.loop (loopAt Tryz.f21 4)) (same2H a b i)) fun o S => (Ne.same ra rb = true ∧ o = .exit 0 ∧ S.nt = 55) ∨ (Ne.same ra rb = false ∧ o = .ret ∧ S.sl 4 = B false)
  | [], rb, i, hda, hdb, hi => by
    have hin : i = a.length := by
      have := List.drop_eq_nil_iff.1 hda
      omega
    obtain rfl : rb = [] := by rw [← hdb, hin, hab, List.drop_length]
    subst hin
    conv in loopAt _ _ => whnf
    rw [exL_loop]
    simp only [go_sem, Nat.reduceLT, reduceCtorEq, Nat.reduceEqDiff, Nat.reduceBEq, Nat.reduceAdd, ev_len_sl ty_descOf_22, keep_21_4, ends_some, Ne.same, encL_len]
  | .mk k t l' :: ra, rb, i, hda, hdb, hi => by
    obtain ⟨g1, g2, g3⟩ := drop_cons hda
    cases rb with
    | nil =>
      have := List.drop_eq_nil_iff.1 hdb
      omega
    | cons y rb =>
      obtain ⟨k', t', m⟩ := y
      obtain ⟨k1, k2, k3⟩ := drop_cons hdb
      have hlt : decide ((i : Int) < (a.length : Int)) = true := decide_eq_true (by omega)
      have ga := val_at a i k t l' g1
      have gb := val_at b i k' t' m k1
      have hsd := hin k t l' m (List.mem_of_getElem? g1) ⟨k', t', List.mem_of_getElem? k1⟩
      unfold VSame2Den at hsd
      have heq := tok_eq t.kind t'.kind t.n t'.n t.text t'.text
      rw [tok_beq] at heq
      have ih := same2_loop a b hab ha hin ra rb (i + 1) g2 k2 (by omega)
      conv at ih in loopAt _ _ => whnf
      conv in loopAt _ _ => whnf
      rw [exL_loop]
      rw [Ne.same, Ne.sameV]
      cases b1 : (k == k')
      · have e1 : (k != k') = true := by rw [bne, b1]; rfl
        simp only [go_sem, Nat.reduceLT, reduceCtorEq, Nat.reduceEqDiff, Nat.reduceBEq, Nat.reduceAdd, ev_len_sl ty_descOf_22, ev_indexAddr ty_descOf_22, ty_szOf_49, ty_fieldOff_49_0, ty_szOf_3, ty_shapeT_3, keep_21_4, encL_len, hlt, ga, gb, e1, Int.natCast_nonneg, ends_some]
      · have e1 : (k != k') = false := by rw [bne, b1]; rfl
        cases b2 : decide (t = t')
        · rw [b2] at heq
          simp only [go_sem, Nat.reduceLT, reduceCtorEq, Nat.reduceEqDiff, Nat.reduceBEq, Nat.reduceAdd, Nat.reduceLeDiff, ev_len_sl ty_descOf_22, ev_indexAddr ty_descOf_22, ty_szOf_49, ty_fieldOff_49_0, ty_szOf_3, ty_shapeT_3, ty_fieldOff_49_1, ty_szOf_47, ty_shapeT_47, keep_21_4, encL_len, hlt, ga, gb, Int.natCast_nonneg, e1, heq, ends_some]
        · rw [b2] at heq
          cases b3 : Ne.same l' m
          · rw [b3] at hsd
            simp only [go_sem, Nat.reduceLT, reduceCtorEq, Nat.reduceEqDiff, Nat.reduceBEq, Nat.reduceAdd, Nat.reduceLeDiff, ev_len_sl ty_descOf_22, ev_indexAddr ty_descOf_22, ty_szOf_49, ty_fieldOff_49_0, ty_szOf_3, ty_shapeT_3, ty_fieldOff_49_1, ty_szOf_47, ty_shapeT_47, ty_fieldOff_49_2, ty_szOf_22, ty_shapeT_22, good_21, keep_21_4, encL_len, hlt, ga, gb, Int.natCast_nonneg, e1, heq, hsd, ends_some]
          · rw [b3] at hsd
            simp only [go_sem, Nat.reduceLT, reduceCtorEq, Nat.reduceEqDiff, Nat.reduceBEq, Nat.reduceAdd, Nat.reduceLeDiff, ev_len_sl ty_descOf_22, ev_indexAddr ty_descOf_22, ty_szOf_49, ty_fieldOff_49_0, ty_szOf_3, ty_shapeT_3, ty_fieldOff_49_1, ty_szOf_47, ty_shapeT_47, ty_fieldOff_49_2, ty_szOf_22, ty_shapeT_22, good_21, keep_21_4, encL_len, hlt, ga, gb, Int.natCast_nonneg, e1, heq, hsd, wrap_nat i (by omega)]
            rw [exL_head]
            simp only [go_sem, reduceCtorEq, Nat.reduceEqDiff, keep_21_4]
            exact ih
theorem VSame2_den (a : List Val) : Ne.size a ≤ 1000000 → ∀ b, Ne.size b ≤ 1000000 → VSame2Den a b := by
  refine ind_list (Q := fun a => Ne.size a ≤ 1000000 → ∀ b, Ne.size b ≤ 1000000 → VSame2Den a b) (fun a hin ha b hb => ?_) a
  have h : ∀ hab : a.length = b.length, _ := fun hab => same2_loop a b hab (Nat.le_trans (Ne.length_size a) ha) (fun k t l' m hm ⟨k', t', hm'⟩ => hin k t l' hm (by have := size_mem hm; omega) m (by have := size_mem hm'; omega)) a b 0 rfl rfl (by omega)
  unfold VSame2Den
  refine den_run rfl rfl Tryz.func21 rfl Tryz.ntmps21 ⟨by simp, by simp [LK]⟩ ?_
  have hr : Tryz.f21.results = #[.tmp 4] := rfl
  by_cases hab : a.length = b.length
  · have e0 : ((a.length : Int) != (b.length : Int)) = false := by simp [hab]
    have h := h hab
    conv at h in loopAt _ _ => whnf
    obtain ⟨o, S', w, hq⟩ := h
    simp only [go_sem, Nat.reduceLT, reduceCtorEq, Nat.reduceEqDiff, Nat.reduceBEq, Nat.reduceAdd, ev_len_sl ty_descOf_22, encL_len, e0]
    rw [exL_head]
    simp only [go_sem, reduceCtorEq, Nat.reduceEqDiff, keep_21_4]
    erw [w]
    rcases hq with ⟨hv, rfl, hn⟩ | ⟨hv, rfl, h6⟩
    · simp only [go_sem, Nat.reduceLT, Nat.reduceBEq, hr, hv, hn]
    · simp only [go_sem, hr, hv, h6]
  · have e0 : ((a.length : Int) != (b.length : Int)) = true := by rw [bne_iff_ne]; omega
    have hv := same_len hab
    simp only [go_sem, Nat.reduceLT, reduceCtorEq, Nat.reduceEqDiff, Nat.reduceBEq, Nat.reduceAdd, ev_len_sl ty_descOf_22, encL_len, e0, hr, hv]
end Go.Abs
namespace Go.Abs
open Go Go.Proofs
set_option maxRecDepth 10000
attribute [local go_sem] exL_seq exL_region exL_cond exL_block exL_scope exL_ret exL_skip exL_exit runRegion runOps stepOp guardA absOp takeOver opd avOf cvOf St.degAt St.put okPV okVal okAV absBin intBin strBin boolBin setBoxes if_true Bool.false_eq_true if_false Option.map_some Option.map_none Option.bind_some Option.bind_none thenO outOf upd List.toList_toArray isOwn steal appArgs mvB inApps AV.deg CV.deg AV.gv AV.isIter absNext some_bne some_beqN List.length_nil List.length_cons List.filterMap_cons List.filterMap_nil beq_iff_eq List.getElem?_cons_zero List.getElem?_cons_succ Option.getD_some K_hook hookB Bool.false_and Bool.and_false Bool.and_self K_P K_own absCall doCall getBoxes lend back idx dedup AV.ren CV.ren TV.ren AV.ptrs CV.ptrs zipBox AV.flat CV.flat absLoad absStore cellsOfAV setAt newBox markB bldTypes absFieldAddr absField absExtract absAssert noAssert absMkIface ifcOf CV.pv? content pushHead ownT fillCells reps pvs chunks enterSt leave resOf resVars resVar outBoxes lentOnly TV.deg TV.av LK CV.plain CV.noBld nilBin absUn bound List.map_cons List.map_nil List.all_cons List.all_nil List.any_cons List.any_nil List.contains_cons List.contains_nil List.elem_cons List.elem_nil List.cons_append List.nil_append List.append_nil List.flatMap_cons List.flatMap_nil List.zip_cons_cons List.zip_nil_left List.zip_nil_right List.take_succ_cons List.take_zero List.take_nil List.drop_succ_cons List.drop_zero List.drop_nil List.isEmpty_nil List.isEmpty_cons Bool.and_true Bool.true_and Bool.or_true Bool.true_or Bool.or_false Bool.false_or Bool.not_true Bool.not_false Nat.add_zero Nat.zero_add Option.isNone_none Option.isNone_some Option.getD_none true_and and_true not_true_eq_false not_false_eq_true decide_true decide_false Nat.le_refl and_self Bool.not_eq_true Nat.sub_self or_true true_or Option.some.injEq List.length_map List.nil_eq and_false false_and AV.live CV.live CV.liveIn K_keep firstReg Option.orElse_some Option.orElse_none head keepSlots keepBoxes Int.lt_irrefl List.length_append ite_self memOK logOps opKey lentBoxes Key.clash Key.sees Key.writes Nat.lt_irrefl gt_iff_lt nobox_at bot_at false_or or_false beq_self_eq_true Bool.true_beq Bool.false_beq
theorem delim2_den (s : List UInt8) : den K 125 [T s] [] = some (.ret (.agg [.pv (.int .i64 7), .pv (.str s), .pv (.int .i64 0)]) []) := by
  refine den_run rfl rfl Tryz.func125 rfl Tryz.ntmps125 ⟨by simp, by simp [LK]⟩ ?_
  have hr : Tryz.f125.results = #[.cell 2 47] := rfl
  simp only [go_sem, Nat.reduceLT, reduceCtorEq, Nat.reduceEqDiff, Nat.reduceBEq, Nat.reduceAdd, Nat.reduceSub, Nat.reduceLeDiff, ty_shapeT_47, ty_zeroCells_47, ev_build ty_zeroCells_47 ty_placesOf_47, ty_szOf_47, hr]
abbrev flat2H (l : List Val) (i : Nat) (e : Nat) (acc : List Tok) : St :=
  { sl := upd (upd (upd bot 4 (I i)) 3 (.c (.own e (acc.map Tok.enc)))) 0 (L (encL l)), bx := nobox, nt := 67 }
noncomputable def flp2 : Code := .loop (loopAt Tryz.f75 3)
def Flat2Den (l : List Val) : Prop := Ne.size l ≤ 1000000 → den K 75 [L (encL l)] [] = some (.ret (L ((Ne.flat l).map Tok.enc)) [])
set_option maxHeartbeats 4000000 in
theorem flat2_step (l : List Val) (i : Nat) (e : Nat) (acc : List Tok) (he : e = 47 ∨ acc = []) (k : Int) (t : Tok) (l' : List Val) (hi : l[i]? = some (.mk k t l')) (hlen : l.length ≤ 1000000) (hacc : acc.length ≤ 3000000) (hs : (Ne.flat l').length ≤ 3000000)
    (hf : den K 75 [L (encL l')] [] = some (.ret (L ((Ne.flat l').map Tok.enc)) [])) :
    ∃ e', (e' = 47 ∨ acc ++ Ne.flatV (.mk k t l') = []) ∧ exL K 75 flp2 (flat2H l i e acc) = exL K 75 flp2 (flat2H l (i + 1) e' (acc ++ Ne.flatV (.mk k t l'))) := by
  have hil : i < l.length := (List.getElem?_eq_some_iff.1 hi).1
  have hlt : decide ((i : Int) < (l.length : Int)) = true := decide_eq_true (by omega)
  have hget := val_at l i k t l' hi
  have hw : IntKind.i64.wrap ((i : Int) + 1) = ((i + 1 : Nat) : Int) := wrap_nat i (by omega)
  have hown : e = 47 ∨ (acc.map Tok.enc).isEmpty = true := by
    rcases he with rfl | rfl
    · exact .inl rfl
    · exact .inr rfl
  have hlim1 : acc.length + 1 < appLim := by unfold appLim; omega
  have hlim2 : acc.length + 1 + (Ne.flat l').length < appLim := by unfold appLim; omega
  have hlim3 : acc.length + 1 + (Ne.flat l').length + 1 < appLim := by unfold appLim; omega
  unfold flp2
  conv in loopAt _ _ => whnf
  conv in loopAt _ _ => whnf
  conv in exL _ _ _ (flat2H l i e acc) => rw [exL_loop]
  by_cases h1 : k = 1
  · subst h1
    have c1 : decide ((1 : Int) < 1) = false := by decide
    have c2 : decide ((5 : Int) < 1) = false := by decide
    have c3 : decide ((1 : Int) < 1) = false := by decide
    refine ⟨47, .inl rfl, ?_⟩
    have hv : Ne.flatV (.mk 1 t l') = [t] := by rw [Ne.flatV, if_pos rfl]
    rw [hv]
    simp only [go_sem, Nat.reduceLT, reduceCtorEq, Nat.reduceEqDiff, Nat.reduceBEq, Nat.reduceAdd, Nat.reduceLeDiff, Nat.reduceMul, ev_len_sl ty_descOf_22, ev_indexAddr ty_descOf_22, ty_szOf_49, ty_fieldOff_49_0, ty_szOf_3, ty_shapeT_3, ty_fieldOff_49_1, ty_szOf_47, ty_shapeT_47, ev_buildSlice (len := 1) ty_descOf_90 ty_szOf_47 ty_zeroCells_47 ⟨rfl, by decide, by decide⟩, ev_append ty_appInfo_90, ev_appNew_sl ty_descOf_90, ev_slice_str ty_descOf_9, good_125, ty_fieldOff_49_2, ty_szOf_22, ty_shapeT_22, good_75, keep_75_3, encL_len, hlt, hget, Int.natCast_nonneg, hf, lens_toksK, lens_tokK, hlim1, hlim2, hown, snoc_tok, app_toks, hw, c2]
    rw [exL_head]
    simp only [go_sem, reduceCtorEq, Nat.reduceEqDiff, keep_75_3]
  by_cases h5 : k = 5
  · subst h5
    have c1 : decide ((5 : Int) < 1) = false := by decide
    have c2 : decide ((5 : Int) < 5) = false := by decide
    have c3 : decide ((1 : Int) < 5) = true := by decide
    have n1 : ((5 : Int) = 1) = False := by decide
    have b1 : ((5 : Int) == 1) = false := by decide
    have q1 : ((0 : Int) ≤ 4 ∧ (4 : Int) ≤ ((4 : Nat) : Int)) = True := by simp
    have q2 : ((0 : Int) ≤ 3 ∧ (3 : Int) ≤ ((4 : Nat) : Int)) = True := by simp
    have q3 : Int.toNat 4 = 4 := rfl
    have q4 : Int.toNat 3 = 3 := rfl
    have w1 : IntKind.i64.wrap (5 - 2) = 3 := by decide
    have w2 : IntKind.i64.wrap (5 - 1) = 4 := by decide
    have hd2 := delim2_den [41]
    refine ⟨47, .inl rfl, ?_⟩
    have hv : Ne.flatV (.mk 5 t l') = t :: (Ne.flat l' ++ [Ne.closeT 5]) := by rw [Ne.flatV, if_neg (by decide), if_pos rfl]
    rw [hv]
    have ha : acc ++ t :: (Ne.flat l' ++ [Ne.closeT 5]) = acc ++ [t] ++ Ne.flat l' ++ [Tok.mk 7 [41] 0] := by simp [Ne.closeT, Ne.closeC]
    rw [ha]
    simp only [go_sem, Nat.reduceLT, reduceCtorEq, Nat.reduceEqDiff, Nat.reduceBEq, Nat.reduceAdd, Nat.reduceLeDiff, Nat.reduceMul, ev_len_sl ty_descOf_22, ev_indexAddr ty_descOf_22, ty_szOf_49, ty_fieldOff_49_0, ty_szOf_3, ty_shapeT_3, ty_fieldOff_49_1, ty_szOf_47, ty_shapeT_47, ev_buildSlice (len := 1) ty_descOf_90 ty_szOf_47 ty_zeroCells_47 ⟨rfl, by decide, by decide⟩, ev_append ty_appInfo_90, ev_appNew_sl ty_descOf_90, ev_slice_str ty_descOf_9, good_125, ty_fieldOff_49_2, ty_szOf_22, ty_shapeT_22, good_75, keep_75_3, encL_len, hlt, hget, Int.natCast_nonneg, hf, lens_toksK, lens_tokK, hlim1, hlim2, hlim3, hown, snoc_tok, snoc_del, app_toks, hw, c1, c3, b1, q1, q2, q3, q4, w1, w2, hd2]
    rw [exL_head]
    simp only [go_sem, reduceCtorEq, Nat.reduceEqDiff, keep_75_3]
  by_cases h2 : k = 2
  · subst h2
    have c1 : decide ((2 : Int) < 1) = false := by decide
    have c2 : decide ((5 : Int) < 2) = false := by decide
    have c3 : decide ((1 : Int) < 2) = true := by decide
    have n1 : ((2 : Int) = 1) = False := by decide
    have n5 : ((2 : Int) = 5) = False := by decide
    have b1 : ((2 : Int) == 1) = false := by decide
    have b5 : ((2 : Int) == 5) = false := by decide
    have q1 : ((0 : Int) ≤ 1 ∧ (1 : Int) ≤ ((3 : Nat) : Int)) = True := by simp
    have q2 : ((0 : Int) ≤ 0 ∧ (0 : Int) ≤ ((1 : Nat) : Int)) = True := by simp
    have q3 : ((0 : Int) ≤ 1 ∧ (1 : Int) ≤ ((4 : Nat) : Int)) = True := by simp
    have q4 : Int.toNat 1 = 1 := rfl
    have q5 : Int.toNat 0 = 0 := rfl
    have w1 : IntKind.i64.wrap (2 - 2) = 0 := by decide
    have w2 : IntKind.i64.wrap (2 - 1) = 1 := by decide
    have hd1 := delim2_den [40]
    have hd2 := delim2_den [41]
    refine ⟨47, .inl rfl, ?_⟩
    have hv : Ne.flatV (.mk 2 t l') = Ne.openT 2 :: (Ne.flat l' ++ [Ne.closeT 2]) := by rw [Ne.flatV, if_neg (by decide), if_neg (by decide), if_pos (by decide)]
    rw [hv]
    have ha : acc ++ Ne.openT 2 :: (Ne.flat l' ++ [Ne.closeT 2]) = acc ++ [Tok.mk 7 [40] 0] ++ Ne.flat l' ++ [Tok.mk 7 [41] 0] := by simp [Ne.closeT, Ne.closeC, Ne.openT, Ne.openC]
    rw [ha]
    simp only [go_sem, Nat.reduceLT, reduceCtorEq, Nat.reduceEqDiff, Nat.reduceBEq, Nat.reduceAdd, Nat.reduceLeDiff, Nat.reduceMul, ev_len_sl ty_descOf_22, ev_indexAddr ty_descOf_22, ty_szOf_49, ty_fieldOff_49_0, ty_szOf_3, ty_shapeT_3, ty_fieldOff_49_1, ty_szOf_47, ty_shapeT_47, ev_buildSlice (len := 1) ty_descOf_90 ty_szOf_47 ty_zeroCells_47 ⟨rfl, by decide, by decide⟩, ev_append ty_appInfo_90, ev_appNew_sl ty_descOf_90, ev_slice_str ty_descOf_9, good_125, ty_fieldOff_49_2, ty_szOf_22, ty_shapeT_22, good_75, keep_75_3, encL_len, hlt, hget, Int.natCast_nonneg, hf, lens_toksK, lens_tokK, hlim1, hlim2, hlim3, hown, snoc_tok, snoc_del, app_toks, hw, c1, c2, c3, b1, b5, Int.le_refl, q1, q3, q4, q5, w1, w2, hd1, hd2]
    rw [exL_head]
    simp only [go_sem, reduceCtorEq, Nat.reduceEqDiff, keep_75_3]
  by_cases h3 : k = 3
  · subst h3
    have c1 : decide ((3 : Int) < 1) = false := by decide
    have c2 : decide ((5 : Int) < 3) = false := by decide
    have c3 : decide ((1 : Int) < 3) = true := by decide
    have n1 : ((3 : Int) = 1) = False := by decide
    have n5 : ((3 : Int) = 5) = False := by decide
    have b1 : ((3 : Int) == 1) = false := by decide
    have b5 : ((3 : Int) == 5) = false := by decide
    have q1 : ((0 : Int) ≤ 2 ∧ (2 : Int) ≤ ((3 : Nat) : Int)) = True := by simp
    have q2 : ((0 : Int) ≤ 1 ∧ (1 : Int) ≤ ((2 : Nat) : Int)) = True := by simp
    have q3 : ((0 : Int) ≤ 2 ∧ (2 : Int) ≤ ((4 : Nat) : Int)) = True := by simp
    have q4 : Int.toNat 2 = 2 := rfl
    have q5 : Int.toNat 1 = 1 := rfl
    have w1 : IntKind.i64.wrap (3 - 2) = 1 := by decide
    have w2 : IntKind.i64.wrap (3 - 1) = 2 := by decide
    have hd1 := delim2_den [91]
    have hd2 := delim2_den [93]
    refine ⟨47, .inl rfl, ?_⟩
    have hv : Ne.flatV (.mk 3 t l') = Ne.openT 3 :: (Ne.flat l' ++ [Ne.closeT 3]) := by rw [Ne.flatV, if_neg (by decide), if_neg (by decide), if_pos (by decide)]
    rw [hv]
    have ha : acc ++ Ne.openT 3 :: (Ne.flat l' ++ [Ne.closeT 3]) = acc ++ [Tok.mk 7 [91] 0] ++ Ne.flat l' ++ [Tok.mk 7 [93] 0] := by simp [Ne.closeT, Ne.closeC, Ne.openT, Ne.openC]
    rw [ha]
    simp only [go_sem, Nat.reduceLT, reduceCtorEq, Nat.reduceEqDiff, Nat.reduceBEq, Nat.reduceAdd, Nat.reduceLeDiff, Nat.reduceMul, ev_len_sl ty_descOf_22, ev_indexAddr ty_descOf_22, ty_szOf_49, ty_fieldOff_49_0, ty_szOf_3, ty_shapeT_3, ty_fieldOff_49_1, ty_szOf_47, ty_shapeT_47, ev_buildSlice (len := 1) ty_descOf_90 ty_szOf_47 ty_zeroCells_47 ⟨rfl, by decide, by decide⟩, ev_append ty_appInfo_90, ev_appNew_sl ty_descOf_90, ev_slice_str ty_descOf_9, good_125, ty_fieldOff_49_2, ty_szOf_22, ty_shapeT_22, good_75, keep_75_3, encL_len, hlt, hget, Int.natCast_nonneg, hf, lens_toksK, lens_tokK, hlim1, hlim2, hlim3, hown, snoc_tok, snoc_del, app_toks, hw, c1, c2, c3, b1, b5, q1, q2, q3, q4, q5, w1, w2, hd1, hd2]
    rw [exL_head]
    simp only [go_sem, reduceCtorEq, Nat.reduceEqDiff, keep_75_3]
  by_cases h4 : k = 4
  · subst h4
    have c1 : decide ((4 : Int) < 1) = false := by decide
    have c2 : decide ((5 : Int) < 4) = false := by decide
    have c3 : decide ((1 : Int) < 4) = true := by decide
    have n1 : ((4 : Int) = 1) = False := by decide
    have n5 : ((4 : Int) = 5) = False := by decide
    have b1 : ((4 : Int) == 1) = false := by decide
    have b5 : ((4 : Int) == 5) = false := by decide
    have q1 : ((0 : Int) ≤ 3 ∧ (3 : Int) ≤ ((3 : Nat) : Int)) = True := by simp
    have q2 : ((0 : Int) ≤ 2 ∧ (2 : Int) ≤ ((3 : Nat) : Int)) = True := by simp
    have q3 : ((0 : Int) ≤ 3 ∧ (3 : Int) ≤ ((4 : Nat) : Int)) = True := by simp
    have q4 : Int.toNat 3 = 3 := rfl
    have q5 : Int.toNat 2 = 2 := rfl
    have w1 : IntKind.i64.wrap (4 - 2) = 2 := by decide
    have w2 : IntKind.i64.wrap (4 - 1) = 3 := by decide
    have hd1 := delim2_den [123]
    have hd2 := delim2_den [125]
    refine ⟨47, .inl rfl, ?_⟩
    have hv : Ne.flatV (.mk 4 t l') = Ne.openT 4 :: (Ne.flat l' ++ [Ne.closeT 4]) := by rw [Ne.flatV, if_neg (by decide), if_neg (by decide), if_pos (by decide)]
    rw [hv]
    have ha : acc ++ Ne.openT 4 :: (Ne.flat l' ++ [Ne.closeT 4]) = acc ++ [Tok.mk 7 [123] 0] ++ Ne.flat l' ++ [Tok.mk 7 [125] 0] := by simp [Ne.closeT, Ne.closeC, Ne.openT, Ne.openC]
    rw [ha]
    simp only [go_sem, Nat.reduceLT, reduceCtorEq, Nat.reduceEqDiff, Nat.reduceBEq, Nat.reduceAdd, Nat.reduceLeDiff, Nat.reduceMul, ev_len_sl ty_descOf_22, ev_indexAddr ty_descOf_22, ty_szOf_49, ty_fieldOff_49_0, ty_szOf_3, ty_shapeT_3, ty_fieldOff_49_1, ty_szOf_47, ty_shapeT_47, ev_buildSlice (len := 1) ty_descOf_90 ty_szOf_47 ty_zeroCells_47 ⟨rfl, by decide, by decide⟩, ev_append ty_appInfo_90, ev_appNew_sl ty_descOf_90, ev_slice_str ty_descOf_9, good_125, ty_fieldOff_49_2, ty_szOf_22, ty_shapeT_22, good_75, keep_75_3, encL_len, hlt, hget, Int.natCast_nonneg, hf, lens_toksK, lens_tokK, hlim1, hlim2, hlim3, hown, snoc_tok, snoc_del, app_toks, hw, c1, c2, c3, b1, b5, q1, q2, q3, q4, q5, w1, w2, hd1, hd2]
    rw [exL_head]
    simp only [go_sem, reduceCtorEq, Nat.reduceEqDiff, keep_75_3]
  have hv : Ne.flatV (.mk k t l') = [] := by rw [Ne.flatV, if_neg h1, if_neg h5, if_neg (by omega)]
  rw [hv, List.append_nil]
  refine ⟨e, he, ?_⟩
  cases c1 : decide (k < 1)
  · have c2 : decide (5 < k) = true := decide_eq_true (by have := of_decide_eq_false c1; omega)
    simp only [go_sem, Nat.reduceLT, reduceCtorEq, Nat.reduceEqDiff, Nat.reduceBEq, Nat.reduceAdd, ev_len_sl ty_descOf_22, ev_indexAddr ty_descOf_22, ty_szOf_49, ty_fieldOff_49_0, ty_szOf_3, ty_shapeT_3, keep_75_3, encL_len, hlt, hget, Int.natCast_nonneg, hw, c1, c2]
    rw [exL_head]
    simp only [go_sem, reduceCtorEq, Nat.reduceEqDiff, keep_75_3]
  · simp only [go_sem, Nat.reduceLT, reduceCtorEq, Nat.reduceEqDiff, Nat.reduceBEq, Nat.reduceAdd, ev_len_sl ty_descOf_22, ev_indexAddr ty_descOf_22, ty_szOf_49, ty_fieldOff_49_0, ty_szOf_3, ty_shapeT_3, keep_75_3, encL_len, hlt, hget, Int.natCast_nonneg, hw, c1]
    rw [exL_head]
    simp only [go_sem, reduceCtorEq, Nat.reduceEqDiff, keep_75_3]
theorem flat2_loop (l : List Val) (hl : Ne.size l ≤ 1000000) (hin : ∀ k t l', Val.mk k t l' ∈ l → Flat2Den l') : ∀ (rest : List Val) (i e : Nat) (acc : List Tok), l.drop i = rest → i ≤ l.length → (e = 47 ∨ acc = []) → acc.length + (Ne.flat rest).length ≤ 3000000 →
    Ends (exL K 75 flp2 (flat2H l i e acc)) fun o S => o = .exit 0 ∧ S.nt = 67 ∧ ∃ e', S.sl 3 = .c (.own e' ((acc ++ Ne.flat rest).map Tok.enc))
  | [], i, e, acc, hd, hi, he, hacc => by
    have hin : i = l.length := by
      have := List.drop_eq_nil_iff.1 hd
      omega
    subst hin
    have hv : acc ++ Ne.flat [] = acc := by rw [Ne.flat, List.append_nil]
    rw [hv]
    unfold flp2
    conv in loopAt _ _ => whnf
    rw [exL_loop]
    simp only [go_sem, Nat.reduceLT, reduceCtorEq, Nat.reduceEqDiff, Nat.reduceBEq, Nat.reduceAdd, ev_len_sl ty_descOf_22, keep_75_3, ends_some, encL_len]
    exact ⟨e, rfl⟩
  | .mk k t l' :: rest, i, e, acc, hd, hi, he, hacc => by
    obtain ⟨g1, g2, g3⟩ := drop_cons hd
    have hmem : Val.mk k t l' ∈ l := List.mem_of_getElem? g1
    have hsz := size_mem hmem
    have hfl := Ne.flat_size l'
    have hll : l.length ≤ 1000000 := Nat.le_trans (Ne.length_size l) hl
    have hsum : (Ne.flat (.mk k t l' :: rest)).length = (Ne.flatV (.mk k t l')).length + (Ne.flat rest).length := by rw [Ne.flat, List.length_append]
    rw [hsum] at hacc
    have ha3 : acc.length ≤ 3000000 := by omega
    have hs3 : (Ne.flat l').length ≤ 3000000 := by omega
    have hs1 : Ne.size l' ≤ 1000000 := by omega
    obtain ⟨e', he', hstep⟩ := flat2_step l i e acc he k t l' g1 hll ha3 hs3 (hin k t l' hmem hs1)
    rw [hstep]
    have hlen2 : (acc ++ Ne.flatV (.mk k t l')).length + (Ne.flat rest).length ≤ 3000000 := by rw [List.length_append]; omega
    have hi2 : i + 1 ≤ l.length := by omega
    have ih := flat2_loop l hl hin rest (i + 1) e' (acc ++ Ne.flatV (.mk k t l')) g2 hi2 he' hlen2
    rw [List.append_assoc] at ih
    have hv : Ne.flat (.mk k t l' :: rest) = Ne.flatV (.mk k t l') ++ Ne.flat rest := by rw [Ne.flat]
    rw [hv]
    exact ih
theorem Flat2_den (l : List Val) : Flat2Den l := by
  refine ind_list (fun l hin hs => ?_) l
  have hfl := Ne.flat_size l
  have hacc0 : ([] : List Tok).length + (Ne.flat l).length ≤ 3000000 := by rw [List.length_nil]; omega
  have h := flat2_loop l hs hin l 0 47 [] rfl (Nat.zero_le _) (Or.inl rfl) hacc0
  unfold flp2 at h
  conv at h in loopAt _ _ => whnf
  obtain ⟨o, S', w, rfl, hn, e', h3⟩ := h
  rw [List.nil_append] at h3
  refine den_run rfl rfl Tryz.func75 rfl Tryz.ntmps75 ⟨by simp, by simp [LK]⟩ ?_
  have hr : Tryz.f75.results = #[.tmp 2] := rfl
  simp only [go_sem, Nat.reduceLT, Nat.reduceEqDiff, Nat.reduceBEq, Nat.reduceAdd, ev_buildSlice (len := 0) ty_descOf_90 ty_szOf_47 ty_zeroCells_47 ⟨rfl, by decide, by decide⟩]
  rw [exL_head]
  simp only [go_sem, reduceCtorEq, Nat.reduceEqDiff, keep_75_3]
  erw [w]
  simp only [go_sem, Nat.reduceLT, Nat.reduceEqDiff, Nat.reduceBEq, Nat.reduceAdd, hr, hn, h3]
end Go.Abs
namespace Go.Abs
open Go Go.Proofs
set_option maxRecDepth 10000
attribute [local go_sem] exL_seq exL_region exL_cond exL_block exL_scope exL_ret exL_skip exL_exit runRegion runOps stepOp guardA absOp takeOver opd avOf cvOf St.degAt St.put okPV okVal okAV absBin intBin strBin boolBin setBoxes if_true Bool.false_eq_true if_false Option.map_some Option.map_none Option.bind_some Option.bind_none thenO outOf upd List.toList_toArray isOwn steal appArgs mvB inApps AV.deg CV.deg AV.gv AV.isIter absNext some_bne some_beqN List.length_nil List.length_cons List.filterMap_cons List.filterMap_nil beq_iff_eq List.getElem?_cons_zero List.getElem?_cons_succ Option.getD_some K_hook hookB Bool.false_and Bool.and_false Bool.and_self K_P K_own absCall doCall getBoxes lend back idx dedup AV.ren CV.ren TV.ren AV.ptrs CV.ptrs zipBox AV.flat CV.flat absLoad absStore cellsOfAV setAt newBox markB bldTypes absFieldAddr absField absExtract absAssert noAssert absMkIface ifcOf CV.pv? content pushHead ownT fillCells reps pvs chunks enterSt leave resOf resVars resVar outBoxes lentOnly TV.deg TV.av LK CV.plain CV.noBld nilBin absUn bound List.map_cons List.map_nil List.all_cons List.all_nil List.any_cons List.any_nil List.contains_cons List.contains_nil List.elem_cons List.elem_nil List.cons_append List.nil_append List.append_nil List.flatMap_cons List.flatMap_nil List.zip_cons_cons List.zip_nil_left List.zip_nil_right List.take_succ_cons List.take_zero List.take_nil List.drop_succ_cons List.drop_zero List.drop_nil List.isEmpty_nil List.isEmpty_cons Bool.and_true Bool.true_and Bool.or_true Bool.true_or Bool.or_false Bool.false_or Bool.not_true Bool.not_false Nat.add_zero Nat.zero_add Option.isNone_none Option.isNone_some Option.getD_none true_and and_true not_true_eq_false not_false_eq_true decide_true decide_false Nat.le_refl and_self Bool.not_eq_true Nat.sub_self or_true true_or Option.some.injEq List.length_map List.nil_eq and_false false_and AV.live CV.live CV.liveIn K_keep firstReg Option.orElse_some Option.orElse_none head keepSlots keepBoxes Int.lt_irrefl List.length_append ite_self memOK logOps opKey lentBoxes Key.clash Key.sees Key.writes Nat.lt_irrefl gt_iff_lt nobox_at bot_at false_or or_false beq_self_eq_true Bool.true_beq Bool.false_beq
theorem blank_den (k : Int) (t : Tok) (l : List Val) : den K 33 [.agg (valCv k t l)] [] = some (.ret (B (Sl.isBlank (.mk k t l))) []) := by
  refine den_run rfl rfl Tryz.func33 rfl Tryz.ntmps33 ⟨by simp, by simp [LK]⟩ ?_
  have hr : Tryz.f33.results = #[.tmp 2] := rfl
  have hs : Sl.isBlank (.mk k t l) = ((k == 1) && (t.kind == 8)) := rfl
  rw [hs]
  cases e1 : (k == 1)
  · simp only [go_sem, Nat.reduceLT, Nat.reduceEqDiff, Nat.reduceBEq, Nat.reduceAdd, Nat.reduceSub, Nat.reduceLeDiff, ty_fieldOff_49_0, ty_szOf_3, ty_shapeT_3, hr, e1]
  · simp only [go_sem, Nat.reduceLT, Nat.reduceEqDiff, Nat.reduceBEq, Nat.reduceAdd, Nat.reduceSub, Nat.reduceLeDiff, ty_fieldOff_49_0, ty_szOf_3, ty_shapeT_3, ty_fieldOff_49_1, ty_szOf_47, ty_fieldOff_47_0, hr, e1]
theorem sign3_den (k : Int) (t : Tok) (l : List Val) (s : List UInt8) : den K 35 [.agg (valCv k t l), T s] [] = some (.ret (B (Sl.isSign s (.mk k t l))) []) := by
  refine den_run rfl rfl Tryz.func35 rfl Tryz.ntmps35 ⟨by simp, by simp [LK]⟩ ?_
  have hr : Tryz.f35.results = #[.tmp 4] := rfl
  have hv : decide (t = ⟨7, s, 0⟩) = ((t.kind == 7) && ((t.text == s) && ((t.n == 0) && true))) := (tok_beq t ⟨7, s, 0⟩).symm
  have hs : Sl.isSign s (.mk k t l) = ((k == 1) && ((t.kind == 7) && ((t.text == s) && ((t.n == 0) && true)))) := by rw [← hv]; rfl
  rw [hs]
  cases e1 : (k == 1)
  · simp only [go_sem, Nat.reduceLT, Nat.reduceEqDiff, Nat.reduceBEq, Nat.reduceAdd, Nat.reduceSub, Nat.reduceLeDiff, ty_fieldOff_49_0, ty_szOf_3, ty_shapeT_3, hr, e1]
  · cases e2 : (t.kind == 7)
    · simp only [go_sem, Nat.reduceLT, Nat.reduceEqDiff, Nat.reduceBEq, Nat.reduceAdd, Nat.reduceSub, Nat.reduceLeDiff, ty_fieldOff_49_0, ty_szOf_3, ty_shapeT_3, ty_fieldOff_49_1, ty_szOf_47, ty_fieldOff_47_0, hr, e1, e2]
    · cases e3 : (t.text == s)
      · simp only [go_sem, Nat.reduceLT, Nat.reduceEqDiff, Nat.reduceBEq, Nat.reduceAdd, Nat.reduceSub, Nat.reduceLeDiff, ty_fieldOff_49_0, ty_szOf_3, ty_shapeT_3, ty_fieldOff_49_1, ty_szOf_47, ty_fieldOff_47_0, ty_fieldOff_47_1, ty_szOf_9, ty_shapeT_9, hr, e1, e2, e3]
      · simp only [go_sem, Nat.reduceLT, Nat.reduceEqDiff, Nat.reduceBEq, Nat.reduceAdd, Nat.reduceSub, Nat.reduceLeDiff, ty_fieldOff_49_0, ty_szOf_3, ty_shapeT_3, ty_fieldOff_49_1, ty_szOf_47, ty_fieldOff_47_0, ty_fieldOff_47_1, ty_szOf_9, ty_shapeT_9, ty_fieldOff_47_2, hr, e1, e2, e3]
theorem Sl.trim_len (l : List Val) : (Sl.trim l).length ≤ l.length := by
  unfold Sl.trim
  rw [List.length_reverse]
  have h1 := (List.dropWhile_sublist Sl.isBlank (l := (l.dropWhile Sl.isBlank).reverse)).length_le
  have h2 := (List.dropWhile_sublist Sl.isBlank (l := l)).length_le
  rw [List.length_reverse] at h1
  omega
abbrev encP (l : List (List Val)) : List (List PV) := l.map fun p => [.sl (encL p)]
theorem lens_parts (l : List (List Val)) : lens 1 (encP l) = true := by simp [lens]
theorem lens_part (x : PV) : lens 1 [[x]] = true := rfl
theorem snoc_part (out : List (List Val)) (p : List Val) : encP out ++ [[.sl (encL p)]] = encP (out ++ [p]) := by simp [encP]
end Go.Abs
namespace Go.Abs.Sl
def cut (p : Val → Bool) : List Val → List (List Val)
  | [] => [[]]
  | v :: l => if p v then [] :: cut p l else match cut p l with
    | [] => [[v]]
    | q :: qs => (v :: q) :: qs
theorem cut_ne (p : Val → Bool) (l : List Val) : ∃ q qs, cut p l = q :: qs := by
  cases l with
  | nil => exact ⟨_, _, rfl⟩
  | cons v l =>
    rw [cut]
    split
    · exact ⟨_, _, rfl⟩
    · split
      · exact ⟨_, _, rfl⟩
      · exact ⟨_, _, rfl⟩
theorem cut_yes {p : Val → Bool} {v : Val} (h : p v = true) (l : List Val) : cut p (v :: l) = [] :: cut p l := by rw [cut, if_pos h]
theorem cut_no {p : Val → Bool} {v : Val} (h : p v = false) {l q : List Val} {qs : List (List Val)} (e : cut p l = q :: qs) : cut p (v :: l) = (v :: q) :: qs := by
  rw [cut, if_neg (by rw [h]; simp), e]
theorem cut_snoc {p : Val → Bool} {v : Val} (h : p v = true) : ∀ l : List Val, cut p (l ++ [v]) = cut p l ++ [[]]
  | [] => by rw [List.nil_append, cut_yes h]; rfl
  | x :: l => by
    rw [List.cons_append]
    cases hx : p x with
    | true => rw [cut_yes hx, cut_yes hx, cut_snoc h l]; rfl
    | false =>
      obtain ⟨q, qs, e⟩ := cut_ne p l
      rw [cut_no hx e, cut_no hx (l := l ++ [v]) (q := q) (qs := qs ++ [[]]) (by rw [cut_snoc h l, e]; rfl)]
      rfl
theorem cut_length (p : Val → Bool) : ∀ l : List Val, (cut p l).length ≤ l.length + 1
  | [] => Nat.le_refl _
  | v :: l => by
    have h := cut_length p l
    obtain ⟨q, qs, e⟩ := cut_ne p l
    cases hv : p v with
    | true => rw [cut_yes hv, List.length_cons, List.length_cons]; omega
    | false =>
      rw [cut_no hv e, List.length_cons, List.length_cons]
      rw [e, List.length_cons] at h
      omega
theorem drop_head : ∀ l : List Val, ∀ v r, l.dropWhile isBlank = v :: r → isBlank v = false
  | [], v, r, h => by cases h
  | x :: l, v, r, h => by
    rw [List.dropWhile_cons] at h
    split at h
    · exact drop_head l v r h
    · rename_i hx
      cases h
      simpa using hx
theorem trim_head {l r : List Val} {v : Val} (h : trim l = v :: r) : isBlank v = false := by
  unfold trim at h
  obtain ⟨pre, hp⟩ := List.dropWhile_suffix isBlank (l := (l.dropWhile isBlank).reverse)
  have h2 : l.dropWhile isBlank = trim l ++ pre.reverse := by
    have := congrArg List.reverse hp
    rw [List.reverse_append, List.reverse_reverse] at this
    exact this.symm
  unfold trim at h2
  rw [h] at h2
  exact drop_head l v _ h2
theorem trim_last {l r : List Val} {v : Val} (h : trim l = r ++ [v]) : isBlank v = false := by
  unfold trim at h
  have h2 := congrArg List.reverse h
  rw [List.reverse_reverse, List.reverse_append, List.reverse_singleton, List.singleton_append] at h2
  exact drop_head _ v _ h2
theorem trim_length (l : List Val) : (trim l).length ≤ l.length := by
  unfold trim
  rw [List.length_reverse]
  have h1 := (List.dropWhile_sublist isBlank (l := (l.dropWhile isBlank).reverse)).length_le
  have h2 := (List.dropWhile_sublist isBlank (l := l)).length_le
  rw [List.length_reverse] at h1
  omega
def signV (d : List UInt8) : Val := .mk 1 ⟨7, d, 0⟩ []
def joins (d : List UInt8) (ps : List (List Val)) : List Val := ps.flatMap fun q => signV d :: q
def join (d : List UInt8) : List (List Val) → List Val
  | [] => []
  | p :: ps => p ++ joins d ps
theorem joins_nil (d : List UInt8) : joins d [] = [] := rfl
theorem joins_cons (d : List UInt8) (p : List Val) (ps : List (List Val)) : joins d (p :: ps) = signV d :: (p ++ joins d ps) := rfl
end Go.Abs.Sl
namespace Go.Abs
open Go Go.Proofs
set_option maxRecDepth 10000
attribute [local go_sem] exL_seq exL_region exL_cond exL_block exL_scope exL_ret exL_skip exL_exit runRegion runOps stepOp guardA absOp takeOver opd avOf cvOf St.degAt St.put okPV okVal okAV absBin intBin strBin boolBin setBoxes if_true Bool.false_eq_true if_false Option.map_some Option.map_none Option.bind_some Option.bind_none thenO outOf upd List.toList_toArray isOwn steal appArgs mvB inApps AV.deg CV.deg AV.gv AV.isIter absNext some_bne some_beqN List.length_nil List.length_cons List.filterMap_cons List.filterMap_nil beq_iff_eq List.getElem?_cons_zero List.getElem?_cons_succ Option.getD_some K_hook hookB Bool.false_and Bool.and_false Bool.and_self K_P K_own absCall doCall getBoxes lend back idx dedup AV.ren CV.ren TV.ren AV.ptrs CV.ptrs zipBox AV.flat CV.flat absLoad absStore cellsOfAV setAt newBox markB bldTypes absFieldAddr absField absExtract absAssert noAssert absMkIface ifcOf CV.pv? content pushHead ownT fillCells reps pvs chunks enterSt leave resOf resVars resVar outBoxes lentOnly TV.deg TV.av LK CV.plain CV.noBld nilBin absUn bound List.map_cons List.map_nil List.all_cons List.all_nil List.any_cons List.any_nil List.contains_cons List.contains_nil List.elem_cons List.elem_nil List.cons_append List.nil_append List.append_nil List.flatMap_cons List.flatMap_nil List.zip_cons_cons List.zip_nil_left List.zip_nil_right List.take_succ_cons List.take_zero List.take_nil List.drop_succ_cons List.drop_zero List.drop_nil List.isEmpty_nil List.isEmpty_cons Bool.and_true Bool.true_and Bool.or_true Bool.true_or Bool.or_false Bool.false_or Bool.not_true Bool.not_false Nat.add_zero Nat.zero_add Option.isNone_none Option.isNone_some Option.getD_none true_and and_true not_true_eq_false not_false_eq_true decide_true decide_false Nat.le_refl and_self Bool.not_eq_true Nat.sub_self or_true true_or Option.some.injEq List.length_map List.nil_eq and_false false_and AV.live CV.live CV.liveIn K_keep firstReg Option.orElse_some Option.orElse_none head keepSlots keepBoxes Int.lt_irrefl List.length_append ite_self memOK logOps opKey lentBoxes Key.clash Key.sees Key.writes Nat.lt_irrefl gt_iff_lt nobox_at bot_at false_or or_false beq_self_eq_true Bool.true_beq Bool.false_beq
theorem blank3_den (k : Int) (t : Tok) (l : List Val) : den K 170 [.agg (valCv k t l)] [] = some (.ret (B (Sl.isBlank (.mk k t l))) []) := by
  refine den_run rfl rfl Tryz.func170 rfl Tryz.ntmps170 ⟨by simp, by simp [LK]⟩ ?_
  have hr : Tryz.f170.results = #[.tmp 2] := rfl
  have hs : Sl.isBlank (.mk k t l) = ((k == 1) && (t.kind == 8)) := rfl
  rw [hs]
  cases e1 : (k == 1)
  · simp only [go_sem, Nat.reduceLT, Nat.reduceEqDiff, Nat.reduceBEq, Nat.reduceAdd, Nat.reduceSub, Nat.reduceLeDiff, ty_fieldOff_49_0, ty_szOf_3, ty_shapeT_3, hr, e1]
  · simp only [go_sem, Nat.reduceLT, Nat.reduceEqDiff, Nat.reduceBEq, Nat.reduceAdd, Nat.reduceSub, Nat.reduceLeDiff, ty_fieldOff_49_0, ty_szOf_3, ty_shapeT_3, ty_fieldOff_49_1, ty_szOf_47, ty_fieldOff_47_0, hr, e1]
theorem signS_den (s : List UInt8) : den K 103 [T s] [] = some (.ret (.agg [.pv (.int .i64 7), .pv (.str s), .pv (.int .i64 0)]) []) := by
  refine den_run rfl rfl Tryz.func103 rfl Tryz.ntmps103 ⟨by simp, by simp [LK]⟩ ?_
  have hr : Tryz.f103.results = #[.cell 2 47] := rfl
  simp only [go_sem, Nat.reduceLT, reduceCtorEq, Nat.reduceEqDiff, Nat.reduceBEq, Nat.reduceAdd, Nat.reduceSub, Nat.reduceLeDiff, ty_shapeT_47, ty_zeroCells_47, ev_build ty_zeroCells_47 ty_placesOf_47, ty_szOf_47, hr]
abbrev trH (l : List Val) : St := { sl := upd bot 0 (L (encL l)), bx := nobox, nt := 33 }
noncomputable def trlp1 : Code := .loop (loopAt Tryz.f104 1)
noncomputable def trlp3 : Code := .loop (loopAt Tryz.f104 3)
theorem head_val (k : Int) (t : Tok) (c r : List Val) : (encL (.mk k t c :: r))[(0 : Int).toNat]? = some [.int .i64 k, .int .i64 t.kind, .str t.text, .int .i64 t.n, .sl (encL c)] := rfl
theorem cut_head (v : Val) (r : List Val) (n : Nat) (h : n = r.length + 1) : ((encL (v :: r)).take n).drop (1 : Int).toNat = encL r := by
  subst h
  rw [encL, List.take_of_length_le (by rw [List.length_cons, encL_len]; omega)]; rfl
theorem le00 : ((0 : Int) ≤ 0) = True := by simp
theorem tr1_yes (v : Val) (r : List Val) (hl : r.length ≤ 100000000) (hb : Sl.isBlank v = true) :
    exL K 104 trlp1 (trH (v :: r)) = exL K 104 trlp1 (trH r) := by
  obtain ⟨k, t, c⟩ := v
  have hlt : decide ((0 : Int) < (((r.length + 1 : Nat)) : Int)) = true := decide_eq_true (by omega)
  have hget := head_val k t c r
  have hcut := cut_head (.mk k t c) r (r.length + 1) rfl
  have hb1 : ((0 : Int) ≤ 1 ∧ (1 : Int) ≤ ((r.length + 1 : Nat) : Int)) = True := by rw [eq_iff_iff]; simp; omega
  have hlv := lens_valsK (.mk k t c :: r)
  have hd := blank3_den k t c
  rw [hb] at hd
  unfold trlp1
  conv in loopAt _ _ => whnf
  conv in loopAt _ _ => whnf
  conv in exL _ _ _ (trH (.mk k t c :: r)) => rw [exL_loop]
  simp only [go_sem, Nat.reduceLT, reduceCtorEq, Nat.reduceEqDiff, Nat.reduceBEq, Nat.reduceAdd, ev_len_sl ty_descOf_22, ev_indexAddr ty_descOf_22, ty_szOf_49, ty_shapeT_49, good_170, ev_slice_sl ty_descOf_22 ty_szOf_49, keep_104_1, encL_len, List.length_cons, hlt, hget, hd, hb1, hlv, hcut, le00]
  rw [exL_head]
  simp only [go_sem, reduceCtorEq, keep_104_1]
theorem tr1_no (v : Val) (r : List Val) (hl : r.length ≤ 100000000) (hb : Sl.isBlank v = false) :
    Ends (exL K 104 trlp1 (trH (v :: r))) fun o S => o = .exit 0 ∧ S.nt = 33 ∧ S.sl 0 = L (encL (v :: r)) := by
  obtain ⟨k, t, c⟩ := v
  have hlt : decide ((0 : Int) < (((r.length + 1 : Nat)) : Int)) = true := decide_eq_true (by omega)
  have hget := head_val k t c r
  have hd := blank3_den k t c
  rw [hb] at hd
  unfold trlp1
  conv in loopAt _ _ => whnf
  rw [exL_loop]
  simp only [go_sem, Nat.reduceLT, reduceCtorEq, Nat.reduceEqDiff, Nat.reduceBEq, Nat.reduceAdd, ev_len_sl ty_descOf_22, ev_indexAddr ty_descOf_22, ty_szOf_49, ty_shapeT_49, good_170, keep_104_1, encL_len, List.length_cons, hlt, hget, hd, le00, ends_some]
theorem tr1_end : Ends (exL K 104 trlp1 (trH [])) fun o S => o = .exit 0 ∧ S.nt = 33 ∧ S.sl 0 = L (encL []) := by
  have hlt : decide ((0 : Int) < ((0 : Nat) : Int)) = false := rfl
  unfold trlp1
  conv in loopAt _ _ => whnf
  rw [exL_loop]
  simp only [go_sem, Nat.reduceLT, reduceCtorEq, Nat.reduceEqDiff, Nat.reduceBEq, Nat.reduceAdd, ev_len_sl ty_descOf_22, keep_104_1, encL_len, List.length_nil, hlt, ends_some]
theorem tr1_loop : ∀ (l : List Val), l.length ≤ 100000000 → Ends (exL K 104 trlp1 (trH l)) fun o S => o = .exit 0 ∧ S.nt = 33 ∧ S.sl 0 = L (encL (l.dropWhile Sl.isBlank))
  | [], _ => tr1_end
  | v :: r, hl => by
    rw [List.length_cons] at hl
    cases hb : Sl.isBlank v with
    | true =>
      rw [tr1_yes v r (by omega) hb, List.dropWhile_cons, if_pos hb]
      exact tr1_loop r (by omega)
    | false =>
      rw [List.dropWhile_cons, if_neg (by rw [hb]; simp)]
      exact tr1_no v r (by omega) hb
theorem last_val (m : List Val) (k : Int) (t : Tok) (c : List Val) : (encL (m ++ [.mk k t c]))[((m.length : Nat) : Int).toNat]? = some [.int .i64 k, .int .i64 t.kind, .str t.text, .int .i64 t.n, .sl (encL c)] := by
  exact encL_get (m ++ [.mk k t c]) m.length (.mk k t c) (by simp)
theorem cut_last (m : List Val) (v : Val) : (encL (m ++ [v])).take m.length = encL m := by
  rw [encL_app, List.take_append_of_le_length (by rw [encL_len]; exact Nat.le_refl _), List.take_of_length_le (by rw [encL_len]; exact Nat.le_refl _)]
theorem tr3_yes (m : List Val) (v : Val) (hl : m.length ≤ 100000000) (hb : Sl.isBlank v = true) :
    exL K 104 trlp3 (trH (m ++ [v])) = exL K 104 trlp3 (trH m) := by
  obtain ⟨k, t, c⟩ := v
  have hn : (encL (m ++ [.mk k t c])).length = m.length + 1 := by rw [encL_len]; simp
  have hlt : decide ((0 : Int) < (((m.length + 1 : Nat)) : Int)) = true := decide_eq_true (by omega)
  have hw : IntKind.i64.wrap (((m.length + 1 : Nat) : Int) - 1) = (m.length : Int) := by rw [IntWalk.i64_in _ (by omega)]; omega
  have hget := last_val m k t c
  have hcut := cut_last m (.mk k t c)
  have hb1 : ((m.length : Int) ≤ ((m.length + 1 : Nat) : Int)) = True := by rw [eq_iff_iff]; simp; omega
  have hlv := lens_valsK (m ++ [.mk k t c])
  have hd := blank3_den k t c
  rw [hb] at hd
  rw [Int.toNat_natCast] at hget
  unfold trlp3
  conv in loopAt _ _ => whnf
  conv in loopAt _ _ => whnf
  conv in exL _ _ _ (trH (m ++ [.mk k t c])) => rw [exL_loop]
  simp only [go_sem, Nat.reduceLT, reduceCtorEq, Nat.reduceEqDiff, Nat.reduceBEq, Nat.reduceAdd, ev_len_sl ty_descOf_22, ev_indexAddr ty_descOf_22, ty_szOf_49, ty_shapeT_49, good_170, ev_slice_sl ty_descOf_22 ty_szOf_49, keep_104_3, hn, hlt, hw, Int.natCast_nonneg, Int.toNat_natCast, hget, hd, hb1, hlv, hcut]
  rw [exL_head]
  simp only [go_sem, reduceCtorEq, keep_104_3]
theorem tr3_no (m : List Val) (v : Val) (hl : m.length ≤ 100000000) (hb : Sl.isBlank v = false) :
    Ends (exL K 104 trlp3 (trH (m ++ [v]))) fun o S => o = .exit 2 ∧ S.nt = 33 ∧ S.sl 0 = L (encL (m ++ [v])) := by
  obtain ⟨k, t, c⟩ := v
  have hn : (encL (m ++ [.mk k t c])).length = m.length + 1 := by rw [encL_len]; simp
  have hlt : decide ((0 : Int) < (((m.length + 1 : Nat)) : Int)) = true := decide_eq_true (by omega)
  have hw : IntKind.i64.wrap (((m.length + 1 : Nat) : Int) - 1) = (m.length : Int) := by rw [IntWalk.i64_in _ (by omega)]; omega
  have hget := last_val m k t c
  have hd := blank3_den k t c
  rw [hb] at hd
  rw [Int.toNat_natCast] at hget
  unfold trlp3
  conv in loopAt _ _ => whnf
  rw [exL_loop]
  simp only [go_sem, Nat.reduceLT, reduceCtorEq, Nat.reduceEqDiff, Nat.reduceBEq, Nat.reduceAdd, ev_len_sl ty_descOf_22, ev_indexAddr ty_descOf_22, ty_szOf_49, ty_shapeT_49, good_170, keep_104_3, hn, hlt, hw, Int.natCast_nonneg, Int.toNat_natCast, hget, hd, ends_some]
theorem tr3_end : Ends (exL K 104 trlp3 (trH [])) fun o S => o = .exit 2 ∧ S.nt = 33 ∧ S.sl 0 = L (encL []) := by
  have hlt : decide ((0 : Int) < ((0 : Nat) : Int)) = false := rfl
  unfold trlp3
  conv in loopAt _ _ => whnf
  rw [exL_loop]
  simp only [go_sem, Nat.reduceLT, reduceCtorEq, Nat.reduceEqDiff, Nat.reduceBEq, Nat.reduceAdd, ev_len_sl ty_descOf_22, keep_104_3, encL_len, List.length_nil, hlt, ends_some]
theorem tr3_loop : ∀ (n : Nat) (l : List Val), l.length = n → l.length ≤ 100000000 → Ends (exL K 104 trlp3 (trH l)) fun o S => o = .exit 2 ∧ S.nt = 33 ∧ S.sl 0 = L (encL (l.reverse.dropWhile Sl.isBlank).reverse)
  | 0, l, h, _ => by
    obtain rfl : l = [] := List.eq_nil_of_length_eq_zero h
    exact tr3_end
  | n + 1, l, h, hl => by
    obtain ⟨m, v, rfl⟩ : ∃ m v, l = m ++ [v] := ⟨l.dropLast, l.getLast (fun e => by rw [e] at h; simp at h), (List.dropLast_concat_getLast _).symm⟩
    rw [List.length_append, List.length_singleton] at h hl
    rw [List.reverse_append, List.reverse_singleton, List.singleton_append]
    cases hb : Sl.isBlank v with
    | true =>
      rw [tr3_yes m v (by omega) hb, List.dropWhile_cons, if_pos hb]
      exact tr3_loop n m (by omega) (by omega)
    | false =>
      rw [List.dropWhile_cons, if_neg (by rw [hb]; simp), List.reverse_cons, List.reverse_reverse]
      exact tr3_no m v (by omega) hb
theorem Clone_den (l : List Val) (hl : l.length ≤ 1000000000) : den K 169 [L (encL l)] [] = some (.ret (L (encL l)) []) := by
  refine prim_run (F := pClone) rfl ?_
  show (if (encL l).length ≤ 1000000000 ∧ (encL l).all (fun el => el.length == 5) then _ else none) = _
  have h2 : (encL l).all (fun el => el.length == 5) = true := lens_valsK l
  rw [if_pos ⟨by rw [encL_len]; exact hl, h2⟩]
theorem TrimS_den (l : List Val) (hl : l.length ≤ 100000000) : den K 104 [L (encL l)] [] = some (.ret (L (encL (Sl.trim l))) []) := by
  have h1 := tr1_loop l hl
  have hlen := (List.dropWhile_sublist Sl.isBlank (l := l)).length_le
  have h3 := tr3_loop _ (l.dropWhile Sl.isBlank) rfl (by omega)
  unfold trlp1 at h1
  conv at h1 in loopAt _ _ => whnf
  obtain ⟨o, S, w, rfl, hn, s0⟩ := h1
  unfold trlp3 at h3
  conv at h3 in loopAt _ _ => whnf
  obtain ⟨o', S', w', rfl, hn', s0'⟩ := h3
  have hc := Clone_den (Sl.trim l) (by have := Sl.trim_len l; omega)
  have e : (((l.dropWhile Sl.isBlank).reverse).dropWhile Sl.isBlank).reverse = Sl.trim l := rfl
  rw [e] at s0'
  refine den_run rfl rfl Tryz.func104 rfl Tryz.ntmps104 ⟨by simp, by simp [LK]⟩ ?_
  have hr : Tryz.f104.results = #[.tmp 2] := rfl
  simp only [go_sem, Nat.reduceLT, Nat.reduceBEq]
  rw [exL_head]
  simp only [go_sem, reduceCtorEq, keep_104_1]
  erw [w]
  simp only [go_sem]
  rw [exL_head]
  simp only [go_sem, keep_104_3, hn, s0]
  erw [w']
  simp only [go_sem, Nat.reduceLT, Nat.reduceEqDiff, Nat.reduceBEq, Nat.reduceAdd, good_169, hr, hn', s0', hc]
theorem isSign_eq (s : List UInt8) : SR.isSign s = Sl.isSign s := by funext v; cases v; rfl
theorem cutL_cut (p : Val → Bool) : ∀ l : List Val, cutL p l = Sl.cut p l
  | [] => rfl
  | v :: l => by
    rw [cutL, Sl.cut, cutL_cut p l]
    all_goals (cases Sl.cut p l <;> rfl)
theorem cut_at (s : List UInt8) : ∀ l : List Val, Sl.cut (Sl.isSign s) l = Sl.at_ s l
  | [] => rfl
  | v :: l => by
    rw [Sl.cut, Sl.at_, cut_at s l]
    all_goals (cases Sl.at_ s l <;> rfl)
theorem AtS_den (l : List Val) (s : List UInt8) (hl : Ne.size l ≤ 100000000) : den K 52 [L (encL l), T s] [] = some (.ret (L (encP (Sl.at_ s l))) []) := by
  refine prim_run (F := pAt) rfl ?_
  have hlen := Ne.length_size l
  show (match decVals (encL l) with | some vs => if vs.length ≤ 100000000 then some ((.c (.pv (.sl (encPP (cutL (SR.isSign s) vs)))) : AV), ([] : List (List CV))) else none | none => none) = _
  rw [dec_encL l (by omega)]
  simp only
  rw [if_pos (by omega), isSign_eq, cutL_cut, cut_at]
end Go.Abs
namespace Go.Abs
open Go Go.Proofs
set_option maxRecDepth 10000
attribute [local go_sem] exL_seq exL_region exL_cond exL_block exL_scope exL_ret exL_skip exL_exit runRegion runOps stepOp guardA absOp takeOver opd avOf cvOf St.degAt St.put okPV okVal okAV absBin intBin strBin boolBin setBoxes if_true Bool.false_eq_true if_false Option.map_some Option.map_none Option.bind_some Option.bind_none thenO outOf upd List.toList_toArray isOwn steal appArgs mvB inApps AV.deg CV.deg AV.gv AV.isIter absNext some_bne some_beqN List.length_nil List.length_cons List.filterMap_cons List.filterMap_nil beq_iff_eq List.getElem?_cons_zero List.getElem?_cons_succ Option.getD_some K_hook hookB Bool.false_and Bool.and_false Bool.and_self K_P K_own absCall doCall getBoxes lend back idx dedup AV.ren CV.ren TV.ren AV.ptrs CV.ptrs zipBox AV.flat CV.flat absLoad absStore cellsOfAV setAt newBox markB bldTypes absFieldAddr absField absExtract absAssert noAssert absMkIface ifcOf CV.pv? content pushHead ownT fillCells reps pvs chunks enterSt leave resOf resVars resVar outBoxes lentOnly TV.deg TV.av LK CV.plain CV.noBld nilBin absUn bound List.map_cons List.map_nil List.all_cons List.all_nil List.any_cons List.any_nil List.contains_cons List.contains_nil List.elem_cons List.elem_nil List.cons_append List.nil_append List.append_nil List.flatMap_cons List.flatMap_nil List.zip_cons_cons List.zip_nil_left List.zip_nil_right List.take_succ_cons List.take_zero List.take_nil List.drop_succ_cons List.drop_zero List.drop_nil List.isEmpty_nil List.isEmpty_cons Bool.and_true Bool.true_and Bool.or_true Bool.true_or Bool.or_false Bool.false_or Bool.not_true Bool.not_false Nat.add_zero Nat.zero_add Option.isNone_none Option.isNone_some Option.getD_none true_and and_true not_true_eq_false not_false_eq_true decide_true decide_false Nat.le_refl and_self Bool.not_eq_true Nat.sub_self or_true true_or Option.some.injEq List.length_map List.nil_eq and_false false_and AV.live CV.live CV.liveIn K_keep firstReg Option.orElse_some Option.orElse_none head keepSlots keepBoxes Int.lt_irrefl List.length_append ite_self memOK logOps opKey lentBoxes Key.clash Key.sees Key.writes Nat.lt_irrefl gt_iff_lt nobox_at bot_at false_or or_false beq_self_eq_true Bool.true_beq Bool.false_beq
theorem encP_len (a : List (List Val)) : (encP a).length = a.length := List.length_map ..
theorem part_at (a : List (List Val)) (i : Nat) (p : List Val) (h : a[i]? = some p) : (encP a)[(i : Int).toNat]? = some [.sl (encL p)] := by
  rw [Int.toNat_natCast, List.getElem?_map, h]; rfl
end Go.Abs
namespace Go.Abs
open Go Go.Proofs
set_option maxRecDepth 10000
attribute [local go_sem] exL_seq exL_region exL_cond exL_block exL_scope exL_ret exL_skip exL_exit runRegion runOps stepOp guardA absOp takeOver opd avOf cvOf St.degAt St.put okPV okVal okAV absBin intBin strBin boolBin setBoxes if_true Bool.false_eq_true if_false Option.map_some Option.map_none Option.bind_some Option.bind_none thenO outOf upd List.toList_toArray isOwn steal appArgs mvB inApps AV.deg CV.deg AV.gv AV.isIter absNext some_bne some_beqN List.length_nil List.length_cons List.filterMap_cons List.filterMap_nil beq_iff_eq List.getElem?_cons_zero List.getElem?_cons_succ Option.getD_some K_hook hookB Bool.false_and Bool.and_false Bool.and_self K_P K_own absCall doCall getBoxes lend back idx dedup AV.ren CV.ren TV.ren AV.ptrs CV.ptrs zipBox AV.flat CV.flat absLoad absStore cellsOfAV setAt newBox markB bldTypes absFieldAddr absField absExtract absAssert noAssert absMkIface ifcOf CV.pv? content pushHead ownT fillCells reps pvs chunks enterSt leave resOf resVars resVar outBoxes lentOnly TV.deg TV.av LK CV.plain CV.noBld nilBin absUn bound List.map_cons List.map_nil List.all_cons List.all_nil List.any_cons List.any_nil List.contains_cons List.contains_nil List.elem_cons List.elem_nil List.cons_append List.nil_append List.append_nil List.flatMap_cons List.flatMap_nil List.zip_cons_cons List.zip_nil_left List.zip_nil_right List.take_succ_cons List.take_zero List.take_nil List.drop_succ_cons List.drop_zero List.drop_nil List.isEmpty_nil List.isEmpty_cons Bool.and_true Bool.true_and Bool.or_true Bool.true_or Bool.or_false Bool.false_or Bool.not_true Bool.not_false Nat.add_zero Nat.zero_add Option.isNone_none Option.isNone_some Option.getD_none true_and and_true not_true_eq_false not_false_eq_true decide_true decide_false Nat.le_refl and_self Bool.not_eq_true Nat.sub_self or_true true_or Option.some.injEq List.length_map List.nil_eq and_false false_and AV.live CV.live CV.liveIn K_keep firstReg Option.orElse_some Option.orElse_none head keepSlots keepBoxes Int.lt_irrefl List.length_append ite_self memOK logOps opKey lentBoxes Key.clash Key.sees Key.writes Nat.lt_irrefl gt_iff_lt nobox_at bot_at false_or or_false beq_self_eq_true Bool.true_beq Bool.false_beq
theorem appV (a b : List Val) : encL a ++ encL b = encL (a ++ b) := (encL_app a b).symm
theorem snoc_sign (a : List Val) (d : List UInt8) : encL a ++ [[PV.int .i64 1, .int .i64 7, .str d, .int .i64 0, .sl []]] = encL (a ++ [Sl.signV d]) := by
  rw [encL_app]; rfl
abbrev sjH (d : List UInt8) (ps : List (List Val)) (e : Nat) (out : List Val) (i : Nat) : St :=
  { sl := upd (upd (upd (upd (upd bot 10 (I i)) 9 (I ps.length)) 8 (L (encP ps))) 5 (.c (.own e (encL out)))) 1 (T d), bx := nobox, nt := 28 }
noncomputable def sjlp : Code := .loop (loopAt Tryz.f58 3)
theorem sj_zero (d : List UInt8) (ps : List (List Val)) (e : Nat) (out p : List Val) (hi : ps[0]? = some p) (hl : ps.length ≤ 100000000) (ho : out.length + p.length ≤ 100000000) (he : e = 49 ∨ out = []) :
    exL K 58 sjlp (sjH d ps e out 0) = exL K 58 sjlp (sjH d ps 49 (out ++ p) 1) := by
  have hil : 0 < ps.length := (List.getElem?_eq_some_iff.1 hi).1
  have hlt : decide (((0 : Nat) : Int) < (ps.length : Int)) = true := decide_eq_true (by omega)
  have hget := part_at ps 0 p hi
  have h0 : decide ((0 : Int) < ((0 : Nat) : Int)) = false := rfl
  have hws : IntKind.i64.wrap (((0 : Nat) : Int) + 1) = ((1 : Nat) : Int) := by decide
  have hown : e = 49 ∨ (encL out).isEmpty = true := by
    rcases he with rfl | rfl
    · exact .inl rfl
    · exact .inr rfl
  have hlim : out.length + p.length < appLim := by unfold appLim; omega
  have hlv := lens_valsK out
  have hlv2 := lens_valsK p
  unfold sjlp
  conv in loopAt _ _ => whnf
  conv in loopAt _ _ => whnf
  conv in exL _ _ _ (sjH d ps e out 0) => rw [exL_loop]
  simp only [go_sem, Nat.reduceLT, reduceCtorEq, Nat.reduceEqDiff, Nat.reduceBEq, Nat.reduceAdd, Nat.reduceLeDiff, Nat.reduceMul, ev_indexAddr ty_descOf_41, ty_szOf_22, ty_shapeT_22, good_103, ev_build ty_zeroCells_49 ty_placesOf_49, ev_buildSlice (len := 1) ty_descOf_22 ty_szOf_49 ty_zeroCells_49 ⟨rfl, by decide, by decide⟩, ev_append ty_appInfo_22, ev_appNew_sl ty_descOf_22, keep_58_3, encL_len, hlt, hget, Int.natCast_nonneg, h0, hws, hown, hlim, hlv, hlv2, appV]
  rw [exL_head]
  simp only [go_sem, Nat.reduceEqDiff, keep_58_3]
theorem sj_pos (d : List UInt8) (ps : List (List Val)) (e : Nat) (out p : List Val) (i : Nat) (h0 : 0 < i) (hi : ps[i]? = some p) (hl : ps.length ≤ 100000000) (ho : out.length + p.length < 100000000) (he : e = 49 ∨ out = []) :
    exL K 58 sjlp (sjH d ps e out i) = exL K 58 sjlp (sjH d ps 49 (out ++ [Sl.signV d] ++ p) (i + 1)) := by
  have hil : i < ps.length := (List.getElem?_eq_some_iff.1 hi).1
  have hlt : decide ((i : Int) < (ps.length : Int)) = true := decide_eq_true (by omega)
  have hget := part_at ps i p hi
  have h0' : decide ((0 : Int) < (i : Int)) = true := decide_eq_true (by omega)
  have hws : IntKind.i64.wrap ((i : Int) + 1) = ((i + 1 : Nat) : Int) := wrap_nat i (by omega)
  have hown : e = 49 ∨ (encL out).isEmpty = true := by
    rcases he with rfl | rfl
    · exact .inl rfl
    · exact .inr rfl
  have hsl : (out ++ [Sl.signV d]).length = out.length + 1 := by simp
  have hlim : out.length + 1 < appLim := by unfold appLim; omega
  have hlim2 : (out ++ [Sl.signV d]).length + p.length < appLim := by rw [hsl]; unfold appLim; omega
  have hlv := lens_valsK out
  have hlv1 := lens_valsK (out ++ [Sl.signV d])
  have hlv2 := lens_valsK p
  have hsg := signS_den d
  generalize hO : out ++ [Sl.signV d] = O at hlim2 hlv1
  have hsn := snoc_sign out d
  rw [hO] at hsn
  unfold sjlp
  conv in loopAt _ _ => whnf
  conv in loopAt _ _ => whnf
  conv in exL _ _ _ (sjH d ps e out i) => rw [exL_loop]
  simp only [go_sem, Nat.reduceLT, reduceCtorEq, Nat.reduceEqDiff, Nat.reduceBEq, Nat.reduceAdd, Nat.reduceLeDiff, Nat.reduceMul, ev_indexAddr ty_descOf_41, ty_szOf_22, ty_shapeT_22, good_103, ev_build ty_zeroCells_49 ty_placesOf_49, ev_buildSlice (len := 1) ty_descOf_22 ty_szOf_49 ty_zeroCells_49 ⟨rfl, by decide, by decide⟩, ev_append ty_appInfo_22, ev_appNew_sl ty_descOf_22, keep_58_3, encL_len, hlt, hget, Int.natCast_nonneg, h0', hws, hown, hlim, hlim2, hlv, hlv1, hlv2, lens_valK, hsg, hsn, appV]
  rw [exL_head]
  simp only [go_sem, Nat.reduceEqDiff, keep_58_3]
theorem sj_end (d : List UInt8) (ps : List (List Val)) (e : Nat) (out : List Val) : Ends (exL K 58 sjlp (sjH d ps e out ps.length)) fun o S => o = .exit 0 ∧ S.nt = 28 ∧ S.sl 5 = .c (.own e (encL out)) := by
  unfold sjlp
  conv in loopAt _ _ => whnf
  rw [exL_loop]
  simp only [go_sem, Nat.reduceLT, Nat.reduceEqDiff, Nat.reduceBEq, keep_58_3, ends_some]
theorem sj_loop (d : List UInt8) (ps : List (List Val)) (hl : ps.length ≤ 100000000) : ∀ (rest : List (List Val)) (i e : Nat) (out : List Val), ps.drop i = rest → 0 < i → i ≤ ps.length → (e = 49 ∨ out = []) → out.length + (Sl.joins d rest).length < 100000000 →
    Ends (exL K 58 sjlp (sjH d ps e out i)) fun o S => o = .exit 0 ∧ S.nt = 28 ∧ ∃ f, S.sl 5 = .c (.own f (encL (out ++ Sl.joins d rest)))
  | [], i, e, out, hd, h0, hi, he, ho => by
    have hin : i = ps.length := by
      have := List.drop_eq_nil_iff.1 hd
      omega
    subst hin
    refine ends_imp (sj_end d ps e out) fun o S q => ⟨q.1, q.2.1, e, ?_⟩
    rw [Sl.joins_nil, List.append_nil]
    exact q.2.2
  | p :: rest, i, e, out, hd, h0, hi, he, ho => by
    obtain ⟨g1, g2, g3⟩ := drop_cons hd
    rw [Sl.joins_cons, List.length_cons, List.length_append] at ho
    rw [sj_pos d ps e out p i h0 g1 hl (by omega) he]
    have := sj_loop d ps hl rest (i + 1) 49 (out ++ [Sl.signV d] ++ p) g2 (by omega) (by omega) (.inl rfl) (by simp only [List.length_append, List.length_singleton]; omega)
    rw [Sl.joins_cons]
    simp only [List.append_assoc, List.singleton_append] at this ⊢
    exact this
theorem JoinS_den (d : List UInt8) (ps : List (List Val)) (hl : ps.length ≤ 100000000) (ho : (Sl.join d ps).length < 100000000) : den K 58 [L (encP ps), T d] [] = some (.ret (L (encL (Sl.join d ps))) []) := by
  have key : Ends (exL K 58 sjlp (sjH d ps 0 [] 0)) fun o S => o = .exit 0 ∧ S.nt = 28 ∧ ∃ f, S.sl 5 = .c (.own f (encL (Sl.join d ps))) := by
    cases ps with
    | nil => exact ends_imp (sj_end d [] 0 []) fun o S q => ⟨q.1, q.2.1, 0, q.2.2⟩
    | cons p ps =>
      rw [Sl.join, List.length_append] at ho
      rw [sj_zero d (p :: ps) 0 [] p rfl hl (by rw [List.length_nil]; omega) (.inr rfl)]
      refine ends_imp (sj_loop d (p :: ps) hl ps 1 49 ([] ++ p) rfl (by omega) (by simp) (.inl rfl) (by rw [List.nil_append]; omega)) fun o S q => ?_
      rw [List.nil_append] at q
      exact q
  unfold sjlp at key
  conv at key in loopAt _ _ => whnf
  obtain ⟨o, S, w, rfl, hn, f, s5⟩ := key
  have e0 : encL [] = [] := rfl
  have z0 : ((0 : Nat) : Int) = 0 := rfl
  simp only [sjH, e0, z0] at w
  refine den_run rfl rfl Tryz.func58 rfl Tryz.ntmps58 ⟨by simp, by simp [LK]⟩ ?_
  have hr : Tryz.f58.results = #[.tmp 4] := rfl
  simp only [go_sem, Nat.reduceLT, reduceCtorEq, Nat.reduceEqDiff, Nat.reduceBEq, Nat.reduceAdd, ev_len_sl ty_descOf_41, encP_len]
  rw [exL_head]
  simp only [go_sem, Nat.reduceEqDiff, keep_58_3]
  erw [w]
  simp only [go_sem, Nat.reduceLT, Nat.reduceEqDiff, Nat.reduceBEq, Nat.reduceAdd, hr, hn, s5]
end Go.Abs
namespace Go.Abs
open Go Go.Proofs
theorem low_byte (c : UInt8) : lowB c = Sl.low1 c := by
  have e1 : (65 : UInt8) ≤ c ↔ 65 ≤ c.toNat := UInt8.le_iff_toNat_le
  have e2 : c ≤ (90 : UInt8) ↔ c.toNat ≤ 90 := UInt8.le_iff_toNat_le
  unfold lowB Sl.low1
  by_cases h : 65 ≤ c.toNat ∧ c.toNat ≤ 90
  · rw [if_pos h, if_pos ⟨e1.2 h.1, e2.2 h.2⟩]
  · rw [if_neg h, if_neg (fun k => h ⟨e1.1 k.1, e2.1 k.2⟩)]
theorem Low_den (s : List UInt8) (h : s.length < 1000000000) : den K 76 [T s] [] = some (.ret (T (Sl.low s)) []) := by
  have e : Sl.low s = s.map lowB := by unfold Sl.low; exact List.map_congr_left fun c _ => (low_byte c).symm
  rw [e]
  exact prim_run (F := pLow) rfl (by unfold pLow; simp only; rw [if_pos (by unfold strLim; omega)])
end Go.Abs
namespace Go.Abs
open Go Go.Proofs
set_option maxRecDepth 10000
attribute [local go_sem] exL_seq exL_region exL_cond exL_block exL_scope exL_ret exL_skip exL_exit runRegion runOps stepOp guardA absOp takeOver opd avOf cvOf St.degAt St.put okPV okVal okAV absBin intBin strBin boolBin setBoxes if_true Bool.false_eq_true if_false Option.map_some Option.map_none Option.bind_some Option.bind_none thenO outOf upd List.toList_toArray isOwn steal appArgs mvB inApps AV.deg CV.deg AV.gv AV.isIter absNext some_bne some_beqN List.length_nil List.length_cons List.filterMap_cons List.filterMap_nil beq_iff_eq List.getElem?_cons_zero List.getElem?_cons_succ Option.getD_some K_hook hookB Bool.false_and Bool.and_false Bool.and_self K_P K_own absCall doCall getBoxes lend back idx dedup AV.ren CV.ren TV.ren AV.ptrs CV.ptrs zipBox AV.flat CV.flat absLoad absStore cellsOfAV setAt newBox markB bldTypes absFieldAddr absField absExtract absAssert noAssert absMkIface ifcOf CV.pv? content pushHead ownT fillCells reps pvs chunks enterSt leave resOf resVars resVar outBoxes lentOnly TV.deg TV.av LK CV.plain CV.noBld nilBin absUn bound List.map_cons List.map_nil List.all_cons List.all_nil List.any_cons List.any_nil List.contains_cons List.contains_nil List.elem_cons List.elem_nil List.cons_append List.nil_append List.append_nil List.flatMap_cons List.flatMap_nil List.zip_cons_cons List.zip_nil_left List.zip_nil_right List.take_succ_cons List.take_zero List.take_nil List.drop_succ_cons List.drop_zero List.drop_nil List.isEmpty_nil List.isEmpty_cons Bool.and_true Bool.true_and Bool.or_true Bool.true_or Bool.or_false Bool.false_or Bool.not_true Bool.not_false Nat.add_zero Nat.zero_add Option.isNone_none Option.isNone_some Option.getD_none true_and and_true not_true_eq_false not_false_eq_true decide_true decide_false Nat.le_refl and_self Bool.not_eq_true Nat.sub_self or_true true_or Option.some.injEq List.length_map List.nil_eq and_false false_and AV.live CV.live CV.liveIn K_keep firstReg Option.orElse_some Option.orElse_none head keepSlots keepBoxes Int.lt_irrefl List.length_append ite_self memOK logOps opKey lentBoxes Key.clash Key.sees Key.writes Nat.lt_irrefl gt_iff_lt nobox_at bot_at false_or or_false beq_self_eq_true Bool.true_beq Bool.false_beq
abbrev U (c : UInt8) : AV := .c (.pv (.int .u8 c.toNat))
theorem digit_eq (c : UInt8) : Tk.digit c = (decide ((48 : Int) ≤ (c.toNat : Int)) && decide ((c.toNat : Int) ≤ 57)) := by
  unfold Tk.digit; rw [← Bool.decide_and]; exact decide_eq_decide.2 (by omega)
theorem begins_eq (c : UInt8) : Tk.begins c = ((decide ((97 : Int) ≤ (c.toNat : Int)) && decide ((c.toNat : Int) ≤ 122)) || (decide ((65 : Int) ≤ (c.toNat : Int)) && decide ((c.toNat : Int) ≤ 90)) || ((c.toNat : Int) == 95) || decide ((128 : Int) ≤ (c.toNat : Int))) := by
  have e : ((c.toNat : Int) == 95) = decide ((c.toNat : Int) = 95) := by
    by_cases h : (c.toNat : Int) = 95 <;> simp [h]
  rw [e]
  unfold Tk.begins
  rw [← Bool.decide_and, ← Bool.decide_and, ← Bool.decide_or, ← Bool.decide_or, ← Bool.decide_or]
  exact decide_eq_decide.2 (by omega)
theorem u8_beq (c d : UInt8) : ((c.toNat : Int) == (d.toNat : Int)) = (c == d) := by
  by_cases e : c = d
  · subst e; simp
  · have : c.toNat ≠ d.toNat := fun h2 => e (UInt8.toNat_inj.1 h2)
    rw [beq_eq_false_iff_ne.2 e, beq_eq_false_iff_ne.2 (by omega)]
theorem digit_den (c : UInt8) : den K 250 [U c] [] = some (.ret (B (Tk.digit c)) []) := by
  refine den_run rfl rfl Tryz.func250 rfl Tryz.ntmps250 ⟨by simp, by simp [LK]⟩ ?_
  have hr : Tryz.f250.results = #[.tmp 2] := rfl
  rw [digit_eq]
  cases b1 : decide ((48 : Int) ≤ (c.toNat : Int)) <;> cases b2 : decide ((c.toNat : Int) ≤ 57) <;> simp only [go_sem, Nat.reduceLT, reduceCtorEq, Nat.reduceEqDiff, Nat.reduceBEq, Nat.reduceAdd, hr, b1, b2]
set_option maxHeartbeats 8000000 in
theorem begins_den (c : UInt8) : den K 273 [U c] [] = some (.ret (B (Tk.begins c)) []) := by
  refine den_run rfl rfl Tryz.func273 rfl Tryz.ntmps273 ⟨by simp, by simp [LK]⟩ ?_
  have hr : Tryz.f273.results = #[.tmp 2] := rfl
  rw [begins_eq]
  cases b1 : decide ((97 : Int) ≤ (c.toNat : Int)) <;> cases b2 : decide ((c.toNat : Int) ≤ 122) <;> cases b3 : decide ((65 : Int) ≤ (c.toNat : Int)) <;> cases b4 : decide ((c.toNat : Int) ≤ 90) <;> cases b5 : ((c.toNat : Int) == 95) <;> cases b6 : decide ((128 : Int) ≤ (c.toNat : Int)) <;> simp only [go_sem, Nat.reduceLT, reduceCtorEq, Nat.reduceEqDiff, Nat.reduceBEq, Nat.reduceAdd, hr, b1, b2, b3, b4, b5, b6]
theorem within_den (c : UInt8) : den K 249 [U c] [] = some (.ret (B (Tk.within c)) []) := by
  have d1 := begins_den c
  have d2 := digit_den c
  have e45 : ((c.toNat : Int) == 45) = (c == 45) := u8_beq c 45
  refine den_run rfl rfl Tryz.func249 rfl Tryz.ntmps249 ⟨by simp, by simp [LK]⟩ ?_
  have hr : Tryz.f249.results = #[.tmp 2] := rfl
  unfold Tk.within
  cases b1 : Tk.begins c <;> cases b2 : Tk.digit c <;> cases b3 : (c == 45) <;> rw [b1] at d1 <;> rw [b2] at d2 <;> rw [b3] at e45 <;> simp only [go_sem, Nat.reduceLT, reduceCtorEq, Nat.reduceEqDiff, Nat.reduceBEq, Nat.reduceAdd, good_273, good_250, hr, d1, d2, e45]
theorem at0_drop (s : List UInt8) (i : Nat) : (s[i]? = none ∧ Tk.at0 (s.drop i) = 0 ∧ s.length ≤ i) ∨ (i < s.length ∧ s[i]? = some (Tk.at0 (s.drop i))) := by
  by_cases h : i < s.length
  · right
    refine ⟨h, ?_⟩
    rw [List.drop_eq_getElem_cons h, Tk.at0_cons, List.getElem?_eq_getElem h]
  · left
    refine ⟨List.getElem?_eq_none (by omega), ?_, by omega⟩
    rw [List.drop_eq_nil_of_le (by omega)]; rfl
theorem at_den (s : List UInt8) (i : Nat) (hs : s.length < 1000000000000) : den K 241 [T s, I i] [] = some (.ret (U (Tk.at0 (s.drop i))) []) := by
  refine den_run rfl rfl Tryz.func241 rfl Tryz.ntmps241 ⟨by simp, by simp [LK]⟩ ?_
  have hr : Tryz.f241.results = #[.tmp 4] := rfl
  rcases at0_drop s i with ⟨h1, h2, h3⟩ | ⟨h1, h2⟩
  · have hlt : decide ((i : Int) < (s.length : Int)) = false := decide_eq_false (by omega)
    rw [h2]
    simp only [go_sem, Nat.reduceLT, reduceCtorEq, Nat.reduceEqDiff, Nat.reduceBEq, Nat.reduceAdd, ev_len_str ty_descOf_217, ev_index ty_descOf_217, hr, hlt]
    rfl
  · have hlt : decide ((i : Int) < (s.length : Int)) = true := decide_eq_true (by omega)
    simp only [go_sem, Nat.reduceLT, reduceCtorEq, Nat.reduceEqDiff, Nat.reduceBEq, Nat.reduceAdd, ev_len_str ty_descOf_217, ev_index ty_descOf_217, hr, hlt, Int.natCast_nonneg, Int.toNat_natCast, h2]
abbrev FN (f : Nat) : AV := .c (.fn f [])
abbrev runH (s : List UInt8) (from_ : Nat) (f n : Nat) : St := { sl := upd (upd (upd (upd bot 7 (I n)) 2 (FN f)) 1 (I from_)) 0 (T s), bx := upd nobox 100000 none, nt := 26 }
theorem run_loop (s : List UInt8) (hs : s.length < 1000000000000) (p : UInt8 → Bool) (f : Nat) (hg : K.good f = true) (hown : K.ownRet f = false) (hf : ∀ c, den K f [U c] [] = some (.ret (B (p c)) [])) (from_ : Nat) : ∀ (rest : List UInt8) (n : Nat), s.drop (from_ + n) = rest → from_ + n ≤ s.length →
    Ends (exL K 247 (.loop (loopAt Tryz.f247 2)) (runH s from_ f n)) fun o S => o = .exit 0 ∧ S.sl 7 = I (n + Tk.run p rest : Nat) ∧ S.nt = 26 := by
  intro rest
  induction rest with
  | nil =>
    intro n hd hn
    have hin : from_ + n = s.length := by
      have := List.drop_eq_nil_iff.1 hd
      omega
    have w1 : IntKind.i64.wrap ((from_ : Int) + (n : Int)) = ((from_ + n : Nat) : Int) := by rw [IntWalk.i64_in _ (by omega)]; rfl
    have hlt : decide (((from_ + n : Nat) : Int) < (s.length : Int)) = false := decide_eq_false (by omega)
    conv in loopAt _ _ => whnf
    rw [exL_loop]
    simp only [go_sem, Nat.reduceLT, reduceCtorEq, Nat.reduceEqDiff, Nat.reduceBEq, Nat.reduceAdd, ev_len_str ty_descOf_217, keep_247_2, ends_some, w1, hlt, Tk.run_nil]
  | cons c rest ih =>
    intro n hd hn
    obtain ⟨g1, g2, g3⟩ := drop_cons hd
    have w1 : IntKind.i64.wrap ((from_ : Int) + (n : Int)) = ((from_ + n : Nat) : Int) := by rw [IntWalk.i64_in _ (by omega)]; rfl
    have hlt : decide (((from_ + n : Nat) : Int) < (s.length : Int)) = true := decide_eq_true (by omega)
    have hc := hf c
    have ih' := ih (n + 1) g2 (by omega)
    conv at ih' in loopAt _ _ => whnf
    conv in loopAt _ _ => whnf
    rw [exL_loop]
    cases hp : p c
    · rw [hp] at hc
      have hv : Tk.run p (c :: rest) = 0 := by rw [Tk.run, if_neg (by simp [hp])]
      simp only [go_sem, Nat.reduceLT, reduceCtorEq, Nat.reduceEqDiff, Nat.reduceBEq, Nat.reduceAdd, ev_len_str ty_descOf_217, ev_index ty_descOf_217, keep_247_2, ends_some, w1, hlt, hg, hown, hc, Int.natCast_nonneg, Int.toNat_natCast, g1, hv]
    · rw [hp] at hc
      have hv : n + 1 + Tk.run p rest = n + Tk.run p (c :: rest) := by rw [Tk.run, if_pos hp]; omega
      rw [hv] at ih'
      simp only [go_sem, Nat.reduceLT, reduceCtorEq, Nat.reduceEqDiff, Nat.reduceBEq, Nat.reduceAdd, ev_len_str ty_descOf_217, ev_index ty_descOf_217, keep_247_2, w1, hlt, hg, hown, hc, Int.natCast_nonneg, Int.toNat_natCast, g1, wrap_nat n (by omega)]
      rw [exL_head]
      simp only [go_sem, reduceCtorEq, Nat.reduceEqDiff, keep_247_2]
      exact ih'
theorem run_den (s : List UInt8) (hs : s.length < 1000000000000) (p : UInt8 → Bool) (f : Nat) (hg : K.good f = true) (hown : K.ownRet f = false) (hf : ∀ c, den K f [U c] [] = some (.ret (B (p c)) [])) (from_ : Nat) (h : from_ ≤ s.length) : den K 247 [T s, I from_, FN f] [] = some (.ret (I (Tk.run p (s.drop from_) : Nat)) []) := by
  refine den_run rfl rfl Tryz.func247 rfl Tryz.ntmps247 ⟨by simp, by simp [LK]⟩ ?_
  have hr : Tryz.f247.results = #[.tmp 6] := rfl
  have hnext := run_loop s hs p f hg hown hf from_ (s.drop from_) 0 rfl (by omega)
  conv at hnext in loopAt _ _ => whnf
  obtain ⟨o, S', e, rfl, h7, hn⟩ := hnext
  rw [Nat.zero_add] at h7
  simp only [go_sem, Nat.reduceLT, Nat.reduceBEq]
  rw [exL_head]
  simp only [go_sem, reduceCtorEq, Nat.reduceEqDiff, keep_247_2]
  erw [e]
  simp only [go_sem, Nat.reduceLT, Nat.reduceEqDiff, Nat.reduceBEq, Nat.reduceAdd, hr, h7, hn]
end Go.Abs
namespace Go.Abs
open Go Go.Proofs
set_option maxRecDepth 10000
theorem name_den (s : List UInt8) (hs : s.length < 4000000000) (i : Nat) (h : i ≤ s.length) : den K 242 [T s, I i] [] = some (.ret (I (Tk.name (s.drop i) : Nat)) []) := by
  have d1 := at_den s i (by omega)
  have d2 := at_den s (i + 1) (by omega)
  have ht : (s.drop i).tail = s.drop (i + 1) := List.tail_drop
  have hrun := run_den s (by omega) Tk.within 249 good_249 rfl within_den i h
  unfold Tk.name Tk.nameB
  rw [ht]
  generalize Tk.at0 (s.drop i) = c at d1
  generalize Tk.at0 (s.drop (i + 1)) = d at d2
  have b1 := begins_den c
  have b2 := begins_den d
  have e1 : ((c.toNat : Int) == 45) = (c == 45) := u8_beq c 45
  have e2 : ((d.toNat : Int) == 45) = (d == 45) := u8_beq d 45
  refine den_run rfl rfl Tryz.func242 rfl Tryz.ntmps242 ⟨by simp, by simp [LK]⟩ ?_
  have hr : Tryz.f242.results = #[.tmp 4] := rfl
  cases h1 : Tk.begins c
  · rw [h1] at b1
    cases h2 : (c == 45)
    · rw [h2] at e1
      simp only [exL_seq, exL_region, exL_cond, exL_ret, exL_skip, runRegion, runOps, stepOp, guardA, absOp, takeOver, opd, avOf, cvOf, St.degAt, St.put, okPV, okVal, absBin, intBin, setBoxes, if_true, Bool.false_eq_true, if_false, Option.map_some, Option.map_none, Option.bind_some, thenO, upd, List.toList_toArray, isOwn, steal, appArgs, mvB, inApps, AV.deg, CV.deg, AV.gv, AV.isIter, some_beqN, Nat.reduceLT, reduceCtorEq, Nat.reduceEqDiff, List.length_nil, List.length_cons, List.filterMap_cons, List.filterMap_nil, List.getElem?_cons_zero, List.getElem?_cons_succ, Option.getD_some, K_hook, hookB, Nat.reduceBEq, Bool.false_and, Bool.and_self, K_P, K_own, absCall, doCall, getBoxes, lend, back, idx, dedup, AV.ren, CV.ren, AV.ptrs, CV.ptrs, zipBox, AV.flat, CV.flat, enterSt, leave, resOf, resVars, resVar, outBoxes, lentOnly, TV.deg, TV.av, LK, List.map_cons, List.map_nil, List.all_cons, List.all_nil, List.any_nil, List.contains_nil, List.append_nil, List.flatMap_cons, List.flatMap_nil, List.zip_nil_left, List.zip_nil_right, List.isEmpty_nil, Bool.or_true, Bool.or_false, Bool.not_true, Bool.not_false, Nat.reduceAdd, Nat.zero_add, List.toList_toArray, Option.some.injEq, ite_self, memOK, logOps, opKey, lentBoxes, Key.clash, Key.sees, Key.writes, beq_self_eq_true, Bool.false_beq, good_241, good_273, good_247, hr, d1, d2, b1, e1, wrap_nat i (by omega)]
      rfl
    · rw [h2] at e1
      cases h3 : Tk.begins d
      · rw [h3] at b2
        cases h4 : (d == 45)
        · rw [h4] at e2
          simp only [exL_seq, exL_region, exL_cond, exL_ret, exL_skip, runRegion, runOps, stepOp, guardA, absOp, takeOver, opd, avOf, cvOf, St.degAt, St.put, okPV, okVal, absBin, intBin, setBoxes, if_true, Bool.false_eq_true, if_false, Option.map_some, Option.map_none, Option.bind_some, thenO, upd, List.toList_toArray, isOwn, steal, appArgs, mvB, inApps, AV.deg, CV.deg, AV.gv, AV.isIter, some_beqN, Nat.reduceLT, reduceCtorEq, Nat.reduceEqDiff, List.length_nil, List.length_cons, List.filterMap_cons, List.filterMap_nil, List.getElem?_cons_zero, List.getElem?_cons_succ, Option.getD_some, K_hook, hookB, Nat.reduceBEq, Bool.and_false, Bool.and_self, K_P, K_own, absCall, doCall, getBoxes, lend, back, idx, dedup, AV.ren, CV.ren, AV.ptrs, CV.ptrs, zipBox, AV.flat, CV.flat, enterSt, leave, resOf, resVars, resVar, outBoxes, lentOnly, TV.deg, TV.av, LK, List.map_cons, List.map_nil, List.all_cons, List.all_nil, List.any_nil, List.contains_nil, List.append_nil, List.flatMap_cons, List.flatMap_nil, List.zip_nil_left, List.zip_nil_right, List.isEmpty_nil, Bool.or_true, Bool.or_false, Bool.not_false, Nat.reduceAdd, Nat.zero_add, List.toList_toArray, Option.some.injEq, ite_self, memOK, logOps, opKey, lentBoxes, Key.clash, Key.sees, Key.writes, beq_self_eq_true, good_241, good_273, good_247, hr, d1, d2, b1, b2, e1, e2, wrap_nat i (by omega)]
          rfl
        · rw [h4] at e2
          simp only [exL_seq, exL_region, exL_cond, exL_ret, exL_skip, runRegion, runOps, stepOp, guardA, absOp, takeOver, opd, avOf, cvOf, St.degAt, St.put, okPV, okVal, absBin, intBin, setBoxes, if_true, Bool.false_eq_true, if_false, Option.map_some, Option.map_none, Option.bind_some, thenO, upd, List.toList_toArray, isOwn, steal, appArgs, mvB, inApps, AV.deg, CV.deg, AV.isIter, some_beqN, Nat.reduceLT, reduceCtorEq, Nat.reduceEqDiff, List.length_nil, List.length_cons, List.filterMap_cons, List.filterMap_nil, List.getElem?_cons_zero, List.getElem?_cons_succ, Option.getD_some, K_hook, hookB, Nat.reduceBEq, Bool.and_self, K_P, K_own, absCall, doCall, getBoxes, lend, back, idx, dedup, AV.ren, CV.ren, AV.ptrs, CV.ptrs, zipBox, AV.flat, CV.flat, enterSt, leave, resOf, resVars, resVar, outBoxes, lentOnly, TV.deg, TV.av, LK, List.map_cons, List.map_nil, List.all_cons, List.all_nil, List.any_nil, List.contains_nil, List.append_nil, List.flatMap_cons, List.flatMap_nil, List.zip_nil_left, List.zip_nil_right, List.isEmpty_nil, Bool.or_true, Bool.or_false, Bool.not_false, Nat.reduceAdd, Nat.zero_add, List.toList_toArray, Option.some.injEq, ite_self, memOK, logOps, opKey, lentBoxes, Key.clash, Key.sees, Key.writes, beq_self_eq_true, good_241, good_273, good_247, hr, d1, d2, b1, b2, e1, e2, hrun, wrap_nat i (by omega)]
      · rw [h3] at b2
        simp only [exL_seq, exL_region, exL_cond, exL_ret, exL_skip, runRegion, runOps, stepOp, guardA, absOp, takeOver, opd, avOf, cvOf, St.degAt, St.put, okPV, okVal, absBin, intBin, setBoxes, if_true, Bool.false_eq_true, if_false, Option.map_some, Option.map_none, Option.bind_some, thenO, upd, List.toList_toArray, isOwn, steal, appArgs, mvB, inApps, AV.deg, CV.deg, AV.isIter, some_beqN, Nat.reduceLT, reduceCtorEq, Nat.reduceEqDiff, List.length_nil, List.length_cons, List.filterMap_cons, List.filterMap_nil, List.getElem?_cons_zero, List.getElem?_cons_succ, Option.getD_some, K_hook, hookB, Nat.reduceBEq, Bool.and_self, K_P, K_own, absCall, doCall, getBoxes, lend, back, idx, dedup, AV.ren, CV.ren, AV.ptrs, CV.ptrs, zipBox, AV.flat, CV.flat, enterSt, leave, resOf, resVars, resVar, outBoxes, lentOnly, TV.deg, TV.av, LK, List.map_cons, List.map_nil, List.all_cons, List.all_nil, List.any_nil, List.contains_nil, List.append_nil, List.flatMap_cons, List.flatMap_nil, List.zip_nil_left, List.zip_nil_right, List.isEmpty_nil, Bool.or_true, Bool.true_or, Bool.or_false, Bool.not_false, Nat.reduceAdd, Nat.zero_add, List.toList_toArray, Option.some.injEq, ite_self, memOK, logOps, opKey, lentBoxes, Key.clash, Key.sees, Key.writes, beq_self_eq_true, Bool.true_beq, good_241, good_273, good_247, hr, d1, d2, b1, b2, e1, hrun, wrap_nat i (by omega)]
  · rw [h1] at b1
    simp only [exL_seq, exL_region, exL_cond, exL_ret, exL_skip, runRegion, runOps, stepOp, guardA, absOp, takeOver, opd, avOf, cvOf, St.degAt, St.put, okPV, okVal, absBin, intBin, setBoxes, if_true, Bool.false_eq_true, if_false, Option.map_some, Option.map_none, Option.bind_some, thenO, upd, List.toList_toArray, isOwn, steal, appArgs, mvB, inApps, AV.deg, CV.deg, AV.isIter, some_beqN, Nat.reduceLT, reduceCtorEq, Nat.reduceEqDiff, List.length_nil, List.length_cons, List.filterMap_cons, List.filterMap_nil, List.getElem?_cons_zero, List.getElem?_cons_succ, Option.getD_some, K_hook, hookB, Nat.reduceBEq, Bool.and_self, K_P, K_own, absCall, doCall, getBoxes, lend, back, idx, dedup, AV.ren, CV.ren, AV.ptrs, CV.ptrs, zipBox, AV.flat, CV.flat, enterSt, leave, resOf, resVars, resVar, outBoxes, lentOnly, TV.deg, TV.av, LK, List.map_cons, List.map_nil, List.all_cons, List.all_nil, List.any_nil, List.contains_nil, List.append_nil, List.flatMap_cons, List.flatMap_nil, List.zip_nil_left, List.zip_nil_right, List.isEmpty_nil, Bool.or_true, Bool.true_or, Bool.or_false, Bool.not_false, Nat.reduceAdd, Nat.zero_add, List.toList_toArray, Option.some.injEq, ite_self, memOK, logOps, opKey, lentBoxes, Key.clash, Key.sees, Key.writes, Bool.true_beq, good_241, good_273, good_247, hr, d1, d2, b1, hrun, wrap_nat i (by omega)]
inductive TS where
  | nils
  | live
  | wr (l : List Tok)
def TS.toks : TS → List Tok
  | .wr l => l
  | _ => []
def TS.cell : TS → CV
  | .nils => .nils
  | .live => .own 0 []
  | .wr l => .own 47 (l.map Tok.enc)
abbrev scan (s : List UInt8) (x : TS) : List CV := [.pv (.str s), x.cell]
theorem lens_tok (a b c : PV) : lens 3 [[a, b, c]] = true := rfl
theorem lens_toks (l : List Tok) : lens 3 (l.map Tok.enc) = true := by simp [lens, Tok.enc]
theorem skip_den (s : List UInt8) (x : TS) (n : Nat) (h : n ≤ s.length) : den K 274 [P0, I n] [scan s x] = some (.ret (.tup []) [scan (s.drop n) x]) := by
  refine den_run rfl rfl Tryz.func274 rfl Tryz.ntmps274 ⟨by simp, by simp [LK]⟩ ?_
  have hr : Tryz.f274.results = #[] := rfl
  have hb : ((0 : Int) ≤ (n : Int) ∧ (n : Int) ≤ (s.length : Int)) = True := eq_true (by omega)
  have hd : (s.take s.length).drop n = s.drop n := by rw [List.take_length]
  cases x <;> simp only [TS.cell, scan, exL_region, runRegion, runOps, stepOp, guardA, absOp, takeOver, opd, St.degAt, St.put, okVal, okAV, setBoxes, if_true, Bool.false_eq_true, if_false, Option.map_some, Option.map_none, Option.bind_some, upd, List.toList_toArray, isOwn, steal, appArgs, mvB, inApps, AV.deg, CV.deg, AV.isIter, Nat.reduceLT, reduceCtorEq, Nat.reduceEqDiff, List.length_nil, List.length_cons, List.filterMap_cons, List.filterMap_nil, List.getElem?_cons_zero, List.getElem?_cons_succ, Option.getD_some, K_hook, hookB, Nat.reduceBEq, Bool.and_self, K_P, AV.ren, CV.ren, absLoad, absStore, cellsOfAV, setAt, absFieldAddr, enterSt, leave, resOf, resVars, outBoxes, lentOnly, LK, CV.plain, bound, List.map_cons, List.map_nil, List.all_cons, List.all_nil, List.any_cons, List.any_nil, List.contains_nil, List.cons_append, List.nil_append, List.take_zero, List.drop_succ_cons, List.drop_zero, Bool.and_true, Bool.true_and, Bool.or_true, Bool.true_or, Bool.or_false, Bool.false_or, Bool.not_true, Bool.not_false, Nat.reduceAdd, Nat.reduceLeDiff, Nat.add_zero, Nat.zero_add, decide_true, decide_false, List.toList_toArray, Nat.le_refl, and_self, Nat.sub_self, ite_self, memOK, logOps, opKey, Key.clash, Key.sees, Key.writes, Nat.lt_irrefl, beq_self_eq_true, ty_fieldOff_219_0, ty_szOf_217, ty_shapeT_217, ev_slice_str ty_descOf_217, hr, hb, Int.toNat_natCast, hd]
theorem put_den (s : List UInt8) (x : TS) (n : Nat) (kind : Int) (text : List UInt8) (v : Int) (h : n ≤ s.length) (hx : x.toks.length < 4000000000) :
    den K 246 [P0, I n, I kind, T text, I v] [scan s x] = some (.ret (.tup []) [scan (s.drop n) (.wr (x.toks ++ [⟨kind, text, v⟩]))]) := by
  refine den_run rfl rfl Tryz.func246 rfl Tryz.ntmps246 ⟨by simp, by simp [LK]⟩ ?_
  have hr : Tryz.f246.results = #[] := rfl
  have hsk := skip_den s (.wr (x.toks ++ [⟨kind, text, v⟩])) n h
  have hl : x.toks.length + 1 < appLim := by simp [appLim]; omega
  cases x <;> simp only [TS.cell, TS.toks, scan, List.map_append, List.map_cons, List.map_nil, Tok.enc, List.nil_append, List.length_nil] at hsk hl ⊢ <;>
    simp only [exL_seq, exL_region, runRegion, runOps, stepOp, guardA, absOp, takeOver, opd, avOf, cvOf, St.degAt, St.put, okVal, okAV, setBoxes, if_true, Bool.false_eq_true, if_false, Option.map_some, Option.map_none, Option.bind_some, thenO, upd, List.toList_toArray, isOwn, steal, appArgs, mvB, inApps, AV.deg, CV.deg, AV.gv, AV.isIter, Nat.reduceLT, reduceCtorEq, Nat.reduceEqDiff, List.length_nil, List.length_cons, List.filterMap_cons, List.filterMap_nil, List.getElem?_cons_zero, List.getElem?_cons_succ, Option.getD_some, K_hook, hookB, Nat.reduceBEq, Bool.and_false, Bool.and_self, K_P, K_own, absCall, doCall, getBoxes, lend, idx, dedup, AV.ren, CV.ren, AV.ptrs, CV.ptrs, zipBox, AV.flat, CV.flat, absLoad, absStore, cellsOfAV, setAt, absFieldAddr, CV.pv?, content, pushHead, ownT, fillCells, reps, pvs, chunks, enterSt, leave, resOf, resVars, outBoxes, lentOnly, LK, CV.plain, CV.noBld, List.map_cons, List.map_nil, List.all_cons, List.all_nil, List.any_cons, List.any_nil, List.contains_cons, List.contains_nil, List.cons_append, List.nil_append, List.append_nil, List.flatMap_cons, List.flatMap_nil, List.zip_cons_cons, List.zip_nil_right, List.take_succ_cons, List.take_zero, List.take_nil, List.drop_succ_cons, List.drop_zero, List.drop_nil, List.isEmpty_nil, Bool.and_true, Bool.true_and, Bool.or_true, Bool.true_or, Bool.or_false, Bool.false_or, Bool.not_true, Bool.not_false, Nat.reduceAdd, Nat.reduceLeDiff, Nat.add_zero, Nat.zero_add, Nat.reduceMul, decide_true, decide_false, List.toList_toArray, Nat.le_refl, and_self, Nat.sub_self, or_true, true_or, Option.some.injEq, List.length_map, ite_self, memOK, logOps, opKey, lentBoxes, Key.clash, Key.sees, Key.writes, Nat.lt_irrefl, beq_self_eq_true, ty_fieldOff_219_1, ty_szOf_90, ty_shapeT_90, ev_build ty_zeroCells_47 ty_placesOf_47, ev_buildSlice (len := 1) ty_descOf_90 ty_szOf_47 ty_zeroCells_47 ⟨rfl, by decide, by decide⟩, ev_append ty_appInfo_90, ev_appNew_sl ty_descOf_90, good_274, hr, hsk, hl, lens_nil, lens_tok, lens_toks]
end Go.Abs
namespace Go.Abs
open Go Go.Proofs
set_option maxRecDepth 10000
def shutI (r : List UInt8) : Int := match Tk.shut r with | some n => (n : Int) - 2 | none => -1
def innerI (c : UInt8) (r : List UInt8) : Int := match Tk.inner c r with | some n => (n : Int) | none => -1
theorem index_shut : ∀ r : List UInt8, Lib.index r [42, 47] = shutI r
  | [] => rfl
  | b :: l => by
    have ih := index_shut l
    have e : Lib.index (b :: l) [42, 47] = if [42, 47].isPrefixOf (b :: l) then 0 else if Lib.index l [42, 47] == -1 then -1 else Lib.index l [42, 47] + 1 := rfl
    rw [e, ih]
    have hp : ([42, 47].isPrefixOf (b :: l) = true) ↔ (b = 42 ∧ Tk.at0 l = 47) := by
      cases l with
      | nil =>
        refine ⟨fun h => ?_, fun h => absurd h.2 (by decide)⟩
        simp [List.isPrefixOf] at h
      | cons d l =>
        simp only [List.isPrefixOf, Bool.and_true, Bool.and_eq_true, beq_iff_eq, Tk.at0]
        exact ⟨fun h => ⟨h.1.symm, h.2.symm⟩, fun h => ⟨h.1.symm, h.2.symm⟩⟩
    by_cases h : b = 42 ∧ Tk.at0 l = 47
    · rw [if_pos (hp.2 h), shutI, Tk.shut, if_pos h]; rfl
    · rw [if_neg (fun x => h (hp.1 x)), shutI, shutI, Tk.shut, if_neg h]
      cases hs : Tk.shut l with
      | none => rfl
      | some n =>
        have := Tk.shut_le hs
        simp only [Option.map_some]
        rw [if_neg (by rw [beq_iff_eq]; omega)]
        omega
theorem ends_contains (b : UInt8) : ([10, 12, 13] : List UInt8).contains b = Tk.ending b := by
  unfold Tk.ending
  simp only [List.contains_cons, List.contains_nil, Bool.or_false, Bool.or_assoc]
theorem containsAny_cons (b : UInt8) (l : List UInt8) : Lib.containsAny (b :: l) [10, 12, 13] = (Tk.ending b || Lib.containsAny l [10, 12, 13]) := by
  unfold Lib.containsAny
  have e : Lib.indexAny (b :: l) [10, 12, 13] = if ([10, 12, 13] : List UInt8).contains b then 0 else if Lib.indexAny l [10, 12, 13] == -1 then -1 else Lib.indexAny l [10, 12, 13] + 1 := rfl
  rw [e, ends_contains]
  have hge := Lib.indexAny_ge [10, 12, 13] l
  cases Tk.ending b
  · simp only [Bool.false_eq_true, if_false, Bool.false_or]
    by_cases h : Lib.indexAny l [10, 12, 13] = -1
    · rw [if_pos (by rw [h]; rfl), h]
    · rw [if_neg (by simpa using h)]
      exact decide_eq_decide.2 (by omega)
  · rfl
theorem indexByte_app (b : UInt8) (l : List UInt8) (c : UInt8) : Lib.indexByte (b :: l) c = if b == c then 0 else if Lib.indexByte l c == -1 then -1 else Lib.indexByte l c + 1 := rfl
theorem indexByte_lt (c : UInt8) : ∀ r : List UInt8, 0 ≤ Lib.indexByte r c → Lib.indexByte r c < (r.length : Int)
  | [], h => absurd (show (0 : Int) ≤ -1 from h) (by decide)
  | b :: l, h => by
    have ih := indexByte_lt c l
    have hge := Lib.indexByte_ge l c
    rw [indexByte_app] at h ⊢
    simp only [List.length_cons]
    split at h
    · omega
    · split at h
      · omega
      · rename_i h2
        have : Lib.indexByte l c ≠ -1 := by simpa using h2
        have := ih (by omega)
        rw [if_neg h2]; omega
theorem inner_law (c : UInt8) : ∀ r : List UInt8, innerI c r = if 0 ≤ Lib.indexByte r c ∧ Lib.containsAny (r.take (Lib.indexByte r c).toNat) [10, 12, 13] = true then -1 else Lib.indexByte r c
  | [] => rfl
  | b :: l => by
    have ih := inner_law c l
    have hge := Lib.indexByte_ge l c
    by_cases hb : b = c
    · have e : Lib.indexByte (b :: l) c = 0 := by rw [indexByte_app, if_pos (by simp [hb])]
      have hc0 : Lib.containsAny ((b :: l).take (0 : Int).toNat) [10, 12, 13] = false := rfl
      rw [e, innerI, Tk.inner, if_pos hb, hc0]
      rfl
    · by_cases hm : Lib.indexByte l c = -1
      · have e : Lib.indexByte (b :: l) c = -1 := by rw [indexByte_app, if_neg (by simpa using hb), hm]; rfl
        rw [hm, if_neg (by omega)] at ih
        rw [e, if_neg (by omega), innerI, Tk.inner, if_neg hb]
        unfold innerI at ih
        cases hi : Tk.inner c l with
        | none => cases Tk.ending b <;> rfl
        | some n => rw [hi] at ih; simp only at ih; omega
      · have e : Lib.indexByte (b :: l) c = Lib.indexByte l c + 1 := by rw [indexByte_app, if_neg (by simpa using hb), if_neg (by simpa using hm)]
        have ht : (Lib.indexByte l c + 1).toNat = (Lib.indexByte l c).toNat + 1 := by omega
        rw [e, ht, List.take_succ_cons, containsAny_cons, innerI, Tk.inner, if_neg hb]
        unfold innerI at ih
        cases he : Tk.ending b
        · simp only [Bool.false_or, Bool.false_eq_true, if_false]
          by_cases hc : Lib.containsAny (l.take (Lib.indexByte l c).toNat) [10, 12, 13] = true
          · rw [if_pos ⟨by omega, hc⟩]
            rw [if_pos ⟨by omega, hc⟩] at ih
            cases hi : Tk.inner c l with
            | none => rfl
            | some n => rw [hi] at ih; simp only at ih; omega
          · rw [if_neg (fun x => hc x.2)]
            rw [if_neg (fun x => hc x.2)] at ih
            cases hi : Tk.inner c l with
            | none => rw [hi] at ih; simp only at ih; omega
            | some n => rw [hi] at ih; simp only at ih ⊢; simp only [Option.map_some]; omega
        · rw [Bool.true_or, if_pos (⟨by omega, rfl⟩ : 0 ≤ Lib.indexByte l c + 1 ∧ true = true)]
          rfl
theorem index_den (s p : List UInt8) (h : s.length < 4294967281) : den K 258 [T s, T p] [] = some (.ret (I (Lib.index s p)) []) := by
  refine prim_run (F := pIndex) rfl ?_
  simp [pIndex, h]
theorem indexByte_den (s : List UInt8) (c : UInt8) : den K 244 [T s, U c] [] = some (.ret (I (Lib.indexByte s c)) []) := by
  refine prim_run (F := pIndexByte) rfl ?_
  simp [pIndexByte]
theorem hasPrefix_den (s p : List UInt8) : den K 67 [T s, T p] [] = some (.ret (B (Lib.hasPrefix s p)) []) := prim_run (F := pHasPrefix) rfl rfl
theorem indexAny_den (s : List UInt8) (h : s.length < 4294967281) : den K 291 [T s, T [10, 12, 13]] [] = some (.ret (I (Lib.indexAny s [10, 12, 13])) []) := by
  refine prim_run (F := pIndexAny) rfl ?_
  simp [pIndexAny, h]
theorem containsAny_den (s : List UInt8) (h : s.length < 4294967281) : den K 276 [T s, T [10, 12, 13]] [] = some (.ret (B (Lib.containsAny s [10, 12, 13])) []) := by
  have d := indexAny_den s h
  unfold Lib.containsAny
  refine den_run rfl rfl Tryz.func276 rfl Tryz.ntmps276 ⟨by simp, by simp [LK]⟩ ?_
  have hr : Tryz.f276.results = #[.tmp 4] := rfl
  simp only [exL_seq, exL_region, exL_ret, runRegion, runOps, stepOp, guardA, absOp, takeOver, opd, avOf, cvOf, St.degAt, St.put, okPV, absBin, intBin, setBoxes, if_true, Bool.false_eq_true, if_false, Option.map_some, Option.map_none, Option.bind_some, thenO, upd, List.toList_toArray, isOwn, steal, appArgs, mvB, inApps, AV.deg, CV.deg, AV.isIter, some_beqN, Nat.reduceLT, reduceCtorEq, Nat.reduceEqDiff, List.length_nil, List.length_cons, List.filterMap_cons, List.filterMap_nil, List.getElem?_cons_zero, List.getElem?_cons_succ, Option.getD_some, K_hook, hookB, Nat.reduceBEq, Bool.and_self, K_P, K_own, absCall, doCall, getBoxes, lend, idx, dedup, AV.ren, CV.ren, AV.ptrs, CV.ptrs, zipBox, AV.flat, CV.flat, enterSt, leave, resOf, resVars, resVar, outBoxes, lentOnly, TV.deg, TV.av, LK, List.map_cons, List.map_nil, List.all_cons, List.all_nil, List.any_nil, List.contains_nil, List.append_nil, List.flatMap_cons, List.flatMap_nil, List.zip_nil_right, List.isEmpty_nil, Bool.or_true, Bool.or_false, Bool.not_false, Nat.reduceAdd, Nat.zero_add, List.toList_toArray, Option.some.injEq, ite_self, memOK, logOps, opKey, lentBoxes, Key.clash, Key.sees, Key.writes, good_291, hr, d]
theorem comment_den (s : List UInt8) (x : TS) (hs : s.length < 4000000000) (h : 2 ≤ s.length) : den K 243 [P0] [scan s x] = some (.ret (.tup []) [scan (s.drop (Tk.comment (s.drop 2))) x]) := by
  have hi := index_den (s.drop 2) [42, 47] (by simp; omega)
  rw [index_shut] at hi
  unfold shutI at hi
  refine den_run rfl rfl Tryz.func243 rfl Tryz.ntmps243 ⟨by simp, by simp [LK]⟩ ?_
  have hr : Tryz.f243.results = #[] := rfl
  have hb : ((0 : Int) ≤ 2 ∧ (2 : Int) ≤ (s.length : Int)) = True := eq_true (by omega)
  have hd : (s.take s.length).drop 2 = s.drop 2 := by rw [List.take_length]
  have t2 : Int.toNat 2 = 2 := rfl
  unfold Tk.comment
  cases hc : Tk.shut (s.drop 2) with
  | none =>
    rw [hc] at hi
    have hsk := skip_den s x s.length (Nat.le_refl _)
    have hn : decide ((-1 : Int) < 0) = true := by decide
    have hlen : (s.drop 2).length + 2 = s.length := by simp; omega
    rw [hlen]
    cases x <;> simp only [TS.cell, scan] at hsk ⊢ <;> simp only [exL_seq, exL_region, exL_cond, exL_ret, exL_skip, runRegion, runOps, stepOp, guardA, absOp, takeOver, opd, avOf, cvOf, St.degAt, St.put, okPV, okVal, okAV, absBin, intBin, setBoxes, if_true, Bool.false_eq_true, if_false, Option.map_some, Option.map_none, Option.bind_some, thenO, upd, List.toList_toArray, isOwn, steal, appArgs, mvB, inApps, AV.deg, CV.deg, AV.isIter, Nat.reduceLT, reduceCtorEq, Nat.reduceEqDiff, List.length_nil, List.length_cons, List.filterMap_cons, List.filterMap_nil, List.getElem?_cons_zero, List.getElem?_cons_succ, Option.getD_some, K_hook, hookB, Nat.reduceBEq, Bool.and_false, Bool.and_self, K_P, K_own, absCall, doCall, getBoxes, lend, idx, dedup, AV.ren, CV.ren, AV.ptrs, CV.ptrs, zipBox, AV.flat, CV.flat, absLoad, setAt, absFieldAddr, enterSt, leave, resOf, resVars, outBoxes, lentOnly, LK, CV.plain, bound, List.map_cons, List.map_nil, List.all_cons, List.all_nil, List.any_cons, List.any_nil, List.contains_cons, List.contains_nil, List.cons_append, List.nil_append, List.append_nil, List.flatMap_cons, List.flatMap_nil, List.zip_cons_cons, List.zip_nil_right, List.take_zero, List.drop_succ_cons, List.drop_zero, List.isEmpty_nil, Bool.and_true, Bool.true_and, Bool.or_true, Bool.true_or, Bool.or_false, Bool.false_or, Bool.not_true, Bool.not_false, Nat.reduceAdd, Nat.add_zero, Nat.zero_add, decide_true, decide_false, List.toList_toArray, Nat.le_refl, Nat.sub_self, Option.some.injEq, ite_self, memOK, logOps, opKey, lentBoxes, Key.clash, Key.sees, Key.writes, Nat.lt_irrefl, beq_self_eq_true, ty_fieldOff_219_0, ty_szOf_217, ty_shapeT_217, ev_slice_str ty_descOf_217, good_258, ev_len_str ty_descOf_217, good_274, hr, hi, hb, t2, hd, hn, hsk]
  | some n =>
    rw [hc] at hi
    have hle := Tk.shut_le hc
    simp only [List.length_drop] at hle
    have hsk := skip_den s x (n + 2) (by omega)
    have hn : decide ((n : Int) - 2 < 0) = false := decide_eq_false (by omega)
    have w1 : IntKind.i64.wrap (2 + ((n : Int) - 2)) = (n : Int) := by rw [IntWalk.i64_in _ (by omega)]; omega
    have w2 : IntKind.i64.wrap ((n : Int) + 2) = ((n + 2 : Nat) : Int) := by rw [IntWalk.i64_in _ (by omega)]; rfl
    cases x <;> simp only [TS.cell, scan] at hsk ⊢ <;> simp only [exL_seq, exL_region, exL_cond, exL_skip, runRegion, runOps, stepOp, guardA, absOp, takeOver, opd, avOf, cvOf, St.degAt, St.put, okPV, okVal, okAV, absBin, intBin, setBoxes, if_true, Bool.false_eq_true, if_false, Option.map_some, Option.map_none, Option.bind_some, thenO, upd, List.toList_toArray, isOwn, steal, appArgs, mvB, inApps, AV.deg, CV.deg, AV.gv, AV.isIter, Nat.reduceLT, reduceCtorEq, Nat.reduceEqDiff, List.length_nil, List.length_cons, List.filterMap_cons, List.filterMap_nil, List.getElem?_cons_zero, List.getElem?_cons_succ, Option.getD_some, K_hook, hookB, Nat.reduceBEq, Bool.and_false, Bool.and_self, K_P, K_own, absCall, doCall, getBoxes, lend, back, idx, dedup, AV.ren, CV.ren, AV.ptrs, CV.ptrs, zipBox, AV.flat, CV.flat, absLoad, setAt, absFieldAddr, enterSt, leave, resOf, resVars, outBoxes, lentOnly, LK, CV.plain, bound, List.map_cons, List.map_nil, List.all_cons, List.all_nil, List.any_cons, List.any_nil, List.contains_cons, List.contains_nil, List.cons_append, List.nil_append, List.append_nil, List.flatMap_cons, List.flatMap_nil, List.zip_cons_cons, List.zip_nil_right, List.take_zero, List.drop_succ_cons, List.drop_zero, List.isEmpty_nil, Bool.and_true, Bool.true_and, Bool.or_true, Bool.true_or, Bool.or_false, Bool.false_or, Bool.not_true, Bool.not_false, Nat.reduceAdd, Nat.add_zero, Nat.zero_add, decide_false, List.toList_toArray, Nat.le_refl, Nat.sub_self, Option.some.injEq, ite_self, memOK, logOps, opKey, lentBoxes, Key.clash, Key.sees, Key.writes, Nat.lt_irrefl, beq_self_eq_true, ty_fieldOff_219_0, ty_szOf_217, ty_shapeT_217, ev_slice_str ty_descOf_217, good_258, ev_len_str ty_descOf_217, good_274, hr, hi, hb, t2, hd, hn, w1, w2, hsk]
theorem inner_den (s : List UInt8) (c : UInt8) (r : List UInt8) (x : TS) (hsr : s = c :: r) (hs : s.length < 4000000000) : den K 248 [P0] [scan s x] = some (.ret (I (innerI c r)) [scan s x]) := by
  have hb : ((0 : Int) ≤ 1 ∧ (1 : Int) ≤ (s.length : Int)) = True := eq_true (by rw [hsr]; simp; omega)
  have hd : (s.take s.length).drop 1 = r := by rw [List.take_length, hsr]; rfl
  have hcell : s[(0 : Int).toNat]? = some c := by rw [hsr]; rfl
  have hrs : r.length ≤ s.length := by rw [hsr]; simp
  clear hsr
  have hi := indexByte_den r c
  have hge := Lib.indexByte_ge r c
  have hlt := indexByte_lt c r
  rw [inner_law]
  generalize Lib.indexByte r c = n at hi hge hlt
  refine den_run rfl rfl Tryz.func248 rfl Tryz.ntmps248 ⟨by simp, by simp [LK]⟩ ?_
  have hr : Tryz.f248.results = #[.tmp 2] := rfl
  have t1 : Int.toNat 1 = 1 := rfl
  by_cases h0 : 0 ≤ n
  · have hc := containsAny_den (r.take n.toNat) (by rw [List.length_take]; omega)
    have hn : decide (0 ≤ n) = true := decide_eq_true h0
    have hb2 : ((0 : Int) ≤ n ∧ n ≤ (r.length : Int)) = True := eq_true (by have := hlt h0; omega)
    cases hv : Lib.containsAny (r.take n.toNat) [10, 12, 13]
    · rw [hv] at hc
      rw [if_neg (fun e => by cases e.2)]
      cases x <;> simp only [TS.cell, scan] <;> simp only [exL_seq, exL_region, exL_cond, exL_ret, exL_skip, runRegion, runOps, stepOp, guardA, absOp, takeOver, opd, avOf, cvOf, St.degAt, St.put, okPV, okVal, okAV, absBin, intBin, setBoxes, if_true, Bool.false_eq_true, if_false, Option.map_some, Option.map_none, Option.bind_some, thenO, upd, List.toList_toArray, isOwn, steal, appArgs, mvB, inApps, AV.deg, CV.deg, AV.isIter, some_beqN, Nat.reduceLT, reduceCtorEq, Nat.reduceEqDiff, List.length_nil, List.length_cons, List.filterMap_cons, List.filterMap_nil, List.getElem?_cons_zero, List.getElem?_cons_succ, Option.getD_some, K_hook, hookB, Nat.reduceBEq, Bool.and_self, K_P, K_own, absCall, doCall, getBoxes, lend, idx, dedup, AV.ren, CV.ren, AV.ptrs, CV.ptrs, zipBox, AV.flat, CV.flat, absLoad, setAt, absFieldAddr, enterSt, leave, resOf, resVars, resVar, outBoxes, lentOnly, TV.deg, TV.av, LK, CV.plain, bound, List.map_cons, List.map_nil, List.all_cons, List.all_nil, List.any_cons, List.any_nil, List.contains_nil, List.cons_append, List.nil_append, List.append_nil, List.flatMap_cons, List.flatMap_nil, List.zip_nil_right, List.take_zero, List.drop_succ_cons, List.drop_zero, List.isEmpty_nil, Bool.and_true, Bool.or_true, Bool.true_or, Bool.or_false, Bool.not_true, Bool.not_false, Nat.reduceAdd, Nat.add_zero, Nat.zero_add, decide_false, List.toList_toArray, Nat.le_refl, Nat.sub_self, Option.some.injEq, ite_self, memOK, logOps, opKey, lentBoxes, Key.clash, Key.sees, Key.writes, Nat.lt_irrefl, beq_self_eq_true, ty_fieldOff_219_0, ty_szOf_217, ty_shapeT_217, ev_slice_str ty_descOf_217, ev_index ty_descOf_217, good_244, ev_slice_str ty_descOf_9, good_276, hr, hi, hb, hd, hn, t1, hb2, hc, hcell, Int.le_refl]
    · rw [hv] at hc
      rw [if_pos ⟨h0, rfl⟩]
      cases x <;> simp only [TS.cell, scan] <;> simp only [exL_seq, exL_region, exL_cond, exL_ret, exL_skip, runRegion, runOps, stepOp, guardA, absOp, takeOver, opd, avOf, cvOf, St.degAt, St.put, okPV, okVal, okAV, absBin, intBin, setBoxes, if_true, Bool.false_eq_true, if_false, Option.map_some, Option.map_none, Option.bind_some, thenO, upd, List.toList_toArray, isOwn, steal, appArgs, mvB, inApps, AV.deg, CV.deg, AV.isIter, some_beqN, Nat.reduceLT, reduceCtorEq, Nat.reduceEqDiff, List.length_nil, List.length_cons, List.filterMap_cons, List.filterMap_nil, List.getElem?_cons_zero, List.getElem?_cons_succ, Option.getD_some, K_hook, hookB, Nat.reduceBEq, Bool.and_self, K_P, K_own, absCall, doCall, getBoxes, lend, idx, dedup, AV.ren, CV.ren, AV.ptrs, CV.ptrs, zipBox, AV.flat, CV.flat, absLoad, setAt, absFieldAddr, enterSt, leave, resOf, resVars, resVar, outBoxes, lentOnly, TV.deg, TV.av, LK, CV.plain, bound, List.map_cons, List.map_nil, List.all_cons, List.all_nil, List.any_cons, List.any_nil, List.contains_nil, List.cons_append, List.nil_append, List.append_nil, List.flatMap_cons, List.flatMap_nil, List.zip_nil_right, List.take_zero, List.drop_succ_cons, List.drop_zero, List.isEmpty_nil, Bool.and_true, Bool.or_true, Bool.true_or, Bool.or_false, Bool.not_true, Bool.not_false, Nat.reduceAdd, Nat.add_zero, Nat.zero_add, decide_false, List.toList_toArray, Nat.le_refl, Nat.sub_self, Option.some.injEq, ite_self, memOK, logOps, opKey, lentBoxes, Key.clash, Key.sees, Key.writes, Nat.lt_irrefl, beq_self_eq_true, ty_fieldOff_219_0, ty_szOf_217, ty_shapeT_217, ev_slice_str ty_descOf_217, ev_index ty_descOf_217, good_244, ev_slice_str ty_descOf_9, good_276, hr, hi, hb, hd, hn, t1, hb2, hc, hcell, Int.le_refl]
  · have hn : decide (0 ≤ n) = false := decide_eq_false h0
    rw [if_neg (fun e => h0 e.1)]
    cases x <;> simp only [TS.cell, scan] <;> simp only [exL_seq, exL_region, exL_cond, exL_ret, exL_skip, runRegion, runOps, stepOp, guardA, absOp, takeOver, opd, avOf, cvOf, St.degAt, St.put, okPV, okVal, okAV, absBin, intBin, setBoxes, if_true, Bool.false_eq_true, if_false, Option.map_some, Option.map_none, Option.bind_some, thenO, upd, List.toList_toArray, isOwn, steal, appArgs, mvB, inApps, AV.deg, CV.deg, AV.isIter, some_beqN, Nat.reduceLT, reduceCtorEq, Nat.reduceEqDiff, List.length_nil, List.length_cons, List.filterMap_cons, List.filterMap_nil, List.getElem?_cons_zero, List.getElem?_cons_succ, Option.getD_some, K_hook, hookB, Nat.reduceBEq, Bool.and_self, K_P, K_own, absCall, doCall, getBoxes, lend, idx, dedup, AV.ren, CV.ren, AV.ptrs, CV.ptrs, zipBox, AV.flat, CV.flat, absLoad, setAt, absFieldAddr, enterSt, leave, resOf, resVars, resVar, outBoxes, lentOnly, TV.deg, TV.av, LK, CV.plain, bound, List.map_cons, List.map_nil, List.all_cons, List.all_nil, List.any_cons, List.any_nil, List.contains_nil, List.cons_append, List.nil_append, List.append_nil, List.flatMap_cons, List.flatMap_nil, List.zip_nil_right, List.take_zero, List.drop_succ_cons, List.drop_zero, List.isEmpty_nil, Bool.and_true, Bool.or_true, Bool.true_or, Bool.or_false, Bool.not_true, Bool.not_false, Nat.reduceAdd, Nat.add_zero, Nat.zero_add, decide_false, List.toList_toArray, Nat.le_refl, Nat.sub_self, Option.some.injEq, ite_self, memOK, logOps, opKey, lentBoxes, Key.clash, Key.sees, Key.writes, Nat.lt_irrefl, beq_self_eq_true, Bool.false_beq, ty_fieldOff_219_0, ty_szOf_217, ty_shapeT_217, ev_slice_str ty_descOf_217, ev_index ty_descOf_217, good_244, hr, hi, hb, hd, hn, t1, hcell, Int.le_refl]
end Go.Abs
namespace Go.Abs.Sl
theorem flat_memR : ∀ {l : List Val} {t : Tok}, t ∈ Ne.flat l ↔ ∃ v ∈ l, t ∈ Ne.flatV v
  | [], t => by rw [Ne.flat]; simp
  | v :: l, t => by
    rw [Ne.flat, List.mem_append, flat_memR (l := l)]
    simp
theorem mem_trimR {l : List Val} {v : Val} (h : v ∈ trim l) : v ∈ l := by
  unfold trim at h
  have h1 := List.mem_reverse.1 h
  have h2 := (List.dropWhile_sublist _).subset h1
  exact (List.dropWhile_sublist _).subset (List.mem_reverse.1 h2)
end Go.Abs.Sl
namespace Go.Abs
namespace Sl
open Tk (isName sep within digit begins at0 all)
theorem blank_dv (c : UInt8) : isBlank (dv c) = false := rfl
theorem blank_iv (s : List UInt8) : isBlank (iv s) = false := rfl
end Sl
end Go.Abs
