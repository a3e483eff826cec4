/-
  WHAT THE FUNCTIONS COMPUTE, layer 1: tokens that are the same; lists of them.
  WHAT THE FUNCTIONS COMPUTE, layer 1: classes of bytes, runs, names.
  WHAT THE FUNCTIONS COMPUTE, layer 1: the scanner's small steps: a name, a token that is laid, a comment, a string.
  WHAT THE FUNCTIONS COMPUTE, layer 1: the scanner's comment, string, number.
  WHAT THE FUNCTIONS COMPUTE, layer 1: the scanner's number.
  WHAT THE FUNCTIONS COMPUTE, layer 1: the scanner's next token.
  WHAT THE FUNCTIONS COMPUTE, layer 1: the tokens of a text.
  WHAT THE FUNCTIONS COMPUTE, layer 1: whether a token may be; whether something has to stand between two; the text of tokens.
  WHAT THE DOCUMENT'S ANSWER COMPUTES, layer 1: digits, a token's text.
-/
import Derived.Test.YtmcjabhnmealgaaDoorQI
import Derived.Test.YtmcjabhnmealgaaDoorQE
set_option linter.unusedSimpArgs false
set_option linter.unusedVariables false
namespace Go.Abs
open Go Go.Proofs
set_option maxRecDepth 10000
attribute [local go_sem] exL_seq exL_region exL_cond exL_block exL_scope exL_ret exL_skip exL_exit runRegion runOps stepOp guardA absOp takeOver opd avOf cvOf St.degAt St.put okPV okVal okAV absBin intBin strBin boolBin setBoxes if_true Bool.false_eq_true if_false Option.map_some Option.map_none Option.bind_some Option.bind_none thenO outOf upd List.toList_toArray isOwn steal appArgs inApps AV.deg CV.deg AV.gv AV.isIter absNext some_bne List.length_nil List.length_cons List.filterMap_cons List.filterMap_nil beq_iff_eq List.getElem?_cons_zero List.getElem?_cons_succ Option.getD_some K_hook hookB Bool.false_and Bool.and_false Bool.and_self K_P K_own absCall doCall getBoxes lend back idx dedup AV.ren CV.ren TV.ren AV.ptrs CV.ptrs zipBox AV.flat CV.flat absLoad absStore cellsOfAV setAt newBox markB bldTypes absFieldAddr absField absExtract absAssert noAssert absMkIface ifcOf CV.pv? content pushHead ownT fillCells reps pvs chunks enterSt leave resOf resVars resVar outBoxes lentOnly TV.deg TV.av LK CV.plain CV.noBld nilBin absUn bound List.map_cons List.map_nil List.all_cons List.all_nil List.any_cons List.any_nil List.contains_cons List.contains_nil List.elem_cons List.elem_nil List.cons_append List.nil_append List.append_nil List.flatMap_cons List.flatMap_nil List.zip_cons_cons List.zip_nil_left List.zip_nil_right List.take_succ_cons List.take_zero List.take_nil List.drop_succ_cons List.drop_zero List.drop_nil List.isEmpty_nil List.isEmpty_cons Bool.and_true Bool.true_and Bool.or_true Bool.true_or Bool.or_false Bool.false_or Bool.not_true Bool.not_false Nat.add_zero Nat.zero_add Option.isNone_none Option.isNone_some Option.getD_none true_and and_true not_true_eq_false not_false_eq_true decide_true decide_false Nat.le_refl and_self Bool.not_eq_true Nat.sub_self or_true true_or Option.some.injEq List.length_map List.nil_eq and_false false_and AV.live CV.live CV.liveIn K_keep firstReg Option.orElse_some Option.orElse_none head keepSlots keepBoxes Int.lt_irrefl List.length_append ite_self memOK logOps opKey lentBoxes Key.clash Key.sees Key.writes Nat.lt_irrefl gt_iff_lt nobox_at bot_at false_or or_false beq_self_eq_true Bool.true_beq Bool.false_beq

theorem tok_eq (k k' n n' : Int) (t t' : List UInt8) : structEq Tryd.prog 83 [.int .i64 k, .str t, .int .i64 n] [.int .i64 k', .str t', .int .i64 n'] = some ((k == k') && ((t == t') && ((n == n') && true))) := by kernel_rfl
theorem tok_beq (a b : Tok) : ((a.kind == b.kind) && ((a.text == b.text) && ((a.n == b.n) && true))) = decide (a = b) := by
  obtain ⟨k, t, n⟩ := a
  obtain ⟨k', t', n'⟩ := b
  rw [Bool.eq_iff_iff, decide_eq_true_eq]
  simp [Tok.mk.injEq]

/-- what a list's length may be -/
def lenOk (n : Nat) : Prop := n < 9000000000000000000

theorem enc_at (l : List Tok) (i : Nat) (t : Tok) (h : l[i]? = some t) : (l.map Tok.enc)[(i : Int).toNat]? = some [.int .i64 t.kind, .str t.text, .int .i64 t.n] := by
  simp [h, Tok.enc]

abbrev sameH (a b : List Tok) (i : Nat) : St := { sl := upd (upd (upd bot 5 (I i)) 1 (L (b.map Tok.enc))) 0 (L (a.map Tok.enc)), bx := nobox, nt := 26 }

def smallT (l : List Tok) (most : Int) : Bool := l.all (fun t => decide (t.text.length ≤ 100)) && decide ((l.length : Int) ≤ most)

abbrev smallTH (l : List Tok) (m : Int) (i : Nat) : St := { sl := upd (upd (upd bot 5 (I i)) 1 (I m)) 0 (L (l.map Tok.enc)), bx := nobox, nt := 23 }

end Go.Abs

namespace Go.Abs
open Go Go.Proofs
set_option maxRecDepth 10000
attribute [local go_sem] exL_seq exL_region exL_cond exL_block exL_scope exL_ret exL_skip exL_exit runRegion runOps stepOp guardA absOp takeOver opd avOf cvOf St.degAt St.put okPV okVal okAV absBin intBin strBin boolBin setBoxes if_true Bool.false_eq_true if_false Option.map_some Option.map_none Option.bind_some Option.bind_none thenO outOf upd List.toList_toArray isOwn steal appArgs inApps AV.deg CV.deg AV.gv AV.isIter absNext some_bne List.length_nil List.length_cons List.filterMap_cons List.filterMap_nil beq_iff_eq List.getElem?_cons_zero List.getElem?_cons_succ Option.getD_some K_hook hookB Bool.false_and Bool.and_false Bool.and_self K_P K_own absCall doCall getBoxes lend back idx dedup AV.ren CV.ren TV.ren AV.ptrs CV.ptrs zipBox AV.flat CV.flat absLoad absStore cellsOfAV setAt newBox markB bldTypes absFieldAddr absField absExtract absAssert noAssert absMkIface ifcOf CV.pv? content pushHead ownT fillCells reps pvs chunks enterSt leave resOf resVars resVar outBoxes lentOnly TV.deg TV.av LK CV.plain CV.noBld nilBin absUn bound List.map_cons List.map_nil List.all_cons List.all_nil List.any_cons List.any_nil List.contains_cons List.contains_nil List.elem_cons List.elem_nil List.cons_append List.nil_append List.append_nil List.flatMap_cons List.flatMap_nil List.zip_cons_cons List.zip_nil_left List.zip_nil_right List.take_succ_cons List.take_zero List.take_nil List.drop_succ_cons List.drop_zero List.drop_nil List.isEmpty_nil List.isEmpty_cons Bool.and_true Bool.true_and Bool.or_true Bool.true_or Bool.or_false Bool.false_or Bool.not_true Bool.not_false Nat.add_zero Nat.zero_add Option.isNone_none Option.isNone_some Option.getD_none true_and and_true not_true_eq_false not_false_eq_true decide_true decide_false Nat.le_refl and_self Bool.not_eq_true Nat.sub_self or_true true_or Option.some.injEq List.length_map List.nil_eq and_false false_and AV.live CV.live CV.liveIn K_keep firstReg Option.orElse_some Option.orElse_none head keepSlots keepBoxes Int.lt_irrefl List.length_append ite_self memOK logOps opKey lentBoxes Key.clash Key.sees Key.writes Nat.lt_irrefl gt_iff_lt nobox_at bot_at false_or or_false beq_self_eq_true Bool.true_beq Bool.false_beq

abbrev U (c : UInt8) : AV := .c (.pv (.int .u8 c.toNat))

theorem digit_eq (c : UInt8) : Tk.digit c = (decide ((48 : Int) ≤ (c.toNat : Int)) && decide ((c.toNat : Int) ≤ 57)) := by
  unfold Tk.digit; rw [← Bool.decide_and]; exact decide_eq_decide.2 (by omega)
theorem begins_eq (c : UInt8) : Tk.begins c = ((decide ((97 : Int) ≤ (c.toNat : Int)) && decide ((c.toNat : Int) ≤ 122)) || (decide ((65 : Int) ≤ (c.toNat : Int)) && decide ((c.toNat : Int) ≤ 90)) || ((c.toNat : Int) == 95) || decide ((128 : Int) ≤ (c.toNat : Int))) := by
  have e : ((c.toNat : Int) == 95) = decide ((c.toNat : Int) = 95) := by
    by_cases h : (c.toNat : Int) = 95 <;> simp [h]
  rw [e]
  unfold Tk.begins
  rw [← Bool.decide_and, ← Bool.decide_and, ← Bool.decide_or, ← Bool.decide_or, ← Bool.decide_or]
  exact decide_eq_decide.2 (by omega)
theorem u8_beq (c d : UInt8) : ((c.toNat : Int) == (d.toNat : Int)) = (c == d) := by
  by_cases e : c = d
  · subst e; simp
  · have : c.toNat ≠ d.toNat := fun h2 => e (UInt8.toNat_inj.1 h2)
    rw [beq_eq_false_iff_ne.2 e, beq_eq_false_iff_ne.2 (by omega)]

/-- the byte at a place -/
theorem at0_drop (s : List UInt8) (i : Nat) : (s[i]? = none ∧ Tk.at0 (s.drop i) = 0 ∧ s.length ≤ i) ∨ (i < s.length ∧ s[i]? = some (Tk.at0 (s.drop i))) := by
  by_cases h : i < s.length
  · right
    refine ⟨h, ?_⟩
    rw [List.drop_eq_getElem_cons h, Tk.at0_cons, List.getElem?_eq_getElem h]
  · left
    refine ⟨List.getElem?_eq_none (by omega), ?_, by omega⟩
    rw [List.drop_eq_nil_of_le (by omega)]; rfl

abbrev FN (f : Nat) : AV := .c (.fn f [])
abbrev runH (s : List UInt8) (from_ : Nat) (f n : Nat) : St := { sl := upd (upd (upd (upd bot 7 (I n)) 2 (FN f)) 1 (I from_)) 0 (T s), bx := upd nobox 100000 none, nt := 26 }

end Go.Abs

namespace Go.Abs
open Go Go.Proofs
set_option maxRecDepth 10000

/-! ### the scanner -/

inductive TS where
  | nils
  | live
  | wr (l : List Tok)
def TS.toks : TS → List Tok
  | .wr l => l
  | _ => []
def TS.cell : TS → CV
  | .nils => .nils
  | .live => .own 0 []
  | .wr l => .own 83 (l.map Tok.enc)
/-- the scanner's box -/
abbrev scan (s : List UInt8) (x : TS) : List CV := [.pv (.str s), x.cell]

theorem lens_tok (a b c : PV) : lens 3 [[a, b, c]] = true := rfl
theorem lens_toks (l : List Tok) : lens 3 (l.map Tok.enc) = true := by simp [lens, Tok.enc]

end Go.Abs

namespace Go.Abs
open Go Go.Proofs
set_option maxRecDepth 10000

/-! ### plain laws -/

def shutI (r : List UInt8) : Int := match Tk.shut r with | some n => (n : Int) - 2 | none => -1
def innerI (c : UInt8) (r : List UInt8) : Int := match Tk.inner c r with | some n => (n : Int) | none => -1

theorem index_shut : ∀ r : List UInt8, Lib.index r [42, 47] = shutI r
  | [] => rfl
  | b :: l => by
    have ih := index_shut l
    have e : Lib.index (b :: l) [42, 47] = if [42, 47].isPrefixOf (b :: l) then 0 else if Lib.index l [42, 47] == -1 then -1 else Lib.index l [42, 47] + 1 := rfl
    rw [e, ih]
    have hp : ([42, 47].isPrefixOf (b :: l) = true) ↔ (b = 42 ∧ Tk.at0 l = 47) := by
      cases l with
      | nil =>
        refine ⟨fun h => ?_, fun h => absurd h.2 (by decide)⟩
        simp [List.isPrefixOf] at h
      | cons d l =>
        simp only [List.isPrefixOf, Bool.and_true, Bool.and_eq_true, beq_iff_eq, Tk.at0]
        exact ⟨fun h => ⟨h.1.symm, h.2.symm⟩, fun h => ⟨h.1.symm, h.2.symm⟩⟩
    by_cases h : b = 42 ∧ Tk.at0 l = 47
    · rw [if_pos (hp.2 h), shutI, Tk.shut, if_pos h]; rfl
    · rw [if_neg (fun x => h (hp.1 x)), shutI, shutI, Tk.shut, if_neg h]
      cases hs : Tk.shut l with
      | none => rfl
      | some n =>
        have := Tk.shut_le hs
        simp only [Option.map_some]
        rw [if_neg (by rw [beq_iff_eq]; omega)]
        omega

theorem ends_contains (b : UInt8) : ([10, 12, 13] : List UInt8).contains b = Tk.ending b := by
  unfold Tk.ending
  simp only [List.contains_cons, List.contains_nil, Bool.or_false, Bool.or_assoc]

theorem containsAny_cons (b : UInt8) (l : List UInt8) : Lib.containsAny (b :: l) [10, 12, 13] = (Tk.ending b || Lib.containsAny l [10, 12, 13]) := by
  unfold Lib.containsAny
  have e : Lib.indexAny (b :: l) [10, 12, 13] = if ([10, 12, 13] : List UInt8).contains b then 0 else if Lib.indexAny l [10, 12, 13] == -1 then -1 else Lib.indexAny l [10, 12, 13] + 1 := rfl
  rw [e, ends_contains]
  have hge := Lib.indexAny_ge [10, 12, 13] l
  cases Tk.ending b
  · simp only [Bool.false_eq_true, if_false, Bool.false_or]
    by_cases h : Lib.indexAny l [10, 12, 13] = -1
    · rw [if_pos (by rw [h]; rfl), h]
    · rw [if_neg (by simpa using h)]
      exact decide_eq_decide.2 (by omega)
  · rfl

theorem indexByte_app (b : UInt8) (l : List UInt8) (c : UInt8) : Lib.indexByte (b :: l) c = if b == c then 0 else if Lib.indexByte l c == -1 then -1 else Lib.indexByte l c + 1 := rfl

theorem indexByte_lt (c : UInt8) : ∀ r : List UInt8, 0 ≤ Lib.indexByte r c → Lib.indexByte r c < (r.length : Int)
  | [], h => absurd (show (0 : Int) ≤ -1 from h) (by decide)
  | b :: l, h => by
    have ih := indexByte_lt c l
    have hge := Lib.indexByte_ge l c
    rw [indexByte_app] at h ⊢
    simp only [List.length_cons]
    split at h
    · omega
    · split at h
      · omega
      · rename_i h2
        have : Lib.indexByte l c ≠ -1 := by simpa using h2
        have := ih (by omega)
        rw [if_neg h2]; omega

theorem inner_law (c : UInt8) : ∀ r : List UInt8, innerI c r = if 0 ≤ Lib.indexByte r c ∧ Lib.containsAny (r.take (Lib.indexByte r c).toNat) [10, 12, 13] = true then -1 else Lib.indexByte r c
  | [] => rfl
  | b :: l => by
    have ih := inner_law c l
    have hge := Lib.indexByte_ge l c
    by_cases hb : b = c
    · have e : Lib.indexByte (b :: l) c = 0 := by rw [indexByte_app, if_pos (by simp [hb])]
      have hc0 : Lib.containsAny ((b :: l).take (0 : Int).toNat) [10, 12, 13] = false := rfl
      rw [e, innerI, Tk.inner, if_pos hb, hc0]
      rfl
    · by_cases hm : Lib.indexByte l c = -1
      · have e : Lib.indexByte (b :: l) c = -1 := by rw [indexByte_app, if_neg (by simpa using hb), hm]; rfl
        rw [hm, if_neg (by omega)] at ih
        rw [e, if_neg (by omega), innerI, Tk.inner, if_neg hb]
        unfold innerI at ih
        cases hi : Tk.inner c l with
        | none => cases Tk.ending b <;> rfl
        | some n => rw [hi] at ih; simp only at ih; omega
      · have e : Lib.indexByte (b :: l) c = Lib.indexByte l c + 1 := by rw [indexByte_app, if_neg (by simpa using hb), if_neg (by simpa using hm)]
        have ht : (Lib.indexByte l c + 1).toNat = (Lib.indexByte l c).toNat + 1 := by omega
        rw [e, ht, List.take_succ_cons, containsAny_cons, innerI, Tk.inner, if_neg hb]
        unfold innerI at ih
        cases he : Tk.ending b
        · simp only [Bool.false_or, Bool.false_eq_true, if_false]
          by_cases hc : Lib.containsAny (l.take (Lib.indexByte l c).toNat) [10, 12, 13] = true
          · rw [if_pos ⟨by omega, hc⟩]
            rw [if_pos ⟨by omega, hc⟩] at ih
            cases hi : Tk.inner c l with
            | none => rfl
            | some n => rw [hi] at ih; simp only at ih; omega
          · rw [if_neg (fun x => hc x.2)]
            rw [if_neg (fun x => hc x.2)] at ih
            cases hi : Tk.inner c l with
            | none => rw [hi] at ih; simp only at ih; omega
            | some n => rw [hi] at ih; simp only at ih ⊢; simp only [Option.map_some]; omega
        · rw [Bool.true_or, if_pos (⟨by omega, rfl⟩ : 0 ≤ Lib.indexByte l c + 1 ∧ true = true)]
          rfl

/-! ### runs -/

theorem index_den (s p : List UInt8) (h : s.length < 4294967281) : den K 61 [T s, T p] [] = some (.ret (I (Lib.index s p)) []) := by
  refine prim_run (F := pIndex) rfl ?_
  simp [pIndex, h]
end Go.Abs

namespace Go.Abs
open Go Go.Proofs
set_option maxRecDepth 10000
attribute [local go_sem] exL_seq exL_region exL_cond exL_block exL_scope exL_ret exL_skip exL_exit runRegion runOps stepOp guardA absOp takeOver opd avOf cvOf St.degAt St.put okPV okVal okAV absBin intBin strBin boolBin setBoxes if_true Bool.false_eq_true if_false Option.map_some Option.map_none Option.bind_some Option.bind_none thenO outOf upd List.toList_toArray isOwn steal appArgs inApps AV.deg CV.deg AV.gv AV.isIter absNext some_bne List.length_nil List.length_cons List.filterMap_cons List.filterMap_nil beq_iff_eq List.getElem?_cons_zero List.getElem?_cons_succ Option.getD_some K_hook hookB Bool.false_and Bool.and_false Bool.and_self K_P K_own absCall doCall getBoxes lend back idx dedup AV.ren CV.ren TV.ren AV.ptrs CV.ptrs zipBox AV.flat CV.flat absLoad absStore cellsOfAV setAt newBox markB bldTypes absFieldAddr absField absExtract absAssert noAssert absMkIface ifcOf CV.pv? content pushHead ownT fillCells reps pvs chunks enterSt leave resOf resVars resVar outBoxes lentOnly TV.deg TV.av LK CV.plain CV.noBld nilBin absUn bound List.map_cons List.map_nil List.all_cons List.all_nil List.any_cons List.any_nil List.contains_cons List.contains_nil List.elem_cons List.elem_nil List.cons_append List.nil_append List.append_nil List.flatMap_cons List.flatMap_nil List.zip_cons_cons List.zip_nil_left List.zip_nil_right List.take_succ_cons List.take_zero List.take_nil List.drop_succ_cons List.drop_zero List.drop_nil List.isEmpty_nil List.isEmpty_cons Bool.and_true Bool.true_and Bool.or_true Bool.true_or Bool.or_false Bool.false_or Bool.not_true Bool.not_false Nat.add_zero Nat.zero_add Option.isNone_none Option.isNone_some Option.getD_none true_and and_true not_true_eq_false not_false_eq_true decide_true decide_false Nat.le_refl and_self Bool.not_eq_true Nat.sub_self or_true true_or Option.some.injEq List.length_map List.nil_eq and_false false_and AV.live CV.live CV.liveIn K_keep firstReg Option.orElse_some Option.orElse_none head keepSlots keepBoxes Int.lt_irrefl List.length_append ite_self memOK logOps opKey lentBoxes Key.clash Key.sees Key.writes Nat.lt_irrefl gt_iff_lt nobox_at bot_at false_or or_false beq_self_eq_true Bool.true_beq Bool.false_beq

def TS.live' : TS → TS
  | .nils => .live
  | x => x
theorem TS.live_toks (x : TS) : x.live'.toks = x.toks := by cases x <;> rfl
theorem cell_live (bs : List Nat) (x : TS) : x.cell.live bs = x.live'.cell := by cases x <;> rfl

abbrev numH (s : List UInt8) (et : Nat) (ct : List (List PV)) (from_ e : Nat) (d : List UInt8) (n : Int) (i : Nat) : St :=
  { sl := upd (upd (upd (upd (upd bot 29 (.c (.iter d i))) 4 (I n)) 3 (I e)) 2 (I from_)) 0 P0, bx := upd nobox 100000 (some [.pv (.str s), .own et ct]), nt := 72 }

theorem min_law (v : Int) : (if (999999999 : Int) < v then (999999999 : Int) else v) = min v 999999999 := by
  split <;> omega

theorem live_live' (x : TS) : x.live'.live' = x.live' := by cases x <;> rfl

end Go.Abs

namespace Go.Abs
open Go Go.Proofs
set_option maxRecDepth 10000
attribute [local go_sem] exL_seq exL_region exL_cond exL_block exL_scope exL_ret exL_skip exL_exit runRegion runOps stepOp guardA absOp takeOver opd avOf cvOf St.degAt St.put okPV okVal okAV absBin intBin strBin boolBin setBoxes if_true Bool.false_eq_true if_false Option.map_some Option.map_none Option.bind_some Option.bind_none thenO outOf upd List.toList_toArray isOwn steal appArgs inApps AV.deg CV.deg AV.gv AV.isIter absNext some_bne List.length_nil List.length_cons List.filterMap_cons List.filterMap_nil beq_iff_eq List.getElem?_cons_zero List.getElem?_cons_succ Option.getD_some K_hook hookB Bool.false_and Bool.and_false Bool.and_self K_P K_own absCall doCall getBoxes lend back idx dedup AV.ren CV.ren TV.ren AV.ptrs CV.ptrs zipBox AV.flat CV.flat absLoad absStore cellsOfAV setAt newBox markB bldTypes absFieldAddr absField absExtract absAssert noAssert absMkIface ifcOf CV.pv? content pushHead ownT fillCells reps pvs chunks enterSt leave resOf resVars resVar outBoxes lentOnly TV.deg TV.av LK CV.plain CV.noBld nilBin absUn bound List.map_cons List.map_nil List.all_cons List.all_nil List.any_cons List.any_nil List.contains_cons List.contains_nil List.elem_cons List.elem_nil List.cons_append List.nil_append List.append_nil List.flatMap_cons List.flatMap_nil List.zip_cons_cons List.zip_nil_left List.zip_nil_right List.take_succ_cons List.take_zero List.take_nil List.drop_succ_cons List.drop_zero List.drop_nil List.isEmpty_nil List.isEmpty_cons Bool.and_true Bool.true_and Bool.or_true Bool.true_or Bool.or_false Bool.false_or Bool.not_true Bool.not_false Nat.add_zero Nat.zero_add Option.isNone_none Option.isNone_some Option.getD_none true_and and_true not_true_eq_false not_false_eq_true decide_true decide_false Nat.le_refl and_self Bool.not_eq_true Nat.sub_self or_true true_or Option.some.injEq List.length_map List.nil_eq and_false false_and AV.live CV.live CV.liveIn K_keep firstReg Option.orElse_some Option.orElse_none head keepSlots keepBoxes Int.lt_irrefl List.length_append ite_self memOK logOps opKey lentBoxes Key.clash Key.sees Key.writes Nat.lt_irrefl gt_iff_lt nobox_at bot_at false_or or_false beq_self_eq_true Bool.true_beq Bool.false_beq

theorem prefix_eq (c : UInt8) (r : List UInt8) : Lib.hasPrefix (c :: r) [47, 42] = decide (c = 47 ∧ Tk.at0 r = 42) := by
  unfold Lib.hasPrefix
  cases r with
  | nil =>
    have : ¬ (c = 47 ∧ Tk.at0 [] = 42) := fun h => absurd h.2 (by decide)
    rw [decide_eq_false this]
    simp [List.isPrefixOf]
  | cons d l =>
    rw [Bool.eq_iff_iff, decide_eq_true_eq]
    simp only [List.isPrefixOf, Bool.and_true, Bool.and_eq_true, beq_iff_eq, Tk.at0]
    exact ⟨fun h => ⟨h.1.symm, h.2.symm⟩, fun h => ⟨h.1.symm, h.2.symm⟩⟩

theorem among (l : List UInt8) (c : UInt8) : decide (0 ≤ Lib.indexByte l c) = l.contains c := by
  rw [Lib.contains_iff_indexByte]
theorem blanks_eq (c : UInt8) : decide (0 ≤ Lib.indexByte [32, 10, 9, 12, 13] c) = Tk.blank c := by
  rw [among]
  unfold Tk.blank
  simp only [List.contains_cons, List.contains_nil, Bool.or_false, Bool.or_assoc]
theorem quotes_eq (c : UInt8) : decide (0 ≤ Lib.indexByte [34, 39] c) = decide (c = 34 ∨ c = 39) := by
  rw [among]
  simp only [List.contains_cons, List.contains_nil, Bool.or_false]
  by_cases h1 : c = 34
  · simp [h1]
  · by_cases h2 : c = 39 <;> simp [h1, h2]
theorem innerI_eq (c : UInt8) (r : List UInt8) : decide (0 ≤ innerI c r) = (Tk.inner c r).isSome := by
  unfold innerI
  cases Tk.inner c r with
  | none => rfl
  | some n => simp

/-- what a step leaves of the tokens -/
def stepTS (x : TS) : Option Tok → TS
  | none => x
  | some t => .wr (x.toks ++ [t])

end Go.Abs

namespace Go.Abs
open Go Go.Proofs
set_option maxRecDepth 10000

theorem step_own {x : TS} {et : Nat} {ct : List (List PV)} (hx : x.cell = .own et ct) (o : Option Tok) : ∃ et' ct', (stepTS x o).cell = .own et' ct' ∧ (stepTS x o).toks = x.toks ++ o.toList := by
  cases o with
  | none => exact ⟨et, ct, hx, by simp [stepTS]⟩
  | some t => exact ⟨_, _, rfl, rfl⟩
theorem own_toks {x : TS} {et : Nat} {ct : List (List PV)} (hx : x.cell = .own et ct) : ct = x.toks.map Tok.enc := by
  cases x with
  | nils => cases hx
  | live => cases hx; rfl
  | wr l => cases hx; rfl

abbrev allH (s : List UInt8) (et : Nat) (ct : List (List PV)) : St := { sl := upd bot 3 (.c (.loc 6 0)), bx := upd nobox 6 (some [.pv (.str s), .own et ct]), nt := 19 }

end Go.Abs

namespace Go.Abs
open Go Go.Proofs
set_option maxRecDepth 10000
attribute [local go_sem] exL_seq exL_region exL_cond exL_block exL_scope exL_ret exL_skip exL_exit runRegion runOps stepOp guardA absOp takeOver opd avOf cvOf St.degAt St.put okPV okVal okAV absBin intBin strBin boolBin setBoxes if_true Bool.false_eq_true if_false Option.map_some Option.map_none Option.bind_some Option.bind_none thenO outOf upd List.toList_toArray isOwn steal appArgs inApps AV.deg CV.deg AV.gv AV.isIter absNext some_bne List.length_nil List.length_cons List.filterMap_cons List.filterMap_nil beq_iff_eq List.getElem?_cons_zero List.getElem?_cons_succ Option.getD_some K_hook hookB Bool.false_and Bool.and_false Bool.and_self K_P K_own absCall doCall getBoxes lend back idx dedup AV.ren CV.ren TV.ren AV.ptrs CV.ptrs zipBox AV.flat CV.flat absLoad absStore cellsOfAV setAt newBox markB bldTypes absFieldAddr absField absExtract absAssert noAssert absMkIface ifcOf CV.pv? content pushHead ownT fillCells reps pvs chunks enterSt leave resOf resVars resVar outBoxes lentOnly TV.deg TV.av LK CV.plain CV.noBld nilBin absUn bound List.map_cons List.map_nil List.all_cons List.all_nil List.any_cons List.any_nil List.contains_cons List.contains_nil List.elem_cons List.elem_nil List.cons_append List.nil_append List.append_nil List.flatMap_cons List.flatMap_nil List.zip_cons_cons List.zip_nil_left List.zip_nil_right List.take_succ_cons List.take_zero List.take_nil List.drop_succ_cons List.drop_zero List.drop_nil List.isEmpty_nil List.isEmpty_cons Bool.and_true Bool.true_and Bool.or_true Bool.true_or Bool.or_false Bool.false_or Bool.not_true Bool.not_false Nat.add_zero Nat.zero_add Option.isNone_none Option.isNone_some Option.getD_none true_and and_true not_true_eq_false not_false_eq_true decide_true decide_false Nat.le_refl and_self Bool.not_eq_true Nat.sub_self or_true true_or Option.some.injEq List.length_map List.nil_eq and_false false_and AV.live CV.live CV.liveIn K_keep firstReg Option.orElse_some Option.orElse_none head keepSlots keepBoxes Int.lt_irrefl List.length_append ite_self memOK logOps opKey lentBoxes Key.clash Key.sees Key.writes Nat.lt_irrefl gt_iff_lt nobox_at bot_at false_or or_false beq_self_eq_true Bool.true_beq Bool.false_beq

abbrev theseH (a b : List Tok) (i : Nat) : St := { sl := upd (upd (upd (upd bot 17 (I i)) 16 (I b.length)) 15 (L (b.map Tok.enc))) 5 (L (a.map Tok.enc)), bx := nobox, nt := 29 }

theorem one_len (t : Tok) (hn : I64 t.n) : (oneS t).length ≤ t.text.length + 21 := by
  have h := itoa_len hn
  unfold oneS
  repeat' split
  all_goals simp
  all_goals omega


end Go.Abs

namespace Go.Abs
open Go Go.Proofs
set_option maxRecDepth 10000
attribute [local go_sem] exL_seq exL_region exL_cond exL_block exL_scope exL_ret exL_skip exL_exit runRegion runOps stepOp guardA absOp takeOver opd avOf cvOf St.degAt St.put okPV okVal okAV absBin intBin strBin boolBin setBoxes if_true Bool.false_eq_true if_false Option.map_some Option.map_none Option.bind_some Option.bind_none thenO outOf upd List.toList_toArray isOwn steal appArgs inApps AV.deg CV.deg AV.gv AV.isIter absNext some_bne List.length_nil List.length_cons List.filterMap_cons List.filterMap_nil beq_iff_eq List.getElem?_cons_zero List.getElem?_cons_succ Option.getD_some K_hook hookB Bool.false_and Bool.and_false Bool.and_self K_P K_own absCall doCall getBoxes lend back idx dedup AV.ren CV.ren TV.ren AV.ptrs CV.ptrs zipBox AV.flat CV.flat absLoad absStore cellsOfAV setAt newBox markB bldTypes absFieldAddr absField absExtract absAssert noAssert absMkIface ifcOf CV.pv? content pushHead ownT fillCells reps pvs chunks enterSt leave resOf resVars resVar outBoxes lentOnly TV.deg TV.av LK CV.plain CV.noBld nilBin absUn bound List.map_cons List.map_nil List.all_cons List.all_nil List.any_cons List.any_nil List.contains_cons List.contains_nil List.elem_cons List.elem_nil List.cons_append List.nil_append List.append_nil List.flatMap_cons List.flatMap_nil List.zip_cons_cons List.zip_nil_left List.zip_nil_right List.take_succ_cons List.take_zero List.take_nil List.drop_succ_cons List.drop_zero List.drop_nil List.isEmpty_nil List.isEmpty_cons Bool.and_true Bool.true_and Bool.or_true Bool.true_or Bool.or_false Bool.false_or Bool.not_true Bool.not_false Nat.add_zero Nat.zero_add Option.isNone_none Option.isNone_some Option.getD_none true_and and_true not_true_eq_false not_false_eq_true decide_true decide_false Nat.le_refl and_self Bool.not_eq_true Nat.sub_self or_true true_or Option.some.injEq List.length_map List.nil_eq and_false false_and AV.live CV.live CV.liveIn K_keep firstReg Option.orElse_some Option.orElse_none head keepSlots keepBoxes Int.lt_irrefl List.length_append ite_self memOK logOps opKey lentBoxes Key.clash Key.sees Key.writes Nat.lt_irrefl gt_iff_lt nobox_at bot_at false_or or_false beq_self_eq_true Bool.true_beq Bool.false_beq

theorem decDigits_small {u : Nat} (h : u < 10) : Lib.decDigits u = [UInt8.ofNat (48 + u)] := by rw [Lib.decDigits, dif_pos h]
theorem decDigits_big {u : Nat} (h : ¬ u < 10) : Lib.decDigits u = Lib.decDigits (u / 10) ++ [UInt8.ofNat (48 + u % 10)] := by rw [Lib.decDigits, dif_neg h]

theorem tdiv_nat (u : Nat) : (u : Int).tdiv 10 = ((u / 10 : Nat) : Int) := rfl
theorem tmod_nat (u : Nat) : (u : Int).tmod 10 = ((u % 10 : Nat) : Int) := rfl
theorem ten_ne : ((10 : Int) = 0) = False := by simp
theorem sl0 : (0 + 1 < strLim) = True := by simp [strLim]
theorem sl1 : (1 + 1 < strLim) = True := by simp [strLim]

theorem itoa_neg {n : Int} (h : n < 0) : Lib.itoa n = 45 :: Lib.decDigits n.natAbs := by unfold Lib.itoa; rw [if_pos h]
theorem itoa_pos {n : Int} (h : 0 ≤ n) : Lib.itoa n = Lib.decDigits n.toNat := by unfold Lib.itoa; rw [if_neg (by omega)]

end Go.Abs
