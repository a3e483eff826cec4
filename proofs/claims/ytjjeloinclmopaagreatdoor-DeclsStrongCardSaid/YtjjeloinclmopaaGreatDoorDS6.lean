/-
  WHAT THE DOCUMENT'S ANSWER COMPUTES, layer 1: strings, numbers.
  WHAT THE DOCUMENT'S ANSWER COMPUTES, layer 1: the token at a place.
  WHAT THE DOCUMENT'S ANSWER COMPUTES, layer 1: digits, a token's text.
  WHAT THE DOCUMENT'S ANSWER COMPUTES, layer 1: the tokens of a text; whether tokens may be.
  WHAT THE FUNCTIONS COMPUTE, layer 2: parsing; whether values may be.
  WHAT THE FUNCTIONS COMPUTE, layer 2: nest.May.
  WHAT THE FUNCTIONS COMPUTE, layer 7: the values of declarations; whether declarations may be; whether they are the same.
  WHAT THE FUNCTIONS COMPUTE, layer 2: how many values there are; whether values may be.
  WHAT THE FUNCTIONS COMPUTE, layer 7, the document's answer: the values of declarations; whether they are the same, and few.
  WHAT THE FUNCTIONS COMPUTE, layer 7, the document's answer: whether declarations may be.
  Layer 3: bounds on the texts of values that the laws meet.
  THE FIXED CALLS OF LAYER 7 answer as the document says: the interpreter's run, by the kernel.
  Layer 7: bounds on the declarations that the laws meet.
  DeclsStrong, as the interpreter answers it: true, whatever the declaration is.
  FROM A ROW's READING TO THE INTERPRETER's VALUES: an argument that reads as data is data without memory; a law whose answer the interpreter gives as 'true' meets its row.
  DATA OF A TYPE: what reads as a value of a struct, of a slice; what reads as tokens, and as values.
  DATA OF A TYPE: what reads as declarations.
  WHAT READS AS THE ARGUMENTS: the statement DeclsStrong.
-/
import Derived.Test.YtjjeloinclmopaaGreatDoorRows
import Derived.ReadAgain
import Derived.ChangeBears
import Derived.RowKit
import Derived.OpenShut
import Derived.SizedLaws
import Derived.Deep.DeepHandedRow
import Derived.Lib.LaidTab
import Derived.Test.YtjjeloinclmopaaGreatDoorDS5
set_option linter.unusedSimpArgs false
set_option linter.unusedVariables false
namespace Go.Abs
open Go Go.Proofs
set_option maxRecDepth 10000
attribute [local go_sem] exL_seq exL_region exL_cond exL_block exL_scope exL_ret exL_skip exL_exit runRegion runOps stepOp guardA absOp takeOver opd avOf cvOf St.degAt St.put okPV okVal okAV absBin intBin strBin boolBin setBoxes if_true Bool.false_eq_true if_false Option.map_some Option.map_none Option.bind_some Option.bind_none thenO outOf upd List.toList_toArray isOwn steal appArgs mvB inApps AV.deg CV.deg AV.gv AV.isIter absNext some_bne some_beqN List.length_nil List.length_cons List.filterMap_cons List.filterMap_nil beq_iff_eq List.getElem?_cons_zero List.getElem?_cons_succ Option.getD_some K_hook hookB Bool.false_and Bool.and_false Bool.and_self K_P K_own absCall doCall getBoxes lend back idx dedup AV.ren CV.ren TV.ren AV.ptrs CV.ptrs zipBox AV.flat CV.flat absLoad absStore cellsOfAV setAt newBox markB bldTypes absFieldAddr absField absExtract absAssert noAssert absMkIface ifcOf CV.pv? content pushHead ownT fillCells reps pvs chunks enterSt leave resOf resVars resVar outBoxes lentOnly TV.deg TV.av LK CV.plain CV.noBld nilBin absUn bound List.map_cons List.map_nil List.all_cons List.all_nil List.any_cons List.any_nil List.contains_cons List.contains_nil List.elem_cons List.elem_nil List.cons_append List.nil_append List.append_nil List.flatMap_cons List.flatMap_nil List.zip_cons_cons List.zip_nil_left List.zip_nil_right List.take_succ_cons List.take_zero List.take_nil List.drop_succ_cons List.drop_zero List.drop_nil List.isEmpty_nil List.isEmpty_cons Bool.and_true Bool.true_and Bool.or_true Bool.true_or Bool.or_false Bool.false_or Bool.not_true Bool.not_false Nat.add_zero Nat.zero_add Option.isNone_none Option.isNone_some Option.getD_none true_and and_true not_true_eq_false not_false_eq_true decide_true decide_false Nat.le_refl and_self Bool.not_eq_true Nat.sub_self or_true true_or Option.some.injEq List.length_map List.nil_eq and_false false_and AV.live CV.live CV.liveIn K_keep firstReg Option.orElse_some Option.orElse_none head keepSlots keepBoxes Int.lt_irrefl List.length_append ite_self memOK logOps opKey lentBoxes Key.clash Key.sees Key.writes Nat.lt_irrefl gt_iff_lt nobox_at bot_at false_or or_false beq_self_eq_true Bool.true_beq Bool.false_beq
def innerK (i : Nat) (c : UInt8) (r : List UInt8) : Int := match Tk.inner c r with | some n => ((i + 1 + n : Nat) : Int) | none => -1
abbrev inH (s : List UInt8) (i k : Nat) : St := { sl := upd (upd (upd bot 5 (I k)) 1 (I i)) 0 (T s), bx := nobox, nt := 38 }
theorem in_loop (s : List UInt8) (hs : s.length < 4000000000) (i : Nat) (c : UInt8) (hi : s[i]? = some c) : ∀ (rest : List UInt8) (k : Nat), s.drop k = rest → k ≤ s.length →
    Ends (exL K 187 (.loop (loopAt Tryz.f187 2)) (inH s i k)) fun o S => (∃ n, Tk.inner c rest = some n ∧ o = .ret ∧ S.sl 4 = I (k + n : Nat)) ∨ (Tk.inner c rest = none ∧ (o = .ret ∧ S.sl 4 = I (-1) ∨ o = .exit 0 ∧ S.nt = 38)) := by
  intro rest
  induction rest with
  | nil =>
    intro k hd hk
    have hin : k = s.length := by
      have := List.drop_eq_nil_iff.1 hd
      omega
    subst hin
    have hv : Tk.inner c [] = none := rfl
    conv in loopAt _ _ => whnf
    rw [exL_loop]
    simp only [go_sem, Nat.reduceLT, reduceCtorEq, Nat.reduceEqDiff, Nat.reduceBEq, Nat.reduceAdd, ev_len_str ty_descOf_9, keep_187_2, ends_some, hv]
  | cons d rest ih =>
    intro k hd hk
    obtain ⟨g1, g2, g3⟩ := drop_cons hd
    have hlt : decide ((k : Int) < (s.length : Int)) = true := decide_eq_true (by omega)
    have edc : ((d.toNat : Int) == (c.toNat : Int)) = (d == c) := u8_beq d c
    have e10 : ((d.toNat : Int) == 10) = (d == 10) := u8_beq d 10
    have e12 : ((d.toNat : Int) == 12) = (d == 12) := u8_beq d 12
    have e13 : ((d.toNat : Int) == 13) = (d == 13) := u8_beq d 13
    have ih' := ih (k + 1) g2 (by omega)
    conv at ih' in loopAt _ _ => whnf
    conv in loopAt _ _ => whnf
    rw [exL_loop]
    cases q : (d == c)
    · rw [q] at edc
      have hdc : d ≠ c := by simpa using q
      cases q10 : (d == 10)
      · rw [q10] at e10
        cases q12 : (d == 12)
        · rw [q12] at e12
          cases q13 : (d == 13)
          · rw [q13] at e13
            have he : Tk.ending d = false := by unfold Tk.ending; rw [q10, q12, q13]; rfl
            have hv : Tk.inner c (d :: rest) = (Tk.inner c rest).map (· + 1) := by rw [Tk.inner, if_neg hdc, if_neg (by simp [he])]
            rw [hv]
            have fin : ∀ {r : Option (Out × St)}, Ends r (fun o S => (∃ n, Tk.inner c rest = some n ∧ o = .ret ∧ S.sl 4 = I (k + 1 + n : Nat)) ∨ (Tk.inner c rest = none ∧ (o = .ret ∧ S.sl 4 = I (-1) ∨ o = .exit 0 ∧ S.nt = 38))) → Ends r (fun o S => (∃ n, (Tk.inner c rest).map (· + 1) = some n ∧ o = .ret ∧ S.sl 4 = I (k + n : Nat)) ∨ ((Tk.inner c rest).map (· + 1) = none ∧ (o = .ret ∧ S.sl 4 = I (-1) ∨ o = .exit 0 ∧ S.nt = 38))) := by
              rintro r ⟨o, S, e, h⟩
              refine ⟨o, S, e, ?_⟩
              rcases h with ⟨n, h1, h2, h3⟩ | ⟨h1, h2⟩
              · left; exact ⟨n + 1, by rw [h1]; rfl, h2, by rw [h3, show k + 1 + n = k + (n + 1) by omega]⟩
              · right; exact ⟨by rw [h1]; rfl, h2⟩
            refine fin ?_
            simp only [go_sem, Nat.reduceLT, reduceCtorEq, Nat.reduceEqDiff, Nat.reduceBEq, Nat.reduceAdd, ev_len_str ty_descOf_9, ev_index ty_descOf_9, keep_187_2, hlt, g1, hi, edc, e10, e12, e13, Int.natCast_nonneg, Int.toNat_natCast, wrap_nat k (by omega)]
            rw [exL_head]
            simp only [go_sem, reduceCtorEq, Nat.reduceEqDiff, keep_187_2]
            exact ih'
          · rw [q13] at e13
            have he : Tk.ending d = true := by unfold Tk.ending; rw [q13, Bool.or_true]
            have hv : Tk.inner c (d :: rest) = none := by rw [Tk.inner, if_neg hdc, if_pos he]
            simp only [go_sem, Nat.reduceLT, reduceCtorEq, Nat.reduceEqDiff, Nat.reduceBEq, Nat.reduceAdd, ev_len_str ty_descOf_9, ev_index ty_descOf_9, keep_187_2, ends_some, hlt, g1, hi, edc, e10, e12, e13, Int.natCast_nonneg, Int.toNat_natCast, hv]
        · rw [q12] at e12
          have he : Tk.ending d = true := by unfold Tk.ending; rw [q12, Bool.or_true, Bool.true_or]
          have hv : Tk.inner c (d :: rest) = none := by rw [Tk.inner, if_neg hdc, if_pos he]
          simp only [go_sem, Nat.reduceLT, reduceCtorEq, Nat.reduceEqDiff, Nat.reduceBEq, Nat.reduceAdd, ev_len_str ty_descOf_9, ev_index ty_descOf_9, keep_187_2, ends_some, hlt, g1, hi, edc, e10, e12, Int.natCast_nonneg, Int.toNat_natCast, hv]
      · rw [q10] at e10
        have he : Tk.ending d = true := by unfold Tk.ending; rw [q10, Bool.true_or, Bool.true_or]
        have hv : Tk.inner c (d :: rest) = none := by rw [Tk.inner, if_neg hdc, if_pos he]
        simp only [go_sem, Nat.reduceLT, reduceCtorEq, Nat.reduceEqDiff, Nat.reduceBEq, Nat.reduceAdd, ev_len_str ty_descOf_9, ev_index ty_descOf_9, keep_187_2, ends_some, hlt, g1, hi, edc, e10, Int.natCast_nonneg, Int.toNat_natCast, hv]
    · rw [q] at edc
      have hv : Tk.inner c (d :: rest) = some 0 := by rw [Tk.inner, if_pos (by simpa using q)]
      simp only [go_sem, Nat.reduceLT, reduceCtorEq, Nat.reduceEqDiff, Nat.reduceBEq, Nat.reduceAdd, ev_len_str ty_descOf_9, ev_index ty_descOf_9, keep_187_2, ends_some, hlt, g1, hi, edc, Int.natCast_nonneg, Int.toNat_natCast, hv]
      simp
theorem inner1_den (s : List UInt8) (i : Nat) (c : UInt8) (r : List UInt8) (hs : s.length < 4000000000) (hd : s.drop i = c :: r) : den K 187 [T s, I i] [] = some (.ret (I (innerK i c r)) []) := by
  obtain ⟨g1, g2, g3⟩ := drop_cons hd
  refine den_run rfl rfl Tryz.func187 rfl Tryz.ntmps187 ⟨by simp, by simp [LK]⟩ ?_
  have hr : Tryz.f187.results = #[.tmp 4] := rfl
  have hl := in_loop s hs i c g1 r (i + 1) g2 (by omega)
  conv at hl in loopAt _ _ => whnf
  obtain ⟨o, S', w, h⟩ := hl
  simp only [go_sem, Nat.reduceLT, Nat.reduceEqDiff, Nat.reduceBEq, Nat.reduceAdd, wrap_nat i (by omega)]
  rw [exL_head]
  simp only [go_sem, reduceCtorEq, Nat.reduceEqDiff, keep_187_2]
  erw [w]
  unfold innerK
  rcases h with ⟨n, h1, rfl, h2⟩ | ⟨h1, ⟨rfl, h2⟩ | ⟨rfl, h2⟩⟩
  · rw [h1]
    simp only [go_sem, hr, h2]
  · rw [h1]
    simp only [go_sem, hr, h2]
  · rw [h1]
    simp only [go_sem, Nat.reduceLT, Nat.reduceBEq, hr, h2]
abbrev nmH (s : List UInt8) (i : Nat) (n : Int) (k : Nat) : St := { sl := upd (upd (upd (upd (upd bot 7 (I k)) 6 (I n)) 4 (.c (.loc 4 0))) 1 (I i)) 0 (T s), bx := upd nobox 4 (some [.pv (.int .i64 0), .pv (.str []), .pv (.int .i64 0)]), nt := 63 }
theorem nm_loop (s : List UInt8) (hs : s.length < 4000000000) (i : Nat) : ∀ (rest : List UInt8) (k : Nat) (n : Int), s.drop k = rest → k ≤ s.length → 0 ≤ n → n ≤ 999999999 →
    Ends (exL K 190 (.loop (loopAt Tryz.f190 4)) (nmH s i n k)) fun o S => o = .exit 0 ∧ S.nt = 63 ∧ S.sl 0 = T s ∧ S.sl 1 = I i ∧ S.sl 4 = .c (.loc 4 0) ∧ S.sl 6 = I (Tk.num n rest) ∧ S.sl 7 = I (k + Tk.run Tk.digit rest : Nat) ∧ S.bx = upd nobox 4 (some [.pv (.int .i64 0), .pv (.str []), .pv (.int .i64 0)]) := by
  intro rest
  induction rest with
  | nil =>
    intro k n hd hk h0 h1
    have d1 := at1_den s k hs
    rw [hd] at d1
    have v0 : atC [] = -1 := rfl
    rw [v0] at d1
    have e0 : ((-1 : Int) == 2) = false := by decide
    conv in loopAt _ _ => whnf
    rw [exL_loop]
    simp only [go_sem, Nat.reduceLT, reduceCtorEq, Nat.reduceEqDiff, Nat.reduceBEq, Nat.reduceAdd, good_186, keep_190_4, ends_some, d1, e0, Tk.run_nil, Tk.num]
  | cons c rest ih =>
    intro k n hd hk h0 h1
    obtain ⟨g1, g2, g3⟩ := drop_cons hd
    have d1 := at1_den s k hs
    rw [hd] at d1
    have v0 : atC (c :: rest) = classI c := rfl
    rw [v0] at d1
    obtain ⟨_, f, _, _, _⟩ := class_facts c
    conv in loopAt _ _ => whnf
    rw [exL_loop]
    cases b : (classI c == 2)
    · rw [b] at f
      have hv : Tk.run Tk.digit (c :: rest) = 0 := by rw [Tk.run, ← f]; rfl
      have hv2 : Tk.num n (c :: rest) = n := by rw [Tk.num, ← f]; rfl
      simp only [go_sem, Nat.reduceLT, reduceCtorEq, Nat.reduceEqDiff, Nat.reduceBEq, Nat.reduceAdd, good_186, keep_190_4, ends_some, d1, b, hv, hv2]
    · rw [b] at f
      have hc := f.symm
      have hcn : 48 ≤ c.toNat ∧ c.toNat ≤ 57 := by simpa [Tk.digit] using hc
      have hv : k + 1 + Tk.run Tk.digit rest = k + Tk.run Tk.digit (c :: rest) := by rw [Tk.run, if_pos hc]; omega
      have hv2 : Tk.num n (c :: rest) = Tk.num (min (10 * n + ((c.toNat : Int) - 48)) 999999999) rest := by rw [Tk.num, if_pos hc]
      have w1 : IntKind.i64.wrap (10 * n) = 10 * n := IntWalk.i64_in _ (by omega)
      have w3 : IntKind.i64.wrap (c.toNat : Int) = (c.toNat : Int) := IntWalk.i64_in _ (by omega)
      have w4 : IntKind.i64.wrap (10 * n + (c.toNat : Int)) = 10 * n + (c.toNat : Int) := IntWalk.i64_in _ (by omega)
      have w5 : IntKind.i64.wrap (10 * n + (c.toNat : Int) - 48) = 10 * n + ((c.toNat : Int) - 48) := by rw [IntWalk.i64_in _ (by omega)]; omega
      have ih' := ih (k + 1) (min (10 * n + ((c.toNat : Int) - 48)) 999999999) g2 (by omega) (by omega) (by omega)
      rw [hv, ← hv2] at ih'
      conv at ih' in loopAt _ _ => whnf
      simp only [go_sem, Nat.reduceLT, reduceCtorEq, Nat.reduceEqDiff, Nat.reduceBEq, Nat.reduceAdd, ev_index ty_descOf_9, good_186, ev_conv_int ty_descOf_5 ty_descOf_3, keep_190_4, d1, b, g1, Int.natCast_nonneg, Int.toNat_natCast, w1, w3, w4, w5, absMin, allInts, List.foldl_cons, List.foldl_nil, min_law, wrap_nat k (by omega)]
      rw [exL_head]
      simp only [go_sem, reduceCtorEq, Nat.reduceEqDiff, keep_190_4]
      exact ih'
abbrev tokAt (t : Tok) (i : Nat) : AV := .tup [.agg t.cells, .c (.pv (.int .i64 (i : Nat)))]
set_option maxHeartbeats 8000000 in
theorem number1_den (s : List UInt8) (i : Nat) (c : UInt8) (r : List UInt8) (neg : Bool) (l : List UInt8) (hs : s.length < 4000000000) (hd : s.drop i = c :: r) (hneg : (c == 45) = neg) (hl : l = if neg then r else c :: r) :
    den K 190 [T s, I i] [] = some (.ret (tokAt (Tk.number neg l).1 (i + (if neg then 1 else 0) + (Tk.number neg l).2)) []) := by
  obtain ⟨g1, g2, g3⟩ := drop_cons hd
  have e45 : ((c.toNat : Int) == 45) = neg := (u8_beq c 45).trans hneg
  obtain ⟨j, hj⟩ : ∃ j, j = i + (if neg then 1 else 0) := ⟨_, rfl⟩
  have hdj : s.drop j = l := by cases neg <;> simp only [Bool.false_eq_true, if_true, if_false, Nat.add_zero] at hj hl <;> subst hj <;> subst hl <;> assumption
  have hjl : j ≤ s.length := by cases neg <;> simp only [Bool.false_eq_true, if_true, if_false] at hj <;> omega
  have hll : l.length = s.length - j := by rw [← hdj, List.length_drop]
  have hrl := Tk.run_le (p := Tk.digit) l
  have hnum := Tk.num_bound (l := l) (n := 0) (by omega) (by omega)
  have hlp := nm_loop s hs i l j 0 hdj hjl (by omega) (by omega)
  conv at hlp in loopAt _ _ => whnf
  obtain ⟨o, S', w, rfl, fn, f0, f1, f4, f6, f7, fb⟩ := hlp
  unfold Tk.number
  rw [← hj]
  generalize hk : Tk.run Tk.digit l = k at hrl f7
  simp only
  have hde : s.drop (j + k) = l.drop k := by rw [← List.drop_drop, hdj]
  have dB := Begins_den s (j + k) hs (by omega)
  have dN := names_den s (j + k) hs (by omega)
  rw [hde] at dB dN
  have hul := Tk.unit_le (l.drop k)
  rw [List.length_drop] at hul
  have w3 : IntKind.i64.wrap (0 - Tk.num 0 l) = -Tk.num 0 l := by rw [IntWalk.i64_in _ (by omega)]; omega
  have w1 := wrap_nat (j + k) (by omega)
  have wi := wrap_nat i (by omega)
  have hunit : (decide (((j + k : Nat) : Int) < (s.length : Int)) = true ∧ (∃ d, s[j + k]? = some d ∧ ((d.toNat : Int) == 37) = true) ∧ Tk.unit (l.drop k) = 1) ∨ ((decide (((j + k : Nat) : Int) < (s.length : Int)) = false ∨ decide (((j + k : Nat) : Int) < (s.length : Int)) = true ∧ ∃ d, s[j + k]? = some d ∧ ((d.toNat : Int) == 37) = false) ∧ Tk.unit (l.drop k) = if Tk.nameB (l.drop k) then Tk.run Tk.within (l.drop k) else 0) := by
    unfold Tk.unit Tk.name
    by_cases hlt : j + k < s.length
    · have hdd := List.drop_eq_getElem_cons hlt
      rw [hde] at hdd
      have hg : s[j + k]? = some (s[j + k]'hlt) := List.getElem?_eq_getElem hlt
      have h0 : Tk.at0 (l.drop k) = s[j + k]'hlt := by rw [hdd]; rfl
      rw [h0]
      generalize s[j + k]'hlt = d at hg
      by_cases h37 : d = 37
      · left; exact ⟨decide_eq_true (by omega), ⟨d, hg, by rw [h37]; rfl⟩, by rw [if_pos h37]⟩
      · right; exact ⟨.inr ⟨decide_eq_true (by omega), d, hg, (u8_beq d 37).trans (by simpa using h37)⟩, by rw [if_neg h37]⟩
    · have hnil : l.drop k = [] := List.drop_eq_nil_of_le (by omega)
      rw [hnil]
      right; exact ⟨.inl (decide_eq_false (by omega)), rfl⟩
  generalize Tk.unit (l.drop k) = u at hul hunit
  have hsub : (s.take (j + k + u)).drop (j + k) = (l.drop k).take u := by rw [List.drop_take, hde]; congr 1; omega
  have b1 : (((j + k + u : Nat) : Int) ≤ (s.length : Int)) = True := eq_true (by omega)
  have b2 : (((j + k : Nat) : Int) ≤ ((j + k + u : Nat) : Int)) = True := eq_true (by omega)
  rw [← Nat.add_assoc]
  have z01 : ((0 : Int) = 1) = False := by simp
  have hr : Tryz.f190.results = #[.cell 4 47, .tmp 5] := rfl
  refine den_run rfl rfl Tryz.func190 rfl Tryz.ntmps190 ⟨by simp, by simp [LK]⟩ ?_
  cases neg
  · simp only [Bool.false_eq_true, if_false, Nat.add_zero] at hj ⊢
    subst hj
    simp only [go_sem, Nat.reduceLT, reduceCtorEq, Nat.reduceEqDiff, Nat.reduceBEq, Nat.reduceAdd, Nat.reduceSub, Nat.reduceLeDiff, ty_zeroCells_47, ev_index ty_descOf_9, g1, Int.natCast_nonneg, Int.toNat_natCast, e45]
    rw [exL_head]
    simp only [go_sem, reduceCtorEq, Nat.reduceEqDiff, Nat.reduceSub, Nat.reduceLeDiff, keep_190_4]
    erw [w]
    rcases hunit with ⟨u1, ⟨d, u2, u3⟩, u4⟩ | ⟨u1, u4⟩
    · rw [u4] at b1 b2 hsub ⊢
      simp only [go_sem, Nat.reduceLT, reduceCtorEq, Nat.reduceEqDiff, Nat.reduceBEq, Nat.reduceAdd, Nat.reduceLeDiff, ty_shapeT_47, ev_index ty_descOf_9, ev_len_str ty_descOf_9, good_189, ev_slice_str ty_descOf_9, ev_build ty_zeroCells_47 ty_placesOf_47, ty_szOf_47, hr, fn, f0, f1, f4, f6, f7, fb, g1, Int.natCast_nonneg, Int.toNat_natCast, e45, w1, w3, u1, u2, u3, b1, b2, hsub, Tok.cells, tokAt, ty_shapeT_47]
    · cases hnb : Tk.nameB (l.drop k)
      · rw [hnb] at u4 dB
        simp only [Bool.false_eq_true, if_false] at u4
        rw [u4] at b1 b2 hsub ⊢
        simp only [Nat.add_zero] at b1 b2 hsub ⊢
        rcases u1 with u1 | ⟨u1, d, u2, u3⟩
        · simp only [go_sem, Nat.reduceLT, reduceCtorEq, Nat.reduceEqDiff, Nat.reduceBEq, Nat.reduceAdd, Nat.reduceLeDiff, ty_shapeT_47, ev_index ty_descOf_9, ev_len_str ty_descOf_9, good_189, good_188, ev_slice_str ty_descOf_9, ev_build ty_zeroCells_47 ty_placesOf_47, ty_szOf_47, hr, fn, f0, f1, f4, f6, f7, fb, g1, Int.natCast_nonneg, Int.toNat_natCast, e45, w1, w3, u1, dB, b1, b2, hsub, Tok.cells, tokAt, ty_shapeT_47]
        · simp only [go_sem, Nat.reduceLT, reduceCtorEq, Nat.reduceEqDiff, Nat.reduceBEq, Nat.reduceAdd, Nat.reduceLeDiff, ty_shapeT_47, ev_index ty_descOf_9, ev_len_str ty_descOf_9, good_189, good_188, ev_slice_str ty_descOf_9, ev_build ty_zeroCells_47 ty_placesOf_47, ty_szOf_47, hr, fn, f0, f1, f4, f6, f7, fb, g1, Int.natCast_nonneg, Int.toNat_natCast, e45, w1, w3, u1, u2, u3, dB, b1, b2, hsub, Tok.cells, tokAt, ty_shapeT_47]
      · rw [hnb] at u4 dB
        simp only [if_true] at u4
        rw [← u4] at dN
        rcases u1 with u1 | ⟨u1, d, u2, u3⟩
        · simp only [go_sem, Nat.reduceLT, reduceCtorEq, Nat.reduceEqDiff, Nat.reduceBEq, Nat.reduceAdd, Nat.reduceLeDiff, ty_shapeT_47, ev_index ty_descOf_9, ev_len_str ty_descOf_9, good_189, good_188, ev_slice_str ty_descOf_9, ev_build ty_zeroCells_47 ty_placesOf_47, ty_szOf_47, hr, fn, f0, f1, f4, f6, f7, fb, g1, Int.natCast_nonneg, Int.toNat_natCast, e45, w1, w3, u1, dB, dN, b1, b2, hsub, Tok.cells, tokAt, ty_shapeT_47]
        · simp only [go_sem, Nat.reduceLT, reduceCtorEq, Nat.reduceEqDiff, Nat.reduceBEq, Nat.reduceAdd, Nat.reduceLeDiff, ty_shapeT_47, ev_index ty_descOf_9, ev_len_str ty_descOf_9, good_189, good_188, ev_slice_str ty_descOf_9, ev_build ty_zeroCells_47 ty_placesOf_47, ty_szOf_47, hr, fn, f0, f1, f4, f6, f7, fb, g1, Int.natCast_nonneg, Int.toNat_natCast, e45, w1, w3, u1, u2, u3, dB, dN, b1, b2, hsub, Tok.cells, tokAt, ty_shapeT_47]
  · simp only [if_true] at hj ⊢
    subst hj
    simp only [go_sem, Nat.reduceLT, reduceCtorEq, Nat.reduceEqDiff, Nat.reduceBEq, Nat.reduceAdd, Nat.reduceSub, Nat.reduceLeDiff, ty_zeroCells_47, ev_index ty_descOf_9, g1, Int.natCast_nonneg, Int.toNat_natCast, e45, wi]
    rw [exL_head]
    simp only [go_sem, reduceCtorEq, Nat.reduceEqDiff, Nat.reduceSub, Nat.reduceLeDiff, keep_190_4]
    erw [w]
    rcases hunit with ⟨u1, ⟨d, u2, u3⟩, u4⟩ | ⟨u1, u4⟩
    · rw [u4] at b1 b2 hsub ⊢
      simp only [go_sem, Nat.reduceLT, reduceCtorEq, Nat.reduceEqDiff, Nat.reduceBEq, Nat.reduceAdd, Nat.reduceLeDiff, ty_shapeT_47, ev_index ty_descOf_9, ev_len_str ty_descOf_9, good_189, ev_slice_str ty_descOf_9, ev_build ty_zeroCells_47 ty_placesOf_47, ty_szOf_47, hr, fn, f0, f1, f4, f6, f7, fb, g1, Int.natCast_nonneg, Int.toNat_natCast, e45, w1, w3, u1, u2, u3, b1, b2, hsub, Tok.cells, tokAt, ty_shapeT_47]
    · cases hnb : Tk.nameB (l.drop k)
      · rw [hnb] at u4 dB
        simp only [Bool.false_eq_true, if_false] at u4
        rw [u4] at b1 b2 hsub ⊢
        simp only [Nat.add_zero] at b1 b2 hsub ⊢
        rcases u1 with u1 | ⟨u1, d, u2, u3⟩
        · simp only [go_sem, Nat.reduceLT, reduceCtorEq, Nat.reduceEqDiff, Nat.reduceBEq, Nat.reduceAdd, Nat.reduceLeDiff, ty_shapeT_47, ev_index ty_descOf_9, ev_len_str ty_descOf_9, good_189, good_188, ev_slice_str ty_descOf_9, ev_build ty_zeroCells_47 ty_placesOf_47, ty_szOf_47, hr, fn, f0, f1, f4, f6, f7, fb, g1, Int.natCast_nonneg, Int.toNat_natCast, e45, w1, w3, u1, dB, b1, b2, hsub, Tok.cells, tokAt, ty_shapeT_47]
        · simp only [go_sem, Nat.reduceLT, reduceCtorEq, Nat.reduceEqDiff, Nat.reduceBEq, Nat.reduceAdd, Nat.reduceLeDiff, ty_shapeT_47, ev_index ty_descOf_9, ev_len_str ty_descOf_9, good_189, good_188, ev_slice_str ty_descOf_9, ev_build ty_zeroCells_47 ty_placesOf_47, ty_szOf_47, hr, fn, f0, f1, f4, f6, f7, fb, g1, Int.natCast_nonneg, Int.toNat_natCast, e45, w1, w3, u1, u2, u3, dB, b1, b2, hsub, Tok.cells, tokAt, ty_shapeT_47]
      · rw [hnb] at u4 dB
        simp only [if_true] at u4
        rw [← u4] at dN
        rcases u1 with u1 | ⟨u1, d, u2, u3⟩
        · simp only [go_sem, Nat.reduceLT, reduceCtorEq, Nat.reduceEqDiff, Nat.reduceBEq, Nat.reduceAdd, Nat.reduceLeDiff, ty_shapeT_47, ev_index ty_descOf_9, ev_len_str ty_descOf_9, good_189, good_188, ev_slice_str ty_descOf_9, ev_build ty_zeroCells_47 ty_placesOf_47, ty_szOf_47, hr, fn, f0, f1, f4, f6, f7, fb, g1, Int.natCast_nonneg, Int.toNat_natCast, e45, w1, w3, u1, dB, dN, b1, b2, hsub, Tok.cells, tokAt, ty_shapeT_47]
        · simp only [go_sem, Nat.reduceLT, reduceCtorEq, Nat.reduceEqDiff, Nat.reduceBEq, Nat.reduceAdd, Nat.reduceLeDiff, ty_shapeT_47, ev_index ty_descOf_9, ev_len_str ty_descOf_9, good_189, good_188, ev_slice_str ty_descOf_9, ev_build ty_zeroCells_47 ty_placesOf_47, ty_szOf_47, hr, fn, f0, f1, f4, f6, f7, fb, g1, Int.natCast_nonneg, Int.toNat_natCast, e45, w1, w3, u1, u2, u3, dB, dN, b1, b2, hsub, Tok.cells, tokAt, ty_shapeT_47]
end Go.Abs
namespace Go.Abs
open Go Go.Proofs
set_option maxRecDepth 10000
attribute [local go_sem] exL_seq exL_region exL_cond exL_block exL_scope exL_ret exL_skip exL_exit runRegion runOps stepOp guardA absOp takeOver opd avOf cvOf St.degAt St.put okPV okVal okAV absBin intBin strBin boolBin setBoxes if_true Bool.false_eq_true if_false Option.map_some Option.map_none Option.bind_some Option.bind_none thenO outOf upd List.toList_toArray isOwn steal appArgs mvB inApps AV.deg CV.deg AV.gv AV.isIter absNext some_bne some_beqN List.length_nil List.length_cons List.filterMap_cons List.filterMap_nil beq_iff_eq List.getElem?_cons_zero List.getElem?_cons_succ Option.getD_some K_hook hookB Bool.false_and Bool.and_false Bool.and_self K_P K_own absCall doCall getBoxes lend back idx dedup AV.ren CV.ren TV.ren AV.ptrs CV.ptrs zipBox AV.flat CV.flat absLoad absStore cellsOfAV setAt newBox markB bldTypes absFieldAddr absField absExtract absAssert noAssert absMkIface ifcOf CV.pv? content pushHead ownT fillCells reps pvs chunks enterSt leave resOf resVars resVar outBoxes lentOnly TV.deg TV.av LK CV.plain CV.noBld nilBin absUn bound List.map_cons List.map_nil List.all_cons List.all_nil List.any_cons List.any_nil List.contains_cons List.contains_nil List.elem_cons List.elem_nil List.cons_append List.nil_append List.append_nil List.flatMap_cons List.flatMap_nil List.zip_cons_cons List.zip_nil_left List.zip_nil_right List.take_succ_cons List.take_zero List.take_nil List.drop_succ_cons List.drop_zero List.drop_nil List.isEmpty_nil List.isEmpty_cons Bool.and_true Bool.true_and Bool.or_true Bool.true_or Bool.or_false Bool.false_or Bool.not_true Bool.not_false Nat.add_zero Nat.zero_add Option.isNone_none Option.isNone_some Option.getD_none true_and and_true not_true_eq_false not_false_eq_true decide_true decide_false Nat.le_refl and_self Bool.not_eq_true Nat.sub_self or_true true_or Option.some.injEq List.length_map List.nil_eq and_false false_and AV.live CV.live CV.liveIn K_keep firstReg Option.orElse_some Option.orElse_none head keepSlots keepBoxes Int.lt_irrefl List.length_append ite_self memOK logOps opKey lentBoxes Key.clash Key.sees Key.writes Nat.lt_irrefl gt_iff_lt nobox_at bot_at false_or or_false beq_self_eq_true Bool.true_beq Bool.false_beq
abbrev blH (s : List UInt8) (k : Nat) : St := { sl := upd (upd (upd bot 6 (I k)) 4 (.c (.loc 4 0))) 0 (T s), bx := upd nobox 4 (some [.pv (.int .i64 0), .pv (.str []), .pv (.int .i64 0)]), nt := 181 }
theorem bl_loop (s : List UInt8) (hs : s.length < 4000000000) : ∀ (rest : List UInt8) (k : Nat), s.drop k = rest → k ≤ s.length →
    Ends (exL K 122 (.loop (loopAt Tryz.f122 5)) (blH s k)) fun o S => o = .exit 0 ∧ S.nt = 181 ∧ S.sl 4 = .c (.loc 4 0) ∧ S.sl 6 = I (k + Tk.run Tk.blank rest : Nat) ∧ S.bx = upd nobox 4 (some [.pv (.int .i64 0), .pv (.str []), .pv (.int .i64 0)]) := by
  intro rest
  induction rest with
  | nil =>
    intro k hd hk
    have d1 := at1_den s k hs
    rw [hd] at d1
    have v0 : atC [] = -1 := rfl
    rw [v0] at d1
    have e0 : ((-1 : Int) == 4) = false := by decide
    conv in loopAt _ _ => whnf
    rw [exL_loop]
    simp only [go_sem, Nat.reduceLT, reduceCtorEq, Nat.reduceEqDiff, Nat.reduceBEq, Nat.reduceAdd, good_186, keep_122_5, ends_some, d1, e0, Tk.run_nil]
  | cons c rest ih =>
    intro k hd hk
    obtain ⟨g1, g2, g3⟩ := drop_cons hd
    have d1 := at1_den s k hs
    rw [hd] at d1
    have v0 : atC (c :: rest) = classI c := rfl
    rw [v0] at d1
    obtain ⟨_, _, _, f, _⟩ := class_facts c
    conv in loopAt _ _ => whnf
    rw [exL_loop]
    cases b : (classI c == 4)
    · rw [b] at f
      have hv : Tk.run Tk.blank (c :: rest) = 0 := by rw [Tk.run, ← f]; rfl
      simp only [go_sem, Nat.reduceLT, reduceCtorEq, Nat.reduceEqDiff, Nat.reduceBEq, Nat.reduceAdd, good_186, keep_122_5, ends_some, d1, b, hv]
    · rw [b] at f
      have hv : k + 1 + Tk.run Tk.blank rest = k + Tk.run Tk.blank (c :: rest) := by rw [Tk.run, if_pos f.symm]; omega
      have ih' := ih (k + 1) g2 (by omega)
      rw [hv] at ih'
      conv at ih' in loopAt _ _ => whnf
      simp only [go_sem, Nat.reduceLT, reduceCtorEq, Nat.reduceEqDiff, Nat.reduceBEq, Nat.reduceAdd, good_186, keep_122_5, d1, b, wrap_nat k (by omega)]
      rw [exL_head]
      simp only [go_sem, reduceCtorEq, Nat.reduceEqDiff, keep_122_5]
      exact ih'
def stepT (o : Option Tok) : Tok := o.getD ⟨0, [], 0⟩
set_option maxHeartbeats 32000000 in
theorem next1_den (s : List UInt8) (i : Nat) (c : UInt8) (r : List UInt8) (hs : s.length < 4000000000) (hd : s.drop i = c :: r) :
    den K 122 [T s, I i] [] = some (.ret (tokAt (stepT (Tk.step c r).1) (i + (Tk.step c r).2)) []) := by
  have hr : Tryz.f122.results = #[.cell 4 47, .tmp 5] := rfl
  obtain ⟨g1, g2, g3⟩ := drop_cons hd
  have hlen : s.length = i + 1 + r.length := by
    have := congrArg List.length hd
    rw [List.length_drop, List.length_cons] at this
    omega
  have wi := wrap_nat i (by omega)
  have d4 := at1_den s i hs
  have d5 := at1_den s (i + 1) hs
  rw [hd] at d4
  rw [g2] at d5
  have v0 : atC (c :: r) = classI c := rfl
  rw [v0] at d4
  obtain ⟨_, f2, _, f4, _⟩ := class_facts c
  obtain ⟨_, f5, _, _, _⟩ := atC_facts r
  have e47 : ((c.toNat : Int) == 47) = (c == 47) := u8_beq c 47
  have e34 : ((c.toNat : Int) == 34) = (c == 34) := u8_beq c 34
  have e39 : ((c.toNat : Int) == 39) = (c == 39) := u8_beq c 39
  have e35 : ((c.toNat : Int) == 35) = (c == 35) := u8_beq c 35
  have e64 : ((c.toNat : Int) == 64) = (c == 64) := u8_beq c 64
  have e45 : ((c.toNat : Int) == 45) = (c == 45) := u8_beq c 45
  have hB0 := Begins_den s i hs (by omega)
  have hB1 := Begins_den s (i + 1) hs (by omega)
  have hN0 := names_den s i hs (by omega)
  have hN1 := names_den s (i + 1) hs (by omega)
  rw [hd] at hB0 hN0
  rw [g2] at hB1 hN1
  have hI := inner1_den s i c r hs hd
  have hsd : (s.take (i + 1)).drop i = [c] := by rw [List.drop_take, hd]; rw [show i + 1 - i = 1 by omega]; rfl
  have bd1 : (((i + 1 : Nat) : Int) ≤ (s.length : Int)) = True := eq_true (by omega)
  have bd2 : (((i : Nat) : Int) ≤ ((i + 1 : Nat) : Int)) = True := eq_true (by omega)
  have nz : ∀ d : UInt8, c = d → Tk.within d = false → Tk.nameB (c :: r) = false := fun d h hw => Tk.nameB_head (c := d) (by rw [Tk.at0_cons]; exact h) hw
  have hrl := Tk.run_le (p := Tk.within) r
  have hlt1 : ∀ d r', r = d :: r' → decide (((i + 1 : Nat) : Int) < (s.length : Int)) = true := fun d r' h => decide_eq_true (by rw [hlen, h]; simp; omega)
  by_cases h47 : c = 47
  · have q47 : (c == 47) = true := by simp [h47]
    rw [q47] at e47
    have q34 : (c == 34) = false := by simp [h47]
    have q39 : (c == 39) = false := by simp [h47]
    have q35 : (c == 35) = false := by simp [h47]
    have q64 : (c == 64) = false := by simp [h47]
    have q45 : (c == 45) = false := by simp [h47]
    have qd : Tk.digit c = false := by rw [h47]; decide
    have qb : Tk.blank c = false := by rw [h47]; decide
    have qn := nz 47 h47 (by decide)
    rw [q34] at e34
    rw [q39] at e39
    rw [q35] at e35
    rw [q64] at e64
    rw [q45] at e45
    rw [qd] at f2
    rw [qb] at f4
    rw [qn] at hB0
    have hdef : ¬ (c = 47 ∧ Tk.at0 r = 42) → Tk.step c r = (some ⟨7, [c], 0⟩, 1) := fun h1 => by
      unfold Tk.step
      rw [if_neg h1, if_neg (by simp [qb]), if_neg (fun x => by rcases x.1 with x | x <;> (rw [h47] at x; exact absurd x (by decide))), if_neg (fun x => by rw [h47] at x; exact absurd x.1 (by decide)), if_neg (fun x => by rw [h47] at x; exact absurd x.1 (by decide)), if_neg (by simp [qd]), if_neg (fun x => by rw [h47] at x; exact absurd x.1 (by decide)), if_neg (by rw [Tk.name_zero qn]; omega)]
    cases r with
    | nil =>
      have e := hdef (fun h => absurd h.2 (by decide))
      have hl0 : decide (((i + 1 : Nat) : Int) < (s.length : Int)) = false := decide_eq_false (by rw [hlen]; simp)
      rw [e]
      refine den_run rfl rfl Tryz.func122 rfl Tryz.ntmps122 ⟨by simp, by simp [LK]⟩ ?_
      simp only [go_sem, Nat.reduceLT, reduceCtorEq, Nat.reduceEqDiff, Nat.reduceBEq, Nat.reduceAdd, Nat.reduceSub, Nat.reduceLeDiff, ty_shapeT_47, ty_zeroCells_47, ev_index ty_descOf_9, ev_len_str ty_descOf_9, ev_build ty_zeroCells_47 ty_placesOf_47, good_185, ty_szOf_47, good_186, good_187, ev_slice_str ty_descOf_9, good_188, good_189, good_190, hr, Int.natCast_nonneg, Int.toNat_natCast, ty_shapeT_47, tokAt, Tok.cells, stepT, Option.getD_some, g1, e47, hl0, d4, f4, e34, e39, e35, e64, f2, e45, hB0, wi, hsd, bd1, bd2]
    | cons d r' =>
      have hl0 := hlt1 d r' rfl
      obtain ⟨k1, k2, k3⟩ := drop_cons g2
      have e42 : ((d.toNat : Int) == 42) = (d == 42) := u8_beq d 42
      by_cases h42 : d = 42
      · have q42 : (d == 42) = true := by simp [h42]
        rw [q42] at e42
        have e : Tk.step c (d :: r') = (none, Tk.comment r') := by unfold Tk.step; rw [if_pos ⟨h47, h42⟩]; rfl
        have hC := comment1_den s i hs (by rw [hlen]; simp; omega)
        have g4 : s.drop (i + 2) = r' := k2
        rw [g4] at hC
        rw [e]
        refine den_run rfl rfl Tryz.func122 rfl Tryz.ntmps122 ⟨by simp, by simp [LK]⟩ ?_
        simp only [go_sem, Nat.reduceLT, reduceCtorEq, Nat.reduceEqDiff, Nat.reduceBEq, Nat.reduceAdd, Nat.reduceSub, Nat.reduceLeDiff, ty_shapeT_47, ty_zeroCells_47, ev_index ty_descOf_9, ev_len_str ty_descOf_9, ev_build ty_zeroCells_47 ty_placesOf_47, good_185, ty_szOf_47, hr, Int.natCast_nonneg, Int.toNat_natCast, ty_shapeT_47, tokAt, Tok.cells, stepT, Option.getD_none, g1, k1, wi, e47, hl0, e42, hC]
      · have q42 : (d == 42) = false := by simpa using h42
        rw [q42] at e42
        have e := hdef (fun h => h42 h.2)
        rw [e]
        refine den_run rfl rfl Tryz.func122 rfl Tryz.ntmps122 ⟨by simp, by simp [LK]⟩ ?_
        simp only [go_sem, Nat.reduceLT, reduceCtorEq, Nat.reduceEqDiff, Nat.reduceBEq, Nat.reduceAdd, Nat.reduceSub, Nat.reduceLeDiff, ty_shapeT_47, ty_zeroCells_47, ev_index ty_descOf_9, ev_len_str ty_descOf_9, ev_build ty_zeroCells_47 ty_placesOf_47, good_185, ty_szOf_47, good_186, good_187, ev_slice_str ty_descOf_9, good_188, good_189, good_190, hr, Int.natCast_nonneg, Int.toNat_natCast, ty_shapeT_47, tokAt, Tok.cells, stepT, Option.getD_some, g1, k1, e47, hl0, e42, d4, f4, e34, e39, e35, e64, f2, e45, hB0, wi, hsd, bd1, bd2]
  have q47 : (c == 47) = false := by simpa using h47
  rw [q47] at e47
  have h1 : ¬ (c = 47 ∧ Tk.at0 r = 42) := fun h => h47 h.1
  by_cases h2 : Tk.blank c = true
  · have e : Tk.step c r = (some ⟨8, [10], 0⟩, Tk.run Tk.blank (c :: r)) := by unfold Tk.step; rw [if_neg h1, if_pos h2]
    rw [h2] at f4
    have hl := bl_loop s hs (c :: r) i hd (by omega)
    conv at hl in loopAt _ _ => whnf
    obtain ⟨o, S', w, rfl, fn, f4', f6, fb⟩ := hl
    rw [e]
    refine den_run rfl rfl Tryz.func122 rfl Tryz.ntmps122 ⟨by simp, by simp [LK]⟩ ?_
    simp only [go_sem, Nat.reduceLT, reduceCtorEq, Nat.reduceEqDiff, Nat.reduceBEq, Nat.reduceAdd, Nat.reduceSub, Nat.reduceLeDiff, ty_shapeT_47, ty_zeroCells_47, ev_index ty_descOf_9, ev_build ty_zeroCells_47 ty_placesOf_47, good_185, ty_szOf_47, good_186, hr, Int.natCast_nonneg, Int.toNat_natCast, ty_shapeT_47, tokAt, Tok.cells, stepT, Option.getD_some, g1, e47, d4, f4]
    rw [exL_head]
    simp only [go_sem, reduceCtorEq, Nat.reduceEqDiff, Nat.reduceSub, Nat.reduceLeDiff, keep_122_5]
    erw [w]
    simp only [go_sem, Nat.reduceLT, Nat.reduceEqDiff, Nat.reduceBEq, Nat.reduceAdd, Nat.reduceLeDiff, ev_build ty_zeroCells_47 ty_placesOf_47, ty_szOf_47, fn, f4', f6, fb]
  have qb : Tk.blank c = false := by simpa using h2
  rw [qb] at f4
  by_cases hq : c = 34 ∨ c = 39
  · have q35 : (c == 35) = false := by rcases hq with rfl | rfl <;> decide
    have q64 : (c == 64) = false := by rcases hq with rfl | rfl <;> decide
    have q45 : (c == 45) = false := by rcases hq with rfl | rfl <;> decide
    have qd : Tk.digit c = false := by rcases hq with rfl | rfl <;> decide
    have qn := nz c rfl (by rcases hq with rfl | rfl <;> decide)
    have q3 : (((c.toNat : Int) == 34) = true) ∨ (((c.toNat : Int) == 34) = false ∧ ((c.toNat : Int) == 39) = true) := by rcases hq with rfl | rfl <;> decide
    rw [q35] at e35
    rw [q64] at e64
    rw [q45] at e45
    rw [qd] at f2
    rw [qn] at hB0
    clear e34 e39
    unfold innerK at hI
    cases hi : Tk.inner c r with
    | none =>
      rw [hi] at hI
      have en : decide ((0 : Int) < -1) = false := by decide
      have e : Tk.step c r = (some ⟨7, [c], 0⟩, 1) := by
        unfold Tk.step
        rw [if_neg h1, if_neg h2, if_neg (fun x => by rw [hi] at x; cases x.2), if_neg (fun x => by simp [x.1] at q35), if_neg (fun x => by simp [x.1] at q64), if_neg (by simp [qd]), if_neg (fun x => by simp [x.1] at q45), if_neg (by rw [Tk.name_zero qn]; omega)]
      rcases q3 with e34 | ⟨e34, e39⟩
      ·
        rw [e]
        refine den_run rfl rfl Tryz.func122 rfl Tryz.ntmps122 ⟨by simp, by simp [LK]⟩ ?_
        simp only [go_sem, Nat.reduceLT, reduceCtorEq, Nat.reduceEqDiff, Nat.reduceBEq, Nat.reduceAdd, Nat.reduceSub, Nat.reduceLeDiff, ty_shapeT_47, ty_zeroCells_47, ev_index ty_descOf_9, ev_build ty_zeroCells_47 ty_placesOf_47, good_185, ty_szOf_47, good_186, good_187, ev_slice_str ty_descOf_9, ev_conv_int ty_descOf_5 ty_descOf_3, good_188, good_189, good_190, hr, Int.natCast_nonneg, Int.toNat_natCast, ty_shapeT_47, tokAt, Tok.cells, stepT, Option.getD_some, g1, e47, d4, f4, e34, hI, en, e35, e64, f2, e45, hB0, wi, hsd, bd1, bd2]
      ·
        rw [e]
        refine den_run rfl rfl Tryz.func122 rfl Tryz.ntmps122 ⟨by simp, by simp [LK]⟩ ?_
        simp only [go_sem, Nat.reduceLT, reduceCtorEq, Nat.reduceEqDiff, Nat.reduceBEq, Nat.reduceAdd, Nat.reduceSub, Nat.reduceLeDiff, ty_shapeT_47, ty_zeroCells_47, ev_index ty_descOf_9, ev_build ty_zeroCells_47 ty_placesOf_47, good_185, ty_szOf_47, good_186, good_187, ev_slice_str ty_descOf_9, ev_conv_int ty_descOf_5 ty_descOf_3, good_188, good_189, good_190, hr, Int.natCast_nonneg, Int.toNat_natCast, ty_shapeT_47, tokAt, Tok.cells, stepT, Option.getD_some, g1, e47, d4, f4, e34, e39, hI, en, e35, e64, f2, e45, hB0, wi, hsd, bd1, bd2]
    | some n =>
      rw [hi] at hI
      have hnl := Tk.inner_le hi
      have e : Tk.step c r = (some ⟨6, r.take n, c.toNat⟩, n + 2) := by unfold Tk.step; rw [if_neg h1, if_neg h2, if_pos ⟨hq, by rw [hi]; rfl⟩, hi]; rfl
      have en : decide ((0 : Int) < ((i + 1 + n : Nat) : Int)) = true := decide_eq_true (by omega)
      have hsl : (s.take (i + 1 + n)).drop (i + 1) = r.take n := by rw [List.drop_take, g2]; congr 1; omega
      have b1 : (((i + 1 + n : Nat) : Int) ≤ (s.length : Int)) = True := eq_true (by omega)
      have b2 : (((i + 1 : Nat) : Int) ≤ ((i + 1 + n : Nat) : Int)) = True := eq_true (by omega)
      have w3 : IntKind.i64.wrap (c.toNat : Int) = (c.toNat : Int) := IntWalk.i64_in _ (by have := c.toNat_lt; omega)
      have w4 := wrap_nat (i + 1 + n) (by omega)
      have hend : i + (n + 2) = i + 1 + n + 1 := by omega
      rw [e]
      simp only [hend]
      rcases q3 with e34 | ⟨e34, e39⟩
      ·
        refine den_run rfl rfl Tryz.func122 rfl Tryz.ntmps122 ⟨by simp, by simp [LK]⟩ ?_
        simp only [go_sem, Nat.reduceLT, reduceCtorEq, Nat.reduceEqDiff, Nat.reduceBEq, Nat.reduceAdd, Nat.reduceSub, Nat.reduceLeDiff, ty_shapeT_47, ty_zeroCells_47, ev_index ty_descOf_9, ev_build ty_zeroCells_47 ty_placesOf_47, good_185, ty_szOf_47, good_186, good_187, ev_slice_str ty_descOf_9, ev_conv_int ty_descOf_5 ty_descOf_3, hr, Int.natCast_nonneg, Int.toNat_natCast, ty_shapeT_47, tokAt, Tok.cells, stepT, Option.getD_some, g1, e47, d4, f4, e34, hI, en, wi, hsl, b1, b2, w3, w4]
      ·
        refine den_run rfl rfl Tryz.func122 rfl Tryz.ntmps122 ⟨by simp, by simp [LK]⟩ ?_
        simp only [go_sem, Nat.reduceLT, reduceCtorEq, Nat.reduceEqDiff, Nat.reduceBEq, Nat.reduceAdd, Nat.reduceSub, Nat.reduceLeDiff, ty_shapeT_47, ty_zeroCells_47, ev_index ty_descOf_9, ev_build ty_zeroCells_47 ty_placesOf_47, good_185, ty_szOf_47, good_186, good_187, ev_slice_str ty_descOf_9, ev_conv_int ty_descOf_5 ty_descOf_3, hr, Int.natCast_nonneg, Int.toNat_natCast, ty_shapeT_47, tokAt, Tok.cells, stepT, Option.getD_some, g1, e47, d4, f4, e34, e39, hI, en, wi, hsl, b1, b2, w3, w4]
  rw [not_or] at hq
  have q34 : (c == 34) = false := by simpa using hq.1
  have q39 : (c == 39) = false := by simpa using hq.2
  rw [q34] at e34
  rw [q39] at e39
  have h3 : ¬ ((c = 34 ∨ c = 39) ∧ (Tk.inner c r).isSome = true) := fun x => by rcases x.1 with x | x; exact hq.1 x; exact hq.2 x
  clear hI
  by_cases h4 : c = 35
  · have q35 : (c == 35) = true := by simp [h4]
    have q64 : (c == 64) = false := by simp [h4]
    have q45 : (c == 45) = false := by simp [h4]
    have qd : Tk.digit c = false := by rw [h4]; decide
    have qn := nz 35 h4 (by decide)
    rw [q35] at e35
    rw [q64] at e64
    rw [q45] at e45
    rw [qd] at f2
    rw [qn] at hB0
    by_cases hpos : 0 < Tk.run Tk.within r
    · have e : Tk.step c r = (some ⟨4, r.take (Tk.run Tk.within r), 0⟩, Tk.run Tk.within r + 1) := by unfold Tk.step; rw [if_neg h1, if_neg h2, if_neg h3, if_pos ⟨h4, hpos⟩]
      have hsl : (s.take (i + 1 + Tk.run Tk.within r)).drop (i + 1) = r.take (Tk.run Tk.within r) := by rw [List.drop_take, g2]; congr 1; omega
      have hend : i + (Tk.run Tk.within r + 1) = i + 1 + Tk.run Tk.within r := by omega
      rw [e]
      simp only [hend]
      generalize Tk.run Tk.within r = n at hN1 hrl hpos hsl
      have en : decide (((i + 1 : Nat) : Int) < ((i + 1 + n : Nat) : Int)) = true := decide_eq_true (by omega)
      have b1 : (((i + 1 + n : Nat) : Int) ≤ (s.length : Int)) = True := eq_true (by omega)
      have b2 : (((i + 1 : Nat) : Int) ≤ ((i + 1 + n : Nat) : Int)) = True := eq_true (by omega)
      refine den_run rfl rfl Tryz.func122 rfl Tryz.ntmps122 ⟨by simp, by simp [LK]⟩ ?_
      simp only [go_sem, Nat.reduceLT, reduceCtorEq, Nat.reduceEqDiff, Nat.reduceBEq, Nat.reduceAdd, Nat.reduceSub, Nat.reduceLeDiff, ty_shapeT_47, ty_zeroCells_47, ev_index ty_descOf_9, ev_build ty_zeroCells_47 ty_placesOf_47, good_185, ty_szOf_47, good_186, good_187, ev_slice_str ty_descOf_9, good_188, hr, Int.natCast_nonneg, Int.toNat_natCast, ty_shapeT_47, tokAt, Tok.cells, stepT, Option.getD_some, g1, e47, d4, f4, e34, e39, e35, wi, hN1, en, hsl, b1, b2]
    · have hr0 : Tk.run Tk.within r = 0 := by omega
      have e : Tk.step c r = (some ⟨7, [c], 0⟩, 1) := by
        unfold Tk.step
        rw [if_neg h1, if_neg h2, if_neg h3, if_neg (fun x => hpos x.2), if_neg (fun x => by simp [x.1] at q64), if_neg (by simp [qd]), if_neg (fun x => by simp [x.1] at q45), if_neg (by rw [Tk.name_zero qn]; omega)]
      rw [hr0, Nat.add_zero] at hN1
      rw [e]
      refine den_run rfl rfl Tryz.func122 rfl Tryz.ntmps122 ⟨by simp, by simp [LK]⟩ ?_
      simp only [go_sem, Nat.reduceLT, reduceCtorEq, Nat.reduceEqDiff, Nat.reduceBEq, Nat.reduceAdd, Nat.reduceSub, Nat.reduceLeDiff, ty_shapeT_47, ty_zeroCells_47, ev_index ty_descOf_9, ev_build ty_zeroCells_47 ty_placesOf_47, good_185, ty_szOf_47, good_186, good_187, ev_slice_str ty_descOf_9, good_188, good_189, good_190, hr, Int.natCast_nonneg, Int.toNat_natCast, Int.le_refl, ty_shapeT_47, tokAt, Tok.cells, stepT, Option.getD_some, g1, e47, d4, f4, e34, e39, e35, hN1, Int.lt_irrefl, e64, f2, e45, hB0, wi, hsd, bd1, bd2]
  have q35 : (c == 35) = false := by simpa using h4
  rw [q35] at e35
  by_cases h5 : c = 64
  · have q64 : (c == 64) = true := by simp [h5]
    have q45 : (c == 45) = false := by simp [h5]
    have qd : Tk.digit c = false := by rw [h5]; decide
    have qn := nz 64 h5 (by decide)
    rw [q64] at e64
    rw [q45] at e45
    rw [qd] at f2
    rw [qn] at hB0
    cases hb : Tk.nameB r
    · rw [hb] at hB1
      have e : Tk.step c r = (some ⟨7, [c], 0⟩, 1) := by
        unfold Tk.step
        rw [if_neg h1, if_neg h2, if_neg h3, if_neg (fun x => h4 x.1), if_neg (fun x => by have := Tk.name_zero hb; omega), if_neg (by simp [qd]), if_neg (fun x => by simp [x.1] at q45), if_neg (by rw [Tk.name_zero qn]; omega)]
      rw [e]
      refine den_run rfl rfl Tryz.func122 rfl Tryz.ntmps122 ⟨by simp, by simp [LK]⟩ ?_
      simp only [go_sem, Nat.reduceLT, reduceCtorEq, Nat.reduceEqDiff, Nat.reduceBEq, Nat.reduceAdd, Nat.reduceSub, Nat.reduceLeDiff, ty_shapeT_47, ty_zeroCells_47, ev_index ty_descOf_9, ev_build ty_zeroCells_47 ty_placesOf_47, good_185, ty_szOf_47, good_186, good_187, ev_slice_str ty_descOf_9, good_188, good_189, good_190, hr, Int.natCast_nonneg, Int.toNat_natCast, ty_shapeT_47, tokAt, Tok.cells, stepT, Option.getD_some, g1, e47, d4, f4, e34, e39, e35, e64, hB1, f2, e45, hB0, wi, hsd, bd1, bd2]
    · rw [hb] at hB1
      have hnm : Tk.name r = Tk.run Tk.within r := by rw [Tk.name, if_pos hb]
      have hpos : 0 < Tk.name r := Tk.name_pos_iff.2 hb
      have e : Tk.step c r = (some ⟨3, r.take (Tk.run Tk.within r), 0⟩, Tk.run Tk.within r + 1) := by unfold Tk.step; rw [if_neg h1, if_neg h2, if_neg h3, if_neg (fun x => h4 x.1), if_pos ⟨h5, hpos⟩, hnm]
      have hsl : (s.take (i + 1 + Tk.run Tk.within r)).drop (i + 1) = r.take (Tk.run Tk.within r) := by rw [List.drop_take, g2]; congr 1; omega
      have hend : i + (Tk.run Tk.within r + 1) = i + 1 + Tk.run Tk.within r := by omega
      rw [e]
      simp only [hend]
      generalize Tk.run Tk.within r = n at hN1 hrl hsl
      have b1 : (((i + 1 + n : Nat) : Int) ≤ (s.length : Int)) = True := eq_true (by omega)
      have b2 : (((i + 1 : Nat) : Int) ≤ ((i + 1 + n : Nat) : Int)) = True := eq_true (by omega)
      refine den_run rfl rfl Tryz.func122 rfl Tryz.ntmps122 ⟨by simp, by simp [LK]⟩ ?_
      simp only [go_sem, Nat.reduceLT, reduceCtorEq, Nat.reduceEqDiff, Nat.reduceBEq, Nat.reduceAdd, Nat.reduceSub, Nat.reduceLeDiff, ty_shapeT_47, ty_zeroCells_47, ev_index ty_descOf_9, ev_build ty_zeroCells_47 ty_placesOf_47, good_185, ty_szOf_47, good_186, good_187, ev_slice_str ty_descOf_9, good_188, good_189, hr, Int.natCast_nonneg, Int.toNat_natCast, ty_shapeT_47, tokAt, Tok.cells, stepT, Option.getD_some, g1, e47, d4, f4, e34, e39, e35, e64, hB1, wi, hN1, hsl, b1, b2]
  have q64 : (c == 64) = false := by simpa using h5
  rw [q64] at e64
  by_cases h6 : Tk.digit c = true
  · have q45 : (c == 45) = false := by simpa using Tk.digit_ne h6 (d := 45) (by decide)
    have e : Tk.step c r = (some (Tk.number false (c :: r)).1, (Tk.number false (c :: r)).2) := Tk.step_number h6
    have hnm := number1_den s i c r false (c :: r) hs hd q45 rfl
    simp only [Bool.false_eq_true, if_false, Nat.add_zero, tokAt, Tok.cells] at hnm
    rw [h6] at f2
    rw [e]
    refine den_run rfl rfl Tryz.func122 rfl Tryz.ntmps122 ⟨by simp, by simp [LK]⟩ ?_
    simp only [go_sem, Nat.reduceLT, reduceCtorEq, Nat.reduceEqDiff, Nat.reduceBEq, Nat.reduceAdd, Nat.reduceSub, Nat.reduceLeDiff, ty_shapeT_47, ty_zeroCells_47, ev_index ty_descOf_9, ev_build ty_zeroCells_47 ty_placesOf_47, good_185, ty_szOf_47, good_186, good_187, good_188, good_190, hr, Int.natCast_nonneg, Int.toNat_natCast, ty_shapeT_47, tokAt, Tok.cells, stepT, Option.getD_some, g1, e47, d4, f4, e34, e39, e35, e64, f2, hnm, TV.flat]
  have qd : Tk.digit c = false := by simpa using h6
  rw [qd] at f2
  by_cases h7 : c = 45 ∧ Tk.digit (Tk.at0 r) = true
  · have q45 : (c == 45) = true := by simp [h7.1]
    have e : Tk.step c r = (some (Tk.number true r).1, (Tk.number true r).2 + 1) := by rw [h7.1]; exact Tk.step_minus h7.2
    have hnm := number1_den s i c r true r hs hd q45 rfl
    simp only [if_true, tokAt, Tok.cells] at hnm
    have hend : i + ((Tk.number true r).2 + 1) = i + 1 + (Tk.number true r).2 := by omega
    rw [q45] at e45
    rw [h7.2] at f5
    rw [e]
    simp only [hend]
    refine den_run rfl rfl Tryz.func122 rfl Tryz.ntmps122 ⟨by simp, by simp [LK]⟩ ?_
    simp only [go_sem, Nat.reduceLT, reduceCtorEq, Nat.reduceEqDiff, Nat.reduceBEq, Nat.reduceAdd, Nat.reduceSub, Nat.reduceLeDiff, ty_shapeT_47, ty_zeroCells_47, ev_index ty_descOf_9, ev_build ty_zeroCells_47 ty_placesOf_47, good_185, ty_szOf_47, good_186, good_187, good_188, good_190, hr, Int.natCast_nonneg, Int.toNat_natCast, ty_shapeT_47, tokAt, Tok.cells, stepT, Option.getD_some, g1, e47, d4, f4, e34, e39, e35, e64, f2, e45, wi, d5, f5, hnm, TV.flat]
  have e0 : Tk.step c r = if 0 < Tk.name (c :: r) then if Tk.at0 ((c :: r).drop (Tk.name (c :: r))) = 40 then (some ⟨2, (c :: r).take (Tk.name (c :: r)), 0⟩, Tk.name (c :: r) + 1) else (some ⟨1, (c :: r).take (Tk.name (c :: r)), 0⟩, Tk.name (c :: r)) else (some ⟨7, [c], 0⟩, 1) := by
    unfold Tk.step
    rw [if_neg h1, if_neg h2, if_neg h3, if_neg (fun x => h4 x.1), if_neg (fun x => h5 x.1), if_neg h6, if_neg h7]
  have hm : (((c.toNat : Int) == 45) = false) ∨ (((c.toNat : Int) == 45) = true ∧ (atC r == 2) = false) := by
    cases q : (c == 45)
    · left; rw [e45, q]
    · right
      refine ⟨by rw [e45, q], ?_⟩
      rw [f5]
      cases hh : Tk.digit (Tk.at0 r)
      · rfl
      · exact absurd ⟨by simpa using q, hh⟩ h7
  clear e45 f5
  cases hb : Tk.nameB (c :: r)
  · rw [hb] at hB0
    have e : Tk.step c r = (some ⟨7, [c], 0⟩, 1) := by rw [e0, if_neg (by rw [Tk.name_zero hb]; omega)]
    rcases hm with m1 | ⟨m1, m2⟩
    ·
      rw [e]
      refine den_run rfl rfl Tryz.func122 rfl Tryz.ntmps122 ⟨by simp, by simp [LK]⟩ ?_
      simp only [go_sem, Nat.reduceLT, reduceCtorEq, Nat.reduceEqDiff, Nat.reduceBEq, Nat.reduceAdd, Nat.reduceSub, Nat.reduceLeDiff, ty_shapeT_47, ty_zeroCells_47, ev_index ty_descOf_9, ev_build ty_zeroCells_47 ty_placesOf_47, good_185, ty_szOf_47, good_186, good_187, ev_slice_str ty_descOf_9, good_188, good_189, good_190, hr, Int.natCast_nonneg, Int.toNat_natCast, ty_shapeT_47, tokAt, Tok.cells, stepT, Option.getD_some, g1, e47, d4, f4, e34, e39, e35, e64, f2, m1, hB0, wi, hsd, bd1, bd2]
    ·
      rw [e]
      refine den_run rfl rfl Tryz.func122 rfl Tryz.ntmps122 ⟨by simp, by simp [LK]⟩ ?_
      simp only [go_sem, Nat.reduceLT, reduceCtorEq, Nat.reduceEqDiff, Nat.reduceBEq, Nat.reduceAdd, Nat.reduceSub, Nat.reduceLeDiff, ty_shapeT_47, ty_zeroCells_47, ev_index ty_descOf_9, ev_build ty_zeroCells_47 ty_placesOf_47, good_185, ty_szOf_47, good_186, good_187, ev_slice_str ty_descOf_9, good_188, good_189, good_190, hr, Int.natCast_nonneg, Int.toNat_natCast, ty_shapeT_47, tokAt, Tok.cells, stepT, Option.getD_some, g1, e47, d4, f4, e34, e39, e35, e64, f2, m1, d5, m2, hB0, wi, hsd, bd1, bd2]
  · rw [hb] at hB0
    have hnm : Tk.name (c :: r) = Tk.run Tk.within (c :: r) := by rw [Tk.name, if_pos hb]
    have hpos : 0 < Tk.name (c :: r) := Tk.name_pos_iff.2 hb
    rw [if_pos hpos, hnm] at e0
    have hle := Tk.run_le (p := Tk.within) (c :: r)
    rw [List.length_cons] at hle
    have hsl : (s.take (i + Tk.run Tk.within (c :: r))).drop i = (c :: r).take (Tk.run Tk.within (c :: r)) := by rw [List.drop_take, hd]; congr 1; omega
    have hat : s.drop (i + Tk.run Tk.within (c :: r)) = (c :: r).drop (Tk.run Tk.within (c :: r)) := by rw [← List.drop_drop, hd]
    have hcell := at0_drop s (i + Tk.run Tk.within (c :: r))
    rw [hat] at hcell
    have e40 : (((Tk.at0 ((c :: r).drop (Tk.run Tk.within (c :: r)))).toNat : Int) == 40) = (Tk.at0 ((c :: r).drop (Tk.run Tk.within (c :: r))) == 40) := u8_beq _ 40
    rw [e0]
    generalize (c :: r).drop (Tk.run Tk.within (c :: r)) = rd at hcell e40
    generalize (c :: r).take (Tk.run Tk.within (c :: r)) = tx at hsl
    generalize Tk.run Tk.within (c :: r) = n at hN0 hle hsl hcell
    have b1 : (((i + n : Nat) : Int) ≤ (s.length : Int)) = True := eq_true (by omega)
    have b2 : (((i : Nat) : Int) ≤ ((i + n : Nat) : Int)) = True := eq_true (by omega)
    have w4 := wrap_nat (i + n) (by omega)
    rcases hcell with ⟨_, hz, hge⟩ | ⟨hlt, hget⟩
    · have el : decide (((i + n : Nat) : Int) < (s.length : Int)) = false := decide_eq_false (by omega)
      rw [if_neg (by rw [hz]; decide)]
      rcases hm with m1 | ⟨m1, m2⟩
      ·
        refine den_run rfl rfl Tryz.func122 rfl Tryz.ntmps122 ⟨by simp, by simp [LK]⟩ ?_
        simp only [go_sem, Nat.reduceLT, reduceCtorEq, Nat.reduceEqDiff, Nat.reduceBEq, Nat.reduceAdd, Nat.reduceSub, Nat.reduceLeDiff, ty_shapeT_47, ty_zeroCells_47, ev_index ty_descOf_9, ev_len_str ty_descOf_9, ev_build ty_zeroCells_47 ty_placesOf_47, good_185, ty_szOf_47, good_186, good_187, ev_slice_str ty_descOf_9, good_188, good_189, good_190, hr, Int.natCast_nonneg, Int.toNat_natCast, ty_shapeT_47, tokAt, Tok.cells, stepT, Option.getD_some, g1, e47, d4, f4, e34, e39, e35, e64, f2, m1, hB0, hN0, el, hsl, b1, b2]
      ·
        refine den_run rfl rfl Tryz.func122 rfl Tryz.ntmps122 ⟨by simp, by simp [LK]⟩ ?_
        simp only [go_sem, Nat.reduceLT, reduceCtorEq, Nat.reduceEqDiff, Nat.reduceBEq, Nat.reduceAdd, Nat.reduceSub, Nat.reduceLeDiff, ty_shapeT_47, ty_zeroCells_47, ev_index ty_descOf_9, ev_len_str ty_descOf_9, ev_build ty_zeroCells_47 ty_placesOf_47, good_185, ty_szOf_47, good_186, good_187, ev_slice_str ty_descOf_9, good_188, good_189, good_190, hr, Int.natCast_nonneg, Int.toNat_natCast, ty_shapeT_47, tokAt, Tok.cells, stepT, Option.getD_some, g1, e47, d4, f4, e34, e39, e35, e64, f2, m1, wi, d5, m2, hB0, hN0, el, hsl, b1, b2]
    · have el : decide (((i + n : Nat) : Int) < (s.length : Int)) = true := decide_eq_true (by omega)
      by_cases h40 : Tk.at0 rd = 40
      · have q40 : (Tk.at0 rd == 40) = true := by simpa using h40
        rw [q40] at e40
        rw [if_pos h40]
        simp only [← Nat.add_assoc]
        rcases hm with m1 | ⟨m1, m2⟩
        ·
          refine den_run rfl rfl Tryz.func122 rfl Tryz.ntmps122 ⟨by simp, by simp [LK]⟩ ?_
          simp only [go_sem, Nat.reduceLT, reduceCtorEq, Nat.reduceEqDiff, Nat.reduceBEq, Nat.reduceAdd, Nat.reduceSub, Nat.reduceLeDiff, ty_shapeT_47, ty_zeroCells_47, ev_index ty_descOf_9, ev_len_str ty_descOf_9, ev_build ty_zeroCells_47 ty_placesOf_47, good_185, ty_szOf_47, good_186, good_187, ev_slice_str ty_descOf_9, good_188, good_189, good_190, hr, Int.natCast_nonneg, Int.toNat_natCast, ty_shapeT_47, tokAt, Tok.cells, stepT, Option.getD_some, g1, e47, d4, f4, e34, e39, e35, e64, f2, m1, hB0, hN0, el, hget, e40, hsl, b1, b2, w4]
        ·
          refine den_run rfl rfl Tryz.func122 rfl Tryz.ntmps122 ⟨by simp, by simp [LK]⟩ ?_
          simp only [go_sem, Nat.reduceLT, reduceCtorEq, Nat.reduceEqDiff, Nat.reduceBEq, Nat.reduceAdd, Nat.reduceSub, Nat.reduceLeDiff, ty_shapeT_47, ty_zeroCells_47, ev_index ty_descOf_9, ev_len_str ty_descOf_9, ev_build ty_zeroCells_47 ty_placesOf_47, good_185, ty_szOf_47, good_186, good_187, ev_slice_str ty_descOf_9, good_188, good_189, good_190, hr, Int.natCast_nonneg, Int.toNat_natCast, ty_shapeT_47, tokAt, Tok.cells, stepT, Option.getD_some, g1, e47, d4, f4, e34, e39, e35, e64, f2, m1, wi, d5, m2, hB0, hN0, el, hget, e40, hsl, b1, b2, w4]
      · have q40 : (Tk.at0 rd == 40) = false := by simpa using h40
        rw [q40] at e40
        rw [if_neg h40]
        rcases hm with m1 | ⟨m1, m2⟩
        ·
          refine den_run rfl rfl Tryz.func122 rfl Tryz.ntmps122 ⟨by simp, by simp [LK]⟩ ?_
          simp only [go_sem, Nat.reduceLT, reduceCtorEq, Nat.reduceEqDiff, Nat.reduceBEq, Nat.reduceAdd, Nat.reduceSub, Nat.reduceLeDiff, ty_shapeT_47, ty_zeroCells_47, ev_index ty_descOf_9, ev_len_str ty_descOf_9, ev_build ty_zeroCells_47 ty_placesOf_47, good_185, ty_szOf_47, good_186, good_187, ev_slice_str ty_descOf_9, good_188, good_189, good_190, hr, Int.natCast_nonneg, Int.toNat_natCast, ty_shapeT_47, tokAt, Tok.cells, stepT, Option.getD_some, g1, e47, d4, f4, e34, e39, e35, e64, f2, m1, hB0, hN0, el, hget, e40, hsl, b1, b2]
        ·
          refine den_run rfl rfl Tryz.func122 rfl Tryz.ntmps122 ⟨by simp, by simp [LK]⟩ ?_
          simp only [go_sem, Nat.reduceLT, reduceCtorEq, Nat.reduceEqDiff, Nat.reduceBEq, Nat.reduceAdd, Nat.reduceSub, Nat.reduceLeDiff, ty_shapeT_47, ty_zeroCells_47, ev_index ty_descOf_9, ev_len_str ty_descOf_9, ev_build ty_zeroCells_47 ty_placesOf_47, good_185, ty_szOf_47, good_186, good_187, ev_slice_str ty_descOf_9, good_188, good_189, good_190, hr, Int.natCast_nonneg, Int.toNat_natCast, ty_shapeT_47, tokAt, Tok.cells, stepT, Option.getD_some, g1, e47, d4, f4, e34, e39, e35, e64, f2, m1, wi, d5, m2, hB0, hN0, el, hget, e40, hsl, b1, b2]
end Go.Abs
namespace Go.Abs
open Go Go.Proofs
set_option maxRecDepth 10000
attribute [local go_sem] exL_seq exL_region exL_cond exL_block exL_scope exL_ret exL_skip exL_exit runRegion runOps stepOp guardA absOp takeOver opd avOf cvOf St.degAt St.put okPV okVal okAV absBin intBin strBin boolBin setBoxes if_true Bool.false_eq_true if_false Option.map_some Option.map_none Option.bind_some Option.bind_none thenO outOf upd List.toList_toArray isOwn steal appArgs mvB inApps AV.deg CV.deg AV.gv AV.isIter absNext some_bne some_beqN List.length_nil List.length_cons List.filterMap_cons List.filterMap_nil beq_iff_eq List.getElem?_cons_zero List.getElem?_cons_succ Option.getD_some K_hook hookB Bool.false_and Bool.and_false Bool.and_self K_P K_own absCall doCall getBoxes lend back idx dedup AV.ren CV.ren TV.ren AV.ptrs CV.ptrs zipBox AV.flat CV.flat absLoad absStore cellsOfAV setAt newBox markB bldTypes absFieldAddr absField absExtract absAssert noAssert absMkIface ifcOf CV.pv? content pushHead ownT fillCells reps pvs chunks enterSt leave resOf resVars resVar outBoxes lentOnly TV.deg TV.av LK CV.plain CV.noBld nilBin absUn bound List.map_cons List.map_nil List.all_cons List.all_nil List.any_cons List.any_nil List.contains_cons List.contains_nil List.elem_cons List.elem_nil List.cons_append List.nil_append List.append_nil List.flatMap_cons List.flatMap_nil List.zip_cons_cons List.zip_nil_left List.zip_nil_right List.take_succ_cons List.take_zero List.take_nil List.drop_succ_cons List.drop_zero List.drop_nil List.isEmpty_nil List.isEmpty_cons Bool.and_true Bool.true_and Bool.or_true Bool.true_or Bool.or_false Bool.false_or Bool.not_true Bool.not_false Nat.add_zero Nat.zero_add Option.isNone_none Option.isNone_some Option.getD_none true_and and_true not_true_eq_false not_false_eq_true decide_true decide_false Nat.le_refl and_self Bool.not_eq_true Nat.sub_self or_true true_or Option.some.injEq List.length_map List.nil_eq and_false false_and AV.live CV.live CV.liveIn K_keep firstReg Option.orElse_some Option.orElse_none head keepSlots keepBoxes Int.lt_irrefl List.length_append ite_self memOK logOps opKey lentBoxes Key.clash Key.sees Key.writes Nat.lt_irrefl gt_iff_lt nobox_at bot_at false_or or_false beq_self_eq_true Bool.true_beq Bool.false_beq
theorem decDigits_small {u : Nat} (h : u < 10) : Lib.decDigits u = [UInt8.ofNat (48 + u)] := by rw [Lib.decDigits, dif_pos h]
theorem decDigits_big {u : Nat} (h : ¬ u < 10) : Lib.decDigits u = Lib.decDigits (u / 10) ++ [UInt8.ofNat (48 + u % 10)] := by rw [Lib.decDigits, dif_neg h]
theorem tdiv_nat (u : Nat) : (u : Int).tdiv 10 = ((u / 10 : Nat) : Int) := rfl
theorem tmod_nat (u : Nat) : (u : Int).tmod 10 = ((u % 10 : Nat) : Int) := rfl
theorem ten_ne : ((10 : Int) = 0) = False := by simp
theorem sl0 : (0 + 1 < strLim) = True := by simp [strLim]
theorem sl1 : (1 + 1 < strLim) = True := by simp [strLim]
theorem itoa_neg {n : Int} (h : n < 0) : Lib.itoa n = 45 :: Lib.decDigits n.natAbs := by unfold Lib.itoa; rw [if_pos h]
theorem itoa_pos {n : Int} (h : 0 ≤ n) : Lib.itoa n = Lib.decDigits n.toNat := by unfold Lib.itoa; rw [if_neg (by omega)]
set_option maxHeartbeats 4000000 in
theorem Digits_den : ∀ (k : Nat) (n : Int), n.natAbs ≤ k → I64 n → den K 49 [I n] [] = some (.ret (T (Lib.itoa n)) []) := by
  intro k
  induction k with
  | zero =>
    intro n hk hn
    have : n = 0 := by omega
    subst this
    refine den_run rfl rfl Tryz.func49 rfl Tryz.ntmps49 ⟨by simp, by simp [LK]⟩ ?_
    have hr : Tryz.f49.results = #[.tmp 2] := rfl
    have e : Lib.itoa 0 = [48] := by rw [itoa_pos (by omega)]; exact decDigits_small (by omega)
    rw [e]
    have w1 : IntKind.i64.wrap 48 = 48 := by decide
    have w2 : IntKind.u8.wrap 48 = 48 := by decide
    simp [go_sem, Nat.reduceLT, reduceIte, reduceCtorEq, Nat.reduceEqDiff, Nat.reduceBEq, ev_conv_int ty_descOf_3 ty_descOf_5, ev_buildSlice (len := 1) ty_descOf_98 ty_szOf_5 ty_zeroCells_5 ⟨rfl, by decide, by decide⟩, ev_conv_string ty_descOf_98 ty_descOf_9, bytesOf, ten_ne, w1, w2]
  | succ k ih =>
    intro n hk hn
    have hr : Tryz.f49.results = #[.tmp 2] := rfl
    have hlen := itoa_len hn
    by_cases hneg : n < 0
    · have hl : decide (n < 0) = true := decide_eq_true hneg
      have hq : n.tdiv 10 = -(((n.natAbs / 10 : Nat)) : Int) := by
        obtain ⟨u, rfl⟩ : ∃ u : Nat, n = -(u : Int) := ⟨n.natAbs, by omega⟩
        rw [Int.neg_tdiv, tdiv_nat]; simp only [Int.natAbs_neg, Int.natAbs_natCast]
      have hm : n.tmod 10 = -(((n.natAbs % 10 : Nat)) : Int) := by
        obtain ⟨u, rfl⟩ : ∃ u : Nat, n = -(u : Int) := ⟨n.natAbs, by omega⟩
        rw [Int.neg_tmod, tmod_nat]; simp only [Int.natAbs_neg, Int.natAbs_natCast]
      have w1 : IntKind.i64.wrap (n.tdiv 10) = n.tdiv 10 := IntWalk.i64_in _ (by have := hn.1; have := hn.2; omega)
      have w3 : IntKind.i64.wrap (48 - n.tmod 10) = ((48 + n.natAbs % 10 : Nat) : Int) := by rw [IntWalk.i64_in _ (by omega), hm]; omega
      have w4 : IntKind.u8.wrap ((48 + n.natAbs % 10 : Nat) : Int) = ((48 + n.natAbs % 10 : Nat) : Int) := IntWalk.u8_in _ (by omega)
      rw [itoa_neg hneg] at hlen ⊢
      by_cases hs : n.natAbs < 10
      · have hq0 : decide (n.tdiv 10 < 0) = false := decide_eq_false (by omega)
        rw [decDigits_small hs]
        have hmm : n.natAbs % 10 = n.natAbs := Nat.mod_eq_of_lt hs
        rw [hmm] at w3 w4
        refine den_run rfl rfl Tryz.func49 rfl Tryz.ntmps49 ⟨by simp, by simp [LK]⟩ ?_
        simp only [go_sem, Nat.reduceLT, reduceCtorEq, Nat.reduceEqDiff, Nat.reduceBEq, Nat.reduceAdd, Nat.reduceMul, good_49, ev_conv_int ty_descOf_3 ty_descOf_5, ev_buildSlice (len := 1) ty_descOf_98 ty_szOf_5 ty_zeroCells_5 ⟨rfl, by decide, by decide⟩, ev_conv_string ty_descOf_98 ty_descOf_9, hr, bytesOf, ten_ne, Int.toNat_natCast, sl0, sl1, hl, hq0, w1, w3, w4]
      · have hq1 : decide (n.tdiv 10 < 0) = true := decide_eq_true (by omega)
        have w2 : IntKind.i64.wrap (0 - n.tdiv 10) = ((n.natAbs / 10 : Nat) : Int) := by rw [IntWalk.i64_in _ (by have := hn.1; have := hn.2; omega)]; omega
        have hc := ih ((n.natAbs / 10 : Nat) : Int) (by omega) ⟨by omega, by have := hn.1; have := hn.2; omega⟩
        rw [itoa_pos (by omega), Int.toNat_natCast] at hc
        rw [decDigits_big hs] at hlen ⊢
        have s1 : 1 + (Lib.decDigits (n.natAbs / 10)).length < strLim := by simp at hlen; simp [strLim]; omega
        have s2 : (Lib.decDigits (n.natAbs / 10)).length + 1 + 1 < strLim := by simp at hlen; simp [strLim]; omega
        refine den_run rfl rfl Tryz.func49 rfl Tryz.ntmps49 ⟨by simp, by simp [LK]⟩ ?_
        simp only [go_sem, Nat.reduceLT, reduceCtorEq, Nat.reduceEqDiff, Nat.reduceBEq, Nat.reduceAdd, Nat.reduceMul, good_49, ev_conv_int ty_descOf_3 ty_descOf_5, ev_buildSlice (len := 1) ty_descOf_98 ty_szOf_5 ty_zeroCells_5 ⟨rfl, by decide, by decide⟩, ev_conv_string ty_descOf_98 ty_descOf_9, hr, bytesOf, ten_ne, Int.toNat_natCast, hl, hq1, w1, w2, w3, w4, hc, s1, s2]
    · have hl : decide (n < 0) = false := decide_eq_false hneg
      obtain ⟨u, rfl⟩ : ∃ u : Nat, n = u := ⟨n.toNat, by omega⟩
      have hm : (u : Int).tmod 10 = ((u % 10 : Nat) : Int) := rfl
      have w3 : IntKind.i64.wrap (48 + (u : Int).tmod 10) = ((48 + u % 10 : Nat) : Int) := by rw [hm, IntWalk.i64_in _ (by omega)]; omega
      have w4 : IntKind.u8.wrap ((48 + u % 10 : Nat) : Int) = ((48 + u % 10 : Nat) : Int) := IntWalk.u8_in _ (by omega)
      rw [itoa_pos (by omega), Int.toNat_natCast] at hlen ⊢
      by_cases hs : u < 10
      · have hg : decide ((10 : Int) ≤ (u : Int)) = false := decide_eq_false (by omega)
        rw [decDigits_small hs]
        have hmm : u % 10 = u := Nat.mod_eq_of_lt hs
        rw [hmm] at w3 w4
        refine den_run rfl rfl Tryz.func49 rfl Tryz.ntmps49 ⟨by simp, by simp [LK]⟩ ?_
        simp only [go_sem, Nat.reduceLT, reduceCtorEq, Nat.reduceEqDiff, Nat.reduceBEq, Nat.reduceAdd, Nat.reduceMul, good_49, ev_conv_int ty_descOf_3 ty_descOf_5, ev_buildSlice (len := 1) ty_descOf_98 ty_szOf_5 ty_zeroCells_5 ⟨rfl, by decide, by decide⟩, ev_conv_string ty_descOf_98 ty_descOf_9, hr, bytesOf, ten_ne, Int.toNat_natCast, hl, hg, w3, w4]
      · have hg : decide ((10 : Int) ≤ (u : Int)) = true := decide_eq_true (by omega)
        have w1 : IntKind.i64.wrap ((u : Int).tdiv 10) = ((u / 10 : Nat) : Int) := by rw [tdiv_nat, IntWalk.i64_in _ (by have := hn.2; omega)]
        have hc := ih ((u / 10 : Nat) : Int) (by omega) ⟨by omega, by have := hn.2; omega⟩
        rw [itoa_pos (by omega), Int.toNat_natCast] at hc
        rw [decDigits_big hs] at hlen ⊢
        have s1 : (Lib.decDigits (u / 10)).length + 1 < strLim := by simp at hlen; simp [strLim]; omega
        refine den_run rfl rfl Tryz.func49 rfl Tryz.ntmps49 ⟨by simp, by simp [LK]⟩ ?_
        simp only [go_sem, Nat.reduceLT, reduceCtorEq, Nat.reduceEqDiff, Nat.reduceBEq, Nat.reduceAdd, Nat.reduceMul, good_49, ev_conv_int ty_descOf_3 ty_descOf_5, ev_buildSlice (len := 1) ty_descOf_98 ty_szOf_5 ty_zeroCells_5 ⟨rfl, by decide, by decide⟩, ev_conv_string ty_descOf_98 ty_descOf_9, hr, bytesOf, ten_ne, Int.toNat_natCast, hl, hg, w1, w3, w4, hc, s1]
theorem Digits_is (n : Int) (h : I64 n) : den K 49 [I n] [] = some (.ret (T (Lib.itoa n)) []) := Digits_den n.natAbs n (Nat.le_refl _) h
set_option maxHeartbeats 4000000 in
theorem One1_den (t : Tok) (hn : I64 t.n) (hl : t.text.length < 1000000000000) : den K 124 [.agg t.cells] [] = some (.ret (T (oneS t)) []) := by
  obtain ⟨k, s, n⟩ := t
  refine den_run rfl rfl Tryz.func124 rfl Tryz.ntmps124 ⟨by simp, by simp [LK]⟩ ?_
  have hr : Tryz.f124.results = #[.tmp 2] := rfl
  have hit := Digits_is n hn
  have hi := itoa_len hn
  simp only at hl hi
  have l1 : s.length + 1 < strLim := by simp [strLim]; omega
  have l1' : 1 + s.length < strLim := by simp [strLim]; omega
  have l2 : (Lib.itoa n).length + s.length < strLim := by simp [strLim]; omega
  have l3 : 1 + s.length + 1 < strLim := by simp [strLim]; omega
  have l4 : s.length + 5 < strLim := by simp [strLim]; omega
  have l7 : s.length + 1 + 1 < strLim := by simp [strLim]; omega
  have hk : k = 1 ∨ k = 2 ∨ k = 3 ∨ k = 4 ∨ k = 5 ∨ k = 6 ∨ k = 7 ∨ k = 8 ∨ (k ≠ 1 ∧ k ≠ 2 ∧ k ≠ 3 ∧ k ≠ 4 ∧ k ≠ 5 ∧ k ≠ 6 ∧ k ≠ 7 ∧ k ≠ 8) := by omega
  rcases hk with rfl | rfl | rfl | rfl | rfl | rfl | rfl | rfl | ⟨h1, h2, h3, h4, h5, h6, h7, h8⟩
  · simp [go_sem, Nat.reduceLT, reduceIte, Nat.reduceEqDiff, Nat.reduceBEq, Nat.reduceAdd, ty_fieldOff_47_0, ty_szOf_3, ty_shapeT_3, ty_fieldOff_47_1, ty_szOf_9, ty_shapeT_9, Tok.cells, oneS]
  · simp [go_sem, Nat.reduceLT, reduceIte, Nat.reduceEqDiff, Nat.reduceBEq, Nat.reduceAdd, ty_fieldOff_47_0, ty_szOf_3, ty_shapeT_3, ty_fieldOff_47_1, ty_szOf_9, ty_shapeT_9, Tok.cells, oneS, l1]
  · simp [go_sem, Nat.reduceLT, reduceIte, Nat.reduceEqDiff, Nat.reduceBEq, Nat.reduceAdd, ty_fieldOff_47_0, ty_szOf_3, ty_shapeT_3, ty_fieldOff_47_1, ty_szOf_9, ty_shapeT_9, Tok.cells, oneS, l1']
  · simp [go_sem, Nat.reduceLT, reduceIte, Nat.reduceEqDiff, Nat.reduceBEq, Nat.reduceAdd, ty_fieldOff_47_0, ty_szOf_3, ty_shapeT_3, ty_fieldOff_47_1, ty_szOf_9, ty_shapeT_9, Tok.cells, oneS, l1']
  · simp [go_sem, Nat.reduceLT, reduceIte, reduceCtorEq, Nat.reduceEqDiff, Nat.reduceBEq, Nat.reduceAdd, ty_fieldOff_47_0, ty_szOf_3, ty_shapeT_3, ty_fieldOff_47_1, ty_szOf_9, ty_shapeT_9, ty_fieldOff_47_2, good_49, Tok.cells, oneS, hit, l2]
  · by_cases h : n = 39 <;> simp [go_sem, Nat.reduceLT, reduceIte, Nat.reduceEqDiff, Nat.reduceBEq, Nat.reduceAdd, ty_fieldOff_47_0, ty_szOf_3, ty_shapeT_3, ty_fieldOff_47_1, ty_szOf_9, ty_shapeT_9, ty_fieldOff_47_2, Tok.cells, oneS, h, l1', l7]
  · by_cases h : s = [34]
    · simp [go_sem, Nat.reduceLT, reduceIte, Nat.reduceEqDiff, Nat.reduceBEq, Nat.reduceAdd, ty_fieldOff_47_0, ty_szOf_3, ty_shapeT_3, ty_fieldOff_47_1, ty_szOf_9, ty_shapeT_9, Tok.cells, oneS, h, strLim]
    · have e : (s == [34]) = false := by simp [h]
      by_cases h' : s = [39]
      · simp [go_sem, Nat.reduceLT, reduceIte, Nat.reduceEqDiff, Nat.reduceBEq, Nat.reduceAdd, ty_fieldOff_47_0, ty_szOf_3, ty_shapeT_3, ty_fieldOff_47_1, ty_szOf_9, ty_shapeT_9, Tok.cells, oneS, h', strLim]
      · have e' : (s == [39]) = false := by simp [h']
        simp [go_sem, Nat.reduceLT, reduceIte, Nat.reduceEqDiff, Nat.reduceBEq, Nat.reduceAdd, ty_fieldOff_47_0, ty_szOf_3, ty_shapeT_3, ty_fieldOff_47_1, ty_szOf_9, ty_shapeT_9, Tok.cells, oneS, e, e', h, h']
  · simp [go_sem, Nat.reduceLT, reduceIte, Nat.reduceEqDiff, Nat.reduceBEq, Nat.reduceAdd, ty_fieldOff_47_0, ty_szOf_3, ty_shapeT_3, Tok.cells, oneS]
  · simp [go_sem, Nat.reduceLT, reduceIte, Nat.reduceEqDiff, Nat.reduceBEq, Nat.reduceAdd, ty_fieldOff_47_0, ty_szOf_3, ty_shapeT_3, Tok.cells, oneS, h1, h2, h3, h4, h5, h6, h7, h8]
end Go.Abs
namespace Go.Abs
open Go Go.Proofs
set_option maxRecDepth 10000
attribute [local go_sem] exL_seq exL_region exL_cond exL_block exL_scope exL_ret exL_skip exL_exit runRegion runOps stepOp guardA absOp takeOver opd avOf cvOf St.degAt St.put okPV okVal okAV absBin intBin strBin boolBin setBoxes if_true Bool.false_eq_true if_false Option.map_some Option.map_none Option.bind_some Option.bind_none thenO outOf upd List.toList_toArray isOwn steal appArgs mvB inApps AV.deg CV.deg AV.gv AV.isIter absNext some_bne some_beqN List.length_nil List.length_cons List.filterMap_cons List.filterMap_nil beq_iff_eq List.getElem?_cons_zero List.getElem?_cons_succ Option.getD_some K_hook hookB Bool.false_and Bool.and_false Bool.and_self K_P K_own absCall doCall getBoxes lend back idx dedup AV.ren CV.ren TV.ren AV.ptrs CV.ptrs zipBox AV.flat CV.flat absLoad absStore cellsOfAV setAt newBox markB bldTypes absFieldAddr absField absExtract absAssert noAssert absMkIface ifcOf CV.pv? content pushHead ownT fillCells reps pvs chunks enterSt leave resOf resVars resVar outBoxes lentOnly TV.deg TV.av LK CV.plain CV.noBld nilBin absUn bound List.map_cons List.map_nil List.all_cons List.all_nil List.any_cons List.any_nil List.contains_cons List.contains_nil List.elem_cons List.elem_nil List.cons_append List.nil_append List.append_nil List.flatMap_cons List.flatMap_nil List.zip_cons_cons List.zip_nil_left List.zip_nil_right List.take_succ_cons List.take_zero List.take_nil List.drop_succ_cons List.drop_zero List.drop_nil List.isEmpty_nil List.isEmpty_cons Bool.and_true Bool.true_and Bool.or_true Bool.true_or Bool.or_false Bool.false_or Bool.not_true Bool.not_false Nat.add_zero Nat.zero_add Option.isNone_none Option.isNone_some Option.getD_none true_and and_true not_true_eq_false not_false_eq_true decide_true decide_false Nat.le_refl and_self Bool.not_eq_true Nat.sub_self or_true true_or Option.some.injEq List.length_map List.nil_eq and_false false_and AV.live CV.live CV.liveIn K_keep firstReg Option.orElse_some Option.orElse_none head keepSlots keepBoxes Int.lt_irrefl List.length_append ite_self memOK logOps opKey lentBoxes Key.clash Key.sees Key.writes Nat.lt_irrefl gt_iff_lt nobox_at bot_at false_or or_false beq_self_eq_true Bool.true_beq Bool.false_beq
abbrev allH1 (s : List UInt8) (i : Nat) (ys : List Tok) : St := { sl := upd (upd (upd bot 4 (I i)) 3 (.c (.own 47 (ys.map Tok.enc)))) 0 (T s), bx := nobox, nt := 27 }
theorem good_ne {t : Tok} (h : Tk.Good t) : (t.kind != 0) = true := by
  rw [bne_iff_ne]
  cases h <;> simp
set_option maxHeartbeats 4000000 in
theorem all1_loop (s : List UInt8) (hs : s.length < 4000000000) : ∀ (l : List UInt8) (i : Nat) (ys : List Tok), s.drop i = l → i ≤ s.length → ys.length + l.length < 4000000000 →
    Ends (exL K 72 (.loop (loopAt Tryz.f72 3)) (allH1 s i ys)) fun o S => o = .exit 0 ∧ S.nt = 27 ∧ S.sl 3 = .c (.own 47 ((ys ++ Tk.all l).map Tok.enc)) := by
  refine Tk.all_ind (Q := fun l => ∀ (i : Nat) (ys : List Tok), s.drop i = l → i ≤ s.length → ys.length + l.length < 4000000000 →
    Ends (exL K 72 (.loop (loopAt Tryz.f72 3)) (allH1 s i ys)) fun o S => o = .exit 0 ∧ S.nt = 27 ∧ S.sl 3 = .c (.own 47 ((ys ++ Tk.all l).map Tok.enc))) ?_ ?_
  · intro i ys hd hi _
    have hin : i = s.length := by
      have := List.drop_eq_nil_iff.1 hd
      omega
    subst hin
    rw [Tk.all_nil, List.append_nil]
    conv in loopAt _ _ => whnf
    rw [exL_loop]
    simp only [go_sem, Nat.reduceLT, reduceCtorEq, Nat.reduceEqDiff, Nat.reduceBEq, Nat.reduceAdd, ev_len_str ty_descOf_9, keep_72_3, ends_some]
  · intro c r ih i ys hd hi hl
    obtain ⟨g1, g2, g3⟩ := drop_cons hd
    have hp := Tk.step_pos c r
    have hle := Tk.step_le c r
    have hn := next1_den s i c r hs hd
    have hlt : decide ((i : Int) < (s.length : Int)) = true := decide_eq_true (by omega)
    have hlen : (c :: r).length = s.length - i := by rw [← hd, List.length_drop]
    have hdd : s.drop (i + (Tk.step c r).2) = (c :: r).drop (Tk.step c r).2 := by rw [← List.drop_drop, hd]
    have hall := Tk.all_cons c r
    have ih' := ih (i + (Tk.step c r).2)
    simp only [tokAt, Tok.cells] at hn
    cases hst : (Tk.step c r).1 with
    | none =>
      rw [hst] at hn hall
      simp only [stepT, Option.getD_none] at hn
      simp only [Option.toList_none, List.nil_append] at hall
      have e0 : ((0 : Int) != 0) = false := by decide
      have ih2 := ih' ys hdd (by omega) (by rw [List.length_drop]; omega)
      rw [← hall] at ih2
      conv at ih2 in loopAt _ _ => whnf
      conv in loopAt _ _ => whnf
      rw [exL_loop]
      simp only [go_sem, Nat.reduceLT, reduceCtorEq, Nat.reduceEqDiff, Nat.reduceBEq, Nat.reduceAdd, Nat.reduceMul, ev_len_str ty_descOf_9, good_122, ty_zeroCells_47, ty_szOf_47, ty_fieldOff_47_0, ty_szOf_3, ty_shapeT_3, ty_shapeT_47, ev_buildSlice (len := 1) ty_descOf_90 ty_szOf_47 ty_zeroCells_47 ⟨rfl, by decide, by decide⟩, ev_append ty_appInfo_90, ev_appNew_sl ty_descOf_90, keep_72_3, hlt, hn, e0, TV.flat]
      rw [exL_head]
      simp only [go_sem, reduceCtorEq, Nat.reduceEqDiff, keep_72_3]
      exact ih2
    | some t =>
      rw [hst] at hn hall
      simp only [stepT, Option.getD_some] at hn
      simp only [Option.toList_some, List.cons_append, List.nil_append] at hall
      have e0 := good_ne (Tk.step_good hst)
      have hla : ys.length + 1 < appLim := by simp [appLim]; simp only [List.length_cons] at hl; omega
      have ih2 := ih' (ys ++ [t]) hdd (by omega) (by rw [List.length_append, List.length_drop]; simp only [List.length_cons, List.length_nil] at *; omega)
      rw [List.append_assoc, List.cons_append, List.nil_append, ← hall] at ih2
      have hys : (ys ++ [t]).map Tok.enc = ys.map Tok.enc ++ [[.int .i64 t.kind, .str t.text, .int .i64 t.n]] := by simp [Tok.enc]
      simp only [allH1, hys] at ih2
      conv at ih2 in loopAt _ _ => whnf
      conv in loopAt _ _ => whnf
      rw [exL_loop]
      simp only [go_sem, Nat.reduceLT, reduceCtorEq, Nat.reduceEqDiff, Nat.reduceBEq, Nat.reduceAdd, Nat.reduceMul, ev_len_str ty_descOf_9, good_122, ty_zeroCells_47, ty_szOf_47, ty_fieldOff_47_0, ty_szOf_3, ty_shapeT_3, ty_shapeT_47, ev_buildSlice (len := 1) ty_descOf_90 ty_szOf_47 ty_zeroCells_47 ⟨rfl, by decide, by decide⟩, ev_append ty_appInfo_90, ev_appNew_sl ty_descOf_90, keep_72_3, hlt, hn, e0, TV.flat, hla, lens_toks, lens_tok]
      rw [exL_head]
      simp only [go_sem, reduceCtorEq, Nat.reduceEqDiff, keep_72_3]
      exact ih2
theorem All1_den (s : List UInt8) (hs : s.length < 4000000000) : den K 72 [T s] [] = some (.ret (L ((Tk.all s).map Tok.enc)) []) := by
  refine den_run rfl rfl Tryz.func72 rfl Tryz.ntmps72 ⟨by simp, by simp [LK]⟩ ?_
  have hr : Tryz.f72.results = #[.tmp 2] := rfl
  have hl := all1_loop s hs s 0 [] rfl (Nat.zero_le _) (by simp; omega)
  conv at hl in loopAt _ _ => whnf
  obtain ⟨o, S', e2, rfl, hn, h3⟩ := hl
  simp only [List.nil_append] at h3
  simp only [go_sem, Nat.reduceLT, Nat.reduceEqDiff, Nat.reduceBEq, Nat.reduceAdd, ev_buildSlice (len := 0) ty_descOf_90 ty_szOf_47 ty_zeroCells_47 ⟨rfl, by decide, by decide⟩]
  rw [exL_head]
  simp only [go_sem, reduceCtorEq, Nat.reduceEqDiff, keep_72_3]
  erw [e2]
  simp only [go_sem, Nat.reduceLT, Nat.reduceEqDiff, Nat.reduceBEq, Nat.reduceAdd, hr, hn, h3]
theorem May1_den (t : Tok) (hn : I64 t.n) (hl : t.text.length < 1000000000) : den K 116 [.agg t.cells] [] = some (.ret (B (Tk.may t)) []) := by
  have h1 := One1_den t hn (by omega)
  have hlen := one_len t hn
  have h2 := All1_den (oneS t) (by omega)
  have hal := Tk.all_len (oneS t)
  unfold Tk.may
  generalize Tk.all (oneS t) = a at h2 hal
  simp only [Tok.cells] at h1 ⊢
  refine den_run rfl rfl Tryz.func116 rfl Tryz.ntmps116 ⟨by simp, by simp [LK]⟩ ?_
  have hr : Tryz.f116.results = #[.tmp 2] := rfl
  match a with
  | [] =>
    have e : ((0 : Int) == 1) = false := by decide
    have e2 : decide (([] : List Tok) = [t]) = false := by simp
    rw [e2]
    simp [go_sem, Nat.reduceLT, reduceIte, Nat.reduceEqDiff, Nat.reduceBEq, Nat.reduceAdd, ty_shapeT_47, good_124, good_72, ev_len_sl ty_descOf_90, h1, h2]
  | [y] =>
    have heq := tok_eq y.kind t.kind y.n t.n y.text t.text
    rw [tok_beq] at heq
    have e2 : decide ([y] = [t]) = decide (y = t) := by simp
    rw [e2]
    simp only [List.map_cons, List.map_nil, Tok.enc] at h2
    have g0 : ([[PV.int .i64 y.kind, .str y.text, .int .i64 y.n]] : List (List PV))[(0 : Int).toNat]? = some [.int .i64 y.kind, .str y.text, .int .i64 y.n] := rfl
    have e1 : (((0 + 1 : Nat) : Int) == 1) = true := by decide
    have e1' : (((1 : Nat) : Int) == 1) = true := by decide
    cases hyt : decide (y = t) <;> rw [hyt] at heq <;> simp only [go_sem, Nat.reduceLT, Nat.reduceEqDiff, Nat.reduceBEq, Nat.reduceAdd, Nat.reduceSub, Nat.reduceLeDiff, ty_shapeT_47, good_124, good_72, ev_len_sl ty_descOf_90, ev_indexAddr ty_descOf_90, ty_szOf_47, hr, h1, h2, g0, heq, Int.le_refl, e1]
  | y :: z :: l =>
    have e : (((y :: z :: l).length : Int) == 1) = false := by rw [beq_eq_false_iff_ne]; simp only [List.length_cons]; omega
    have e2 : decide (y :: z :: l = [t]) = false := by simp
    rw [e2]
    generalize y :: z :: l = b at h2 e
    simp only [go_sem, Nat.reduceLT, Nat.reduceEqDiff, Nat.reduceBEq, Nat.reduceAdd, Nat.reduceSub, Nat.reduceLeDiff, ty_shapeT_47, good_124, good_72, ev_len_sl ty_descOf_90, hr, h1, h2, e]
abbrev maysH (l : List Tok) (i : Nat) : St := { sl := upd (upd bot 3 (I i)) 0 (L (l.map Tok.enc)), bx := nobox, nt := 16 }
theorem mays_loop (l : List Tok) (hl : lenOk l.length) (hok : ∀ t ∈ l, I64 t.n ∧ t.text.length < 1000000000) : ∀ (rest : List Tok) (i : Nat), l.drop i = rest → i ≤ l.length →
    Ends (exL K 117 (.loop (loopAt Tryz.f117 2)) (maysH l i)) fun o S => (rest.all Tk.may = true ∧ o = .exit 0 ∧ S.nt = 16) ∨ (rest.all Tk.may = false ∧ o = .ret ∧ S.sl 2 = B false) := by
  intro rest
  induction rest with
  | nil =>
    intro i hd hi
    have hin : i = l.length := by
      have := List.drop_eq_nil_iff.1 hd
      omega
    subst hin
    conv in loopAt _ _ => whnf
    rw [exL_loop]
    simp only [go_sem, Nat.reduceLT, reduceCtorEq, Nat.reduceEqDiff, Nat.reduceBEq, Nat.reduceAdd, ev_len_sl ty_descOf_90, keep_117_2, ends_some]
  | cons x rest ih =>
    intro i hd hi
    obtain ⟨g1, g2, g3⟩ := drop_cons hd
    have hlt : decide ((i : Int) < (l.length : Int)) = true := decide_eq_true (by omega)
    have ga := enc_at l i x g1
    have hi2 : i < 9223372036854775807 := by unfold lenOk at hl; omega
    obtain ⟨h1, h2⟩ := hok x (List.mem_of_getElem? g1)
    have hm := May1_den x h1 h2
    simp only [Tok.cells] at hm
    have ih' := ih (i + 1) g2 (by omega)
    conv at ih' in loopAt _ _ => whnf
    conv in loopAt _ _ => whnf
    rw [exL_loop]
    cases hx : Tk.may x
    · rw [hx] at hm
      have hv : (x :: rest).all Tk.may = false := by rw [List.all_cons, hx]; rfl
      rw [hv]
      simp only [go_sem, Nat.reduceLT, reduceCtorEq, Nat.reduceEqDiff, Nat.reduceBEq, Nat.reduceAdd, ev_len_sl ty_descOf_90, ev_indexAddr ty_descOf_90, ty_szOf_47, ty_shapeT_47, good_116, keep_117_2, hlt, ga, hm, Int.natCast_nonneg, ends_some]
    · rw [hx] at hm
      have hv : (x :: rest).all Tk.may = rest.all Tk.may := by rw [List.all_cons, hx]; rfl
      rw [hv]
      simp only [go_sem, Nat.reduceLT, reduceCtorEq, Nat.reduceEqDiff, Nat.reduceBEq, Nat.reduceAdd, ev_len_sl ty_descOf_90, ev_indexAddr ty_descOf_90, ty_szOf_47, ty_shapeT_47, good_116, keep_117_2, hlt, ga, hm, Int.natCast_nonneg, wrap_nat i hi2]
      rw [exL_head]
      simp only [go_sem, reduceCtorEq, Nat.reduceEqDiff, keep_117_2]
      exact ih'
theorem Mays_den (l : List Tok) (hl : lenOk l.length) (hok : ∀ t ∈ l, I64 t.n ∧ t.text.length < 1000000000) : den K 117 [L (l.map Tok.enc)] [] = some (.ret (B (l.all Tk.may)) []) := by
  refine den_run rfl rfl Tryz.func117 rfl Tryz.ntmps117 ⟨by simp, by simp [LK]⟩ ?_
  have hr : Tryz.f117.results = #[.tmp 2] := rfl
  have hlp := mays_loop l hl hok l 0 rfl (Nat.zero_le _)
  conv at hlp in loopAt _ _ => whnf
  obtain ⟨o, S', e2, h⟩ := hlp
  simp only [go_sem, Nat.reduceLT, Nat.reduceBEq]
  rw [exL_head]
  simp only [go_sem, reduceCtorEq, Nat.reduceEqDiff, keep_117_2]
  erw [e2]
  rcases h with ⟨h1, rfl, h2⟩ | ⟨h1, rfl, h2⟩
  · rw [h1]
    simp only [go_sem, Nat.reduceLT, Nat.reduceBEq, hr, h2]
  · rw [h1]
    simp only [go_sem, hr, h2]
end Go.Abs
namespace Go.Abs
open Go Go.Proofs
set_option maxRecDepth 10000
attribute [local go_sem] exL_seq exL_region exL_cond exL_block exL_scope exL_ret exL_skip exL_exit runRegion runOps stepOp guardA absOp takeOver opd avOf cvOf St.degAt St.put okPV okVal okAV absBin intBin strBin boolBin setBoxes if_true Bool.false_eq_true if_false Option.map_some Option.map_none Option.bind_some Option.bind_none thenO outOf upd List.toList_toArray isOwn steal appArgs mvB inApps AV.deg CV.deg AV.gv AV.isIter absNext some_bne some_beqN List.length_nil List.length_cons List.filterMap_cons List.filterMap_nil beq_iff_eq List.getElem?_cons_zero List.getElem?_cons_succ Option.getD_some K_hook hookB Bool.false_and Bool.and_false Bool.and_self K_P K_own absCall doCall getBoxes lend back idx dedup AV.ren CV.ren TV.ren AV.ptrs CV.ptrs zipBox AV.flat CV.flat absLoad absStore cellsOfAV setAt newBox markB bldTypes absFieldAddr absField absExtract absAssert noAssert absMkIface ifcOf CV.pv? content pushHead ownT fillCells reps pvs chunks enterSt leave resOf resVars resVar outBoxes lentOnly TV.deg TV.av LK CV.plain CV.noBld nilBin absUn bound List.map_cons List.map_nil List.all_cons List.all_nil List.any_cons List.any_nil List.contains_cons List.contains_nil List.elem_cons List.elem_nil List.cons_append List.nil_append List.append_nil List.flatMap_cons List.flatMap_nil List.zip_cons_cons List.zip_nil_left List.zip_nil_right List.take_succ_cons List.take_zero List.take_nil List.drop_succ_cons List.drop_zero List.drop_nil List.isEmpty_nil List.isEmpty_cons Bool.and_true Bool.true_and Bool.or_true Bool.true_or Bool.or_false Bool.false_or Bool.not_true Bool.not_false Nat.add_zero Nat.zero_add Option.isNone_none Option.isNone_some Option.getD_none true_and and_true not_true_eq_false not_false_eq_true decide_true decide_false Nat.le_refl and_self Bool.not_eq_true Nat.sub_self or_true true_or Option.some.injEq List.length_map List.nil_eq and_false false_and AV.live CV.live CV.liveIn K_keep firstReg Option.orElse_some Option.orElse_none head keepSlots keepBoxes Int.lt_irrefl List.length_append ite_self memOK logOps opKey lentBoxes Key.clash Key.sees Key.writes Nat.lt_irrefl gt_iff_lt nobox_at bot_at false_or or_false beq_self_eq_true Bool.true_beq Bool.false_beq
theorem u2_loop (l : List Tok) (hl : l.length ≤ 100000000) : ∀ (m : Nat) (i : Nat), l.length - i ≤ m → i ≤ l.length → ∀ (kind : Int) (left : Nat), left < 1000 → ∀ (e : Nat) (acc : List Val), acc.length ≤ i → (e = 49 ∨ acc = []) →
    Ends (exL K 121 ulp2 (u2H l kind left i e acc)) (ULoop2 l kind left i acc) := by
  intro m
  induction m with
  | zero =>
    intro i hm hi kind left hleft e acc hacc he
    obtain rfl : i = l.length := by omega
    refine ends_imp (u2_nil l kind left e acc) fun o S q => ?_
    unfold ULoop2
    rw [List.drop_length, Ne.until_nil]
    refine ⟨l.length, List.drop_length, Nat.le_refl _, Nat.le_refl _, .inr ?_⟩
    rw [List.append_nil]
    exact ⟨q.1, q.2.1, q.2.2.1, q.2.2.2.1, q.2.2.2.2.1, e, q.2.2.2.2.2⟩
  | succ m ih =>
    intro i hm hi kind left hleft e acc hacc he
    by_cases hil : i = l.length
    · subst hil
      refine ends_imp (u2_nil l kind left e acc) fun o S q => ?_
      unfold ULoop2
      rw [List.drop_length, Ne.until_nil]
      refine ⟨l.length, List.drop_length, Nat.le_refl _, Nat.le_refl _, .inr ?_⟩
      rw [List.append_nil]
      exact ⟨q.1, q.2.1, q.2.2.1, q.2.2.2.1, q.2.2.2.2.1, e, q.2.2.2.2.2⟩
    · have hlt : i < l.length := by omega
      have hd : l.drop i = l[i] :: l.drop (i + 1) := List.drop_eq_getElem_cons hlt
      have hg : l[i]? = some l[i] := List.getElem?_eq_getElem hlt
      generalize l[i] = t at hd hg
      have hu := Ne.until_cons kind left t (l.drop (i + 1))
      rw [← hd] at hu
      cases hb : Ne.isLast kind t with
      | true =>
        refine ends_imp (u2_last l kind left i e acc t hg hl hb) fun o S q => ?_
        rw [hb, if_pos rfl] at hu
        unfold ULoop2
        rw [hu]
        exact ⟨i + 1, rfl, hlt, by omega, .inl (by rw [List.append_nil]; exact q)⟩
      | false =>
        rw [hb, if_neg (by simp)] at hu
        by_cases h0 : Ne.opens t = 0
        · rw [if_pos h0] at hu
          have hs := u2_tok l kind left i e acc t hg hl hb he (by omega) h0
          rw [hs]
          have hacc2 : (acc ++ [Val.mk 1 t []]).length ≤ i + 1 := by rw [List.length_append, List.length_singleton]; omega
          have hmm : l.length - (i + 1) ≤ m := by omega
          have hi := ih (i + 1) hmm hlt kind left hleft 49 (acc ++ [.mk 1 t []]) hacc2 (Or.inl rfl)
          refine ends_imp hi fun o S q => ?_
          unfold ULoop2 at q ⊢
          rw [hu]
          cases hv : Ne.until_ kind left (l.drop (i + 1)) with
          | none => rw [hv] at q; exact q
          | some x =>
            rw [hv] at q
            obtain ⟨j, q1, q2, q3, q4⟩ := q
            have ha : acc ++ Val.mk 1 t [] :: x.1 = acc ++ [Val.mk 1 t []] ++ x.1 := by simp
            refine ⟨j, q1, q2, by omega, ?_⟩
            show Ret2 (encL (acc ++ Val.mk 1 t [] :: x.1)) _ _ _ _ ∨ _
            rw [ha]
            exact q4
        · rw [if_neg h0] at hu
          cases left with
          | zero =>
            refine ends_imp (u2_zero l kind i e acc t hg hl hb h0) fun o S q => ?_
            unfold ULoop2
            rw [hu]
            exact q
          | succ n =>
            have hn : n < 1000 := by omega
            have hmm : l.length - (i + 1) ≤ m := by omega
            have hin := u2_den (ih (i + 1) hmm hlt (Ne.opens t) n hn 0 [] (Nat.zero_le _) (Or.inr rfl))
            unfold UDen2 at hin
            simp only at hu
            cases hv : Ne.until_ (Ne.opens t) n (l.drop (i + 1)) with
            | none =>
              rw [hv] at hin hu
              obtain ⟨a, b, hin⟩ := hin
              refine ends_imp (u2_bad l kind n i e acc t hg hl hn hb h0 a b hin) fun o S q => ?_
              unfold ULoop2
              rw [hu]
              exact q
            | some x =>
              obtain ⟨vs, rest⟩ := x
              rw [hv] at hin hu
              obtain ⟨j, q1, q2, q3, hin⟩ := hin
              have hs := u2_in l kind n i j e acc t vs hg hl hn hb he (by omega) h0 hin
              rw [hs]
              have hacc2 : (acc ++ [Val.mk (Ne.opens t) (if Ne.opens t = 5 then t else Ne.tok0) vs]).length ≤ j := by rw [List.length_append, List.length_singleton]; omega
              have hmm2 : l.length - j ≤ m := by omega
              have hi := ih j hmm2 q2 kind (n + 1) hleft 49 (acc ++ [.mk (Ne.opens t) (if Ne.opens t = 5 then t else Ne.tok0) vs]) hacc2 (Or.inl rfl)
              refine ends_imp hi fun o S q => ?_
              unfold ULoop2 at q ⊢
              rw [q1] at q
              simp only at hu
              rw [hu]
              cases hv2 : Ne.until_ kind (n + 1) rest with
              | none => rw [hv2] at q; exact q
              | some y =>
                rw [hv2] at q
                obtain ⟨j', r1, r2, r3, r4⟩ := q
                have ha : acc ++ Val.mk (Ne.opens t) (if Ne.opens t = 5 then t else Ne.tok0) vs :: y.1 = acc ++ [Val.mk (Ne.opens t) (if Ne.opens t = 5 then t else Ne.tok0) vs] ++ y.1 := by simp
                refine ⟨j', r1, r2, by omega, ?_⟩
                show Ret2 (encL (acc ++ Val.mk (Ne.opens t) (if Ne.opens t = 5 then t else Ne.tok0) vs :: y.1)) _ _ _ _ ∨ _
                rw [ha]
                exact r4
theorem until2_all (l : List Tok) (hl : l.length ≤ 100000000) (left : Nat) (hleft : left < 1000) : UDen2 l 0 left 0 :=
  u2_den (u2_loop l hl l.length 0 (by omega) (Nat.zero_le _) 0 left hleft 0 [] (Nat.zero_le _) (Or.inr rfl))
def parseR2 (deep : Int) (l : List Tok) : AV :=
  if deep < 1 ∨ 60 < deep then .tup [.c .nils, .c (.pv (.int .i64 1))]
  else match Ne.until_ 0 deep.toNat l with
    | some x => .tup [.c (.pv (.sl (encL x.1))), .c (.pv (.int .i64 0))]
    | none => .tup [.c .nils, .c (.pv (.int .i64 20))]
theorem Parse2_den (l : List Tok) (hl : l.length ≤ 100000000) (deep : Int) : den K 71 [L (l.map Tok.enc), I deep] [] = some (.ret (parseR2 deep l) []) := by
  refine den_run rfl rfl Tryz.func71 rfl Tryz.ntmps71 ⟨by simp, by simp [LK]⟩ ?_
  have hr : Tryz.f71.results = #[.tmp 4, .tmp 5] := rfl
  unfold parseR2
  by_cases h1 : deep < 1
  · have e1 : decide (deep < 1) = true := decide_eq_true h1
    rw [if_pos (.inl h1)]
    simp only [go_sem, Nat.reduceLT, Nat.reduceEqDiff, Nat.reduceBEq, Nat.reduceAdd, hr, e1]
  · have e1 : decide (deep < 1) = false := decide_eq_false h1
    by_cases h2 : 60 < deep
    · have e2 : decide (60 < deep) = true := decide_eq_true h2
      rw [if_pos (.inr h2)]
      simp only [go_sem, Nat.reduceLT, Nat.reduceEqDiff, Nat.reduceBEq, Nat.reduceAdd, hr, e1, e2]
    · have e2 : decide (60 < deep) = false := decide_eq_false h2
      rw [if_neg (by omega)]
      obtain ⟨d, rfl⟩ : ∃ d : Nat, deep = d := ⟨deep.toNat, by omega⟩
      rw [Int.toNat_natCast]
      have hu := until2_all l hl d (by omega)
      unfold UDen2 at hu
      rw [List.drop_zero] at hu
      have z0 : ((0 : Nat) : Int) = 0 := rfl
      rw [z0] at hu
      cases hv : Ne.until_ 0 d l with
      | some x =>
        rw [hv] at hu
        obtain ⟨j, _, _, _, hu⟩ := hu
        simp only [go_sem, Nat.reduceLT, reduceCtorEq, Nat.reduceEqDiff, Nat.reduceBEq, Nat.reduceAdd, Nat.reduceSub, Nat.reduceLeDiff, good_121, ty_zeroCells_139, ty_szOf_139, ty_fieldOff_139_2, ty_szOf_4, ty_shapeT_4, ty_fieldOff_139_0, ty_szOf_22, ty_shapeT_22, hr, e1, e2, hu]
      | none =>
        rw [hv] at hu
        obtain ⟨a, b, hu⟩ := hu
        simp only [go_sem, Nat.reduceLT, reduceCtorEq, Nat.reduceEqDiff, Nat.reduceBEq, Nat.reduceAdd, Nat.reduceSub, Nat.reduceLeDiff, good_121, ty_zeroCells_139, ty_szOf_139, ty_fieldOff_139_2, ty_szOf_4, ty_shapeT_4, hr, e1, e2, hu]
theorem May2_den (l : List Val) (hs : Ne.size l ≤ 400000) (hok : ∀ t ∈ Ne.flat l, TokOk t) : den K 66 [L (encL l)] [] = some (.ret (B (Ne.may 60 Tk.may l)) []) := by
  have hfl := Ne.flat_size l
  have h1 := Flat2_den l (by omega)
  have h2 := Mays_den (Ne.flat l) (by unfold lenOk; omega) hok
  have h3 := Parse2_den (Ne.flat l) (by omega) 60
  refine den_run rfl rfl Tryz.func66 rfl Tryz.ntmps66 ⟨by simp, by simp [LK]⟩ ?_
  have hr : Tryz.f66.results = #[.tmp 2] := rfl
  unfold Ne.may Ne.parse
  unfold parseR2 at h3
  rw [if_neg (by decide)] at h3
  have z60 : (60 : Int).toNat = 60 := rfl
  rw [z60] at h3
  cases hm : (Ne.flat l).all Tk.may
  · rw [hm] at h2
    simp only [go_sem, Nat.reduceLT, reduceCtorEq, Nat.reduceEqDiff, Nat.reduceBEq, Nat.reduceAdd, good_75, good_117, hr, h1, h2]
  · rw [hm] at h2
    cases hu : Ne.until_ 0 60 (Ne.flat l) with
    | some x =>
      rw [hu] at h3
      have hx := parse_len hu
      have h4 := VSame2_den x.1 (by omega) l (by omega)
      unfold VSame2Den at h4
      have e0 : ((0 : Int) == 0) = true := rfl
      simp only [go_sem, Nat.reduceLT, reduceCtorEq, Nat.reduceEqDiff, Nat.reduceBEq, Nat.reduceAdd, good_75, good_117, good_71, good_21, hr, h1, h2, h3, h4, e0, TV.flat]
    | none =>
      rw [hu] at h3
      have e0 : ((20 : Int) == 0) = false := rfl
      simp only [go_sem, Nat.reduceLT, reduceCtorEq, Nat.reduceEqDiff, Nat.reduceBEq, Nat.reduceAdd, good_75, good_117, good_71, hr, h1, h2, h3, e0, TV.flat]
end Go.Abs
namespace Go.Abs
open Go Go.Proofs
set_option maxRecDepth 10000
attribute [local go_sem] exL_seq exL_region exL_cond exL_block exL_scope exL_ret exL_skip exL_exit runRegion runOps stepOp guardA absOp takeOver opd avOf cvOf St.degAt St.put okPV okVal okAV absBin intBin strBin boolBin setBoxes if_true Bool.false_eq_true if_false Option.map_some Option.map_none Option.bind_some Option.bind_none thenO outOf upd List.toList_toArray isOwn steal appArgs mvB inApps AV.deg CV.deg AV.gv AV.isIter absNext some_bne some_beqN List.length_nil List.length_cons List.filterMap_cons List.filterMap_nil beq_iff_eq List.getElem?_cons_zero List.getElem?_cons_succ Option.getD_some K_hook hookB Bool.false_and Bool.and_false Bool.and_self K_P K_own absCall doCall getBoxes lend back idx dedup AV.ren CV.ren TV.ren AV.ptrs CV.ptrs zipBox AV.flat CV.flat absLoad absStore cellsOfAV setAt newBox markB bldTypes absFieldAddr absField absExtract absAssert noAssert absMkIface ifcOf CV.pv? content pushHead ownT fillCells reps pvs chunks enterSt leave resOf resVars resVar outBoxes lentOnly TV.deg TV.av LK CV.plain CV.noBld nilBin absUn bound List.map_cons List.map_nil List.all_cons List.all_nil List.any_cons List.any_nil List.contains_cons List.contains_nil List.elem_cons List.elem_nil List.cons_append List.nil_append List.append_nil List.flatMap_cons List.flatMap_nil List.zip_cons_cons List.zip_nil_left List.zip_nil_right List.take_succ_cons List.take_zero List.take_nil List.drop_succ_cons List.drop_zero List.drop_nil List.isEmpty_nil List.isEmpty_cons Bool.and_true Bool.true_and Bool.or_true Bool.true_or Bool.or_false Bool.false_or Bool.not_true Bool.not_false Nat.add_zero Nat.zero_add Option.isNone_none Option.isNone_some Option.getD_none true_and and_true not_true_eq_false not_false_eq_true decide_true decide_false Nat.le_refl and_self Bool.not_eq_true Nat.sub_self or_true true_or Option.some.injEq List.length_map List.nil_eq and_false false_and AV.live CV.live CV.liveIn K_keep firstReg Option.orElse_some Option.orElse_none head keepSlots keepBoxes Int.lt_irrefl List.length_append ite_self memOK logOps opKey lentBoxes Key.clash Key.sees Key.writes Nat.lt_irrefl gt_iff_lt nobox_at bot_at false_or or_false beq_self_eq_true Bool.true_beq Bool.false_beq
theorem may1_den (t : Tok) (ht : TokOk t) : den K 182 [.agg (tokCv t)] [] = some (.ret (B (!Tk.may t)) []) := by
  have h := May_den t ht.1 ht.2
  unfold Tok.cells at h
  refine den_run rfl rfl Tryz.func182 rfl Tryz.ntmps182 ⟨by simp, by simp [LK]⟩ ?_
  have hr : Tryz.f182.results = #[.tmp 2] := rfl
  cases hm : Tk.may t <;> rw [hm] at h <;> simp only [go_sem, Nat.reduceLT, Nat.reduceEqDiff, Nat.reduceBEq, Nat.reduceAdd, Nat.reduceSub, Nat.reduceLeDiff, ty_shapeT_47, good_113, hr, h]
abbrev ixH (l : List Tok) (i : Nat) : St :=
  { sl := upd (upd (upd (upd bot 8 (I i)) 7 (I l.length)) 1 (FV 182)) 0 (L (l.map Tok.enc)), bx := upd nobox 100000 none, nt := 19 }
theorem ix_loop (l : List Tok) (hl : l.length ≤ 3000000) (hok : ∀ t ∈ l, TokOk t) : ∀ (rest : List Tok) (i : Nat), l.drop i = rest → i ≤ l.length →
    Ends (exL K 222 (.loop (loopAt Tryz.f222 2)) (ixH l i)) fun o S => (rest.all Tk.may = true ∧ o = .exit 0 ∧ S.nt = 19) ∨ (rest.all Tk.may = false ∧ o = .ret ∧ ∃ j : Nat, S.sl 4 = I (j : Int))
  | [], i, hd, hi => by
    have hin : i = l.length := by
      have := List.drop_eq_nil_iff.1 hd
      omega
    subst hin
    conv in loopAt _ _ => whnf
    rw [exL_loop]
    simp only [go_sem, Nat.reduceLT, reduceCtorEq, Nat.reduceEqDiff, Nat.reduceBEq, keep_222_2, ends_some]
  | t :: rest, i, hd, hi => by
    obtain ⟨g1, g2, g3⟩ := drop_cons hd
    have hlt : decide ((i : Int) < (l.length : Int)) = true := decide_eq_true (by omega)
    have hget := tok_at l i t g1
    have hm := may1_den t (hok t (List.mem_of_getElem? g1))
    have ih := ix_loop l hl hok rest (i + 1) g2 (by omega)
    conv at ih in loopAt _ _ => whnf
    rw [List.all_cons]
    conv in loopAt _ _ => whnf
    rw [exL_loop]
    cases hv : Tk.may t
    · rw [hv] at hm
      rw [Bool.false_and]
      simp only [go_sem, Nat.reduceLT, reduceCtorEq, Nat.reduceEqDiff, Nat.reduceBEq, Nat.reduceAdd, ev_indexAddr ty_descOf_90, ty_szOf_47, ty_shapeT_47, keep_222_2, good_182, hlt, hget, Int.natCast_nonneg, hm, ends_some]
      exact ⟨i, rfl⟩
    · rw [hv] at hm
      rw [Bool.true_and]
      simp only [go_sem, Nat.reduceLT, reduceCtorEq, Nat.reduceEqDiff, Nat.reduceBEq, Nat.reduceAdd, ev_indexAddr ty_descOf_90, ty_szOf_47, ty_shapeT_47, keep_222_2, good_182, hlt, hget, Int.natCast_nonneg, hm, wrap_nat i (by omega)]
      rw [exL_head]
      simp only [go_sem, reduceCtorEq, Nat.reduceEqDiff, keep_222_2]
      exact ih
end Go.Abs
namespace Go.Abs
open Go Go.Proofs
set_option maxRecDepth 10000
attribute [local go_sem] exL_seq exL_region exL_cond exL_block exL_scope exL_ret exL_skip exL_exit runRegion runOps stepOp guardA absOp takeOver opd avOf cvOf St.degAt St.put okPV okVal okAV absBin intBin strBin boolBin setBoxes if_true Bool.false_eq_true if_false Option.map_some Option.map_none Option.bind_some Option.bind_none thenO outOf upd List.toList_toArray isOwn steal appArgs mvB inApps AV.deg CV.deg AV.gv AV.isIter absNext some_bne some_beqN List.length_nil List.length_cons List.filterMap_cons List.filterMap_nil beq_iff_eq List.getElem?_cons_zero List.getElem?_cons_succ Option.getD_some K_hook hookB Bool.false_and Bool.and_false Bool.and_self K_P K_own absCall doCall getBoxes lend back idx dedup AV.ren CV.ren TV.ren AV.ptrs CV.ptrs zipBox AV.flat CV.flat absLoad absStore cellsOfAV setAt newBox markB bldTypes absFieldAddr absField absExtract absAssert noAssert absMkIface ifcOf CV.pv? content pushHead ownT fillCells reps pvs chunks enterSt leave resOf resVars resVar outBoxes lentOnly TV.deg TV.av LK CV.plain CV.noBld nilBin absUn bound List.map_cons List.map_nil List.all_cons List.all_nil List.any_cons List.any_nil List.contains_cons List.contains_nil List.elem_cons List.elem_nil List.cons_append List.nil_append List.append_nil List.flatMap_cons List.flatMap_nil List.zip_cons_cons List.zip_nil_left List.zip_nil_right List.take_succ_cons List.take_zero List.take_nil List.drop_succ_cons List.drop_zero List.drop_nil List.isEmpty_nil List.isEmpty_cons Bool.and_true Bool.true_and Bool.or_true Bool.true_or Bool.or_false Bool.false_or Bool.not_true Bool.not_false Nat.add_zero Nat.zero_add Option.isNone_none Option.isNone_some Option.getD_none true_and and_true not_true_eq_false not_false_eq_true decide_true decide_false Nat.le_refl and_self Bool.not_eq_true Nat.sub_self or_true true_or Option.some.injEq List.length_map List.nil_eq and_false false_and AV.live CV.live CV.liveIn K_keep firstReg Option.orElse_some Option.orElse_none head keepSlots keepBoxes Int.lt_irrefl List.length_append ite_self memOK logOps opKey lentBoxes Key.clash Key.sees Key.writes Nat.lt_irrefl gt_iff_lt nobox_at bot_at false_or or_false beq_self_eq_true Bool.true_beq Bool.false_beq
theorem snoc_tv (out : List Val) (t : Tok) : encL out ++ [[PV.int .i64 1, .int .i64 t.kind, .str t.text, .int .i64 t.n, .sl []]] = encL (out ++ [Sl.tv t]) := by
  rw [encL_app]; rfl
abbrev tkH (ts : List Tok) (e : Nat) (out : List Val) (i : Nat) : St :=
  { sl := upd (upd (upd (upd bot 8 (I i)) 7 (I ts.length)) 6 (L (ts.map Tok.enc))) 3 (.c (.own e (encL out))), bx := nobox, nt := 19 }
noncomputable def tklp : Code := .loop (loopAt Tryz.f55 3)
theorem tk_loop (ts : List Tok) (hl : ts.length ≤ 1000000) : ∀ (rest : List Tok) (i e : Nat) (out : List Val), ts.drop i = rest → i ≤ ts.length → out.length ≤ i → (e = 49 ∨ out = []) →
    Ends (exL K 55 tklp (tkH ts e out i)) fun o S => o = .exit 0 ∧ S.nt = 19 ∧ ∃ f, (f = 49 ∨ out ++ rest.map Sl.tv = []) ∧ S.sl 3 = .c (.own f (encL (out ++ rest.map Sl.tv)))
  | [], i, e, out, hd, hi, ho, he => by
    have hin : i = ts.length := by
      have := List.drop_eq_nil_iff.1 hd
      omega
    subst hin
    have hlt : decide ((ts.length : Int) < (ts.length : Int)) = false := decide_eq_false (by omega)
    rw [List.map_nil, List.append_nil]
    unfold tklp
    conv in loopAt _ _ => whnf
    rw [exL_loop]
    simp only [go_sem, Nat.reduceLT, Nat.reduceEqDiff, Nat.reduceBEq, keep_55_3, ends_some]
    exact ⟨e, he, rfl⟩
  | t :: rest, i, e, out, hd, hi, ho, he => by
    obtain ⟨g1, g2, g3⟩ := drop_cons hd
    have hlt : decide ((i : Int) < (ts.length : Int)) = true := decide_eq_true (by omega)
    have hget := tok_at ts i t g1
    have hws : IntKind.i64.wrap ((i : Int) + 1) = ((i + 1 : Nat) : Int) := wrap_nat i (by omega)
    have hown : e = 49 ∨ (encL out).isEmpty = true := by
      rcases he with rfl | rfl
      · exact .inl rfl
      · exact .inr rfl
    have hlim : out.length + 1 < appLim := by unfold appLim; omega
    have hlv := lens_valsK out
    have ih := tk_loop ts hl rest (i + 1) 49 (out ++ [Sl.tv t]) g2 (by omega) (by rw [List.length_append, List.length_singleton]; omega) (.inl rfl)
    unfold tklp at ih ⊢
    conv at ih in loopAt _ _ => whnf
    conv in loopAt _ _ => whnf
    rw [exL_loop]
    simp only [go_sem, Nat.reduceLT, reduceCtorEq, Nat.reduceEqDiff, Nat.reduceBEq, Nat.reduceAdd, Nat.reduceLeDiff, Nat.reduceMul, ev_indexAddr ty_descOf_90, ty_szOf_47, ty_shapeT_47, ty_zeroCells_47, ev_build ty_zeroCells_49 ty_placesOf_49, ev_buildSlice (len := 1) ty_descOf_22 ty_szOf_49 ty_zeroCells_49 ⟨rfl, by decide, by decide⟩, ev_append ty_appInfo_22, ev_appNew_sl ty_descOf_22, keep_55_3, hlt, hget, Int.natCast_nonneg, hws, hown, hlim, hlv, lens_valK, encL_len, snoc_tv]
    rw [exL_head]
    simp only [go_sem, Nat.reduceEqDiff, keep_55_3]
    rw [List.append_assoc] at ih
    exact ih
theorem tokens_den (ts : List Tok) (hl : ts.length ≤ 1000000) (hne : ts ≠ []) : den K 55 [L (ts.map Tok.enc)] [] = some (.ret (.c (.own 49 (encL (ts.map Sl.tv)))) []) := by
  have h := tk_loop ts hl ts 0 0 [] rfl (Nat.zero_le _) (Nat.le_refl _) (.inr rfl)
  rw [List.nil_append] at h
  unfold tklp at h
  conv at h in loopAt _ _ => whnf
  obtain ⟨o, S, w, rfl, hn, f, hf, s3⟩ := h
  have hf : f = 49 := by
    rcases hf with hf | hf
    · exact hf
    · exact absurd (List.map_eq_nil_iff.1 hf) hne
  subst hf
  have e0 : encL [] = [] := rfl
  have z0 : ((0 : Nat) : Int) = 0 := rfl
  simp only [tkH, e0, z0] at w
  refine den_run rfl rfl Tryz.func55 rfl Tryz.ntmps55 ⟨by simp, by simp [LK]⟩ ?_
  have hr : Tryz.f55.results = #[.tmp 2] := rfl
  simp only [go_sem, Nat.reduceLT, reduceCtorEq, Nat.reduceEqDiff, Nat.reduceBEq, Nat.reduceAdd, ev_len_sl ty_descOf_90]
  rw [exL_head]
  simp only [go_sem, Nat.reduceEqDiff, keep_55_3]
  erw [w]
  simp only [go_sem, Nat.reduceLT, Nat.reduceEqDiff, Nat.reduceBEq, Nat.reduceAdd, hr, hn, s3, K_ownT, TV.keepOwn]
abbrev dvH (ds : List Dcl) (e : Nat) (out : List (List Val)) (i : Nat) : St :=
  { sl := upd (upd (upd (upd bot 9 (I i)) 8 (I ds.length)) 7 (L (encD ds))) 3 (.c (.own e (encP out))), bx := nobox, nt := 37 }
noncomputable def dvlp : Code := .loop (loopAt Tryz.f22 3)
theorem toks2 (a b : Tok) : [a, b].map Tok.enc = [[.int .i64 a.kind, .str a.text, .int .i64 a.n], [.int .i64 b.kind, .str b.text, .int .i64 b.n]] := rfl
theorem dv_step (ds : List Dcl) (e : Nat) (out : List (List Val)) (d : Dcl) (i : Nat) (hi : ds[i]? = some d) (hl : ds.length ≤ 1000000) (ho : out.length ≤ i) (he : e = 22 ∨ out = []) (hd : d.l.length ≤ 1000000) :
    exL K 22 dvlp (dvH ds e out i) = exL K 22 dvlp (dvH ds 22 (out ++ [Sl.declV d]) (i + 1)) := by
  have hil : i < ds.length := (List.getElem?_eq_some_iff.1 hi).1
  have hlt : decide ((i : Int) < (ds.length : Int)) = true := decide_eq_true (by omega)
  have hget := dcl_at ds i d hi
  have hws : IntKind.i64.wrap ((i : Int) + 1) = ((i + 1 : Nat) : Int) := wrap_nat i (by omega)
  have hown : e = 22 ∨ (encP out).isEmpty = true := by
    rcases he with rfl | rfl
    · exact .inl rfl
    · exact .inr rfl
  have hlim : out.length + 1 < appLim := by unfold appLim; omega
  have hlv := lens_parts out
  have n1 := nameD_den d.name
  have n2 := signD_den [58]
  have n3 := signD_den [33]
  have n4 := nameD_den [105, 109, 112, 111, 114, 116, 97, 110, 116]
  have t1 := tokens_den [⟨1, d.name, 0⟩, ⟨7, [58], 0⟩] (by simp) (by simp)
  have t2 := tokens_den [⟨7, [33], 0⟩, ⟨1, [105, 109, 112, 111, 114, 116, 97, 110, 116], 0⟩] (by decide) (by simp)
  rw [toks2] at t1 t2
  simp only [List.map_cons, List.map_nil] at t1 t2
  have k1 : ([Sl.tv ⟨1, d.name, 0⟩, Sl.tv ⟨7, [58], 0⟩] : List Val).length + d.l.length < appLim := by unfold appLim; simp; omega
  have k2 : (([Sl.tv ⟨1, d.name, 0⟩, Sl.tv ⟨7, [58], 0⟩] : List Val) ++ d.l).length + 2 < appLim := by unfold appLim; simp; omega
  have v1 := lens_valsK [Sl.tv ⟨1, d.name, 0⟩, Sl.tv ⟨7, [58], 0⟩]
  have v2 := lens_valsK d.l
  have v3 := lens_valsK ([Sl.tv ⟨1, d.name, 0⟩, Sl.tv ⟨7, [58], 0⟩] ++ d.l)
  have v4 := lens_valsK [Sl.tv ⟨7, [33], 0⟩, Sl.tv ⟨1, [105, 109, 112, 111, 114, 116, 97, 110, 116], 0⟩]
  have hl4 : ([Sl.tv ⟨7, [33], 0⟩, Sl.tv ⟨1, [105, 109, 112, 111, 114, 116, 97, 110, 116], 0⟩] : List Val).length = 2 := rfl
  unfold dvlp
  conv in loopAt _ _ => whnf
  conv in loopAt _ _ => whnf
  conv in exL _ _ _ (dvH ds e out i) => rw [exL_loop]
  cases hb : d.imp
  · have eD : Sl.declV d = [Sl.tv ⟨1, d.name, 0⟩, Sl.tv ⟨7, [58], 0⟩] ++ d.l := by
      unfold Sl.declV
      rw [hb]
      simp [Sl.iv, Sl.dv]
    rw [eD]
    generalize hA : ([Sl.tv ⟨1, d.name, 0⟩, Sl.tv ⟨7, [58], 0⟩] : List Val) = A at *
    generalize hBB : A ++ d.l = BB at *
    simp only [go_sem, Nat.reduceLT, reduceCtorEq, Nat.reduceEqDiff, Nat.reduceBEq, Nat.reduceAdd, Nat.reduceLeDiff, Nat.reduceMul, ev_indexAddr ty_descOf_23, ty_szOf_44, ty_shapeT_44, ty_zeroCells_44, ty_fieldOff_44_0, ty_szOf_9, ty_shapeT_9, good_56, good_57, ev_buildSlice (len := 2) ty_descOf_90 ty_szOf_47 ty_zeroCells_47 ⟨rfl, by decide, by decide⟩, good_55, ty_fieldOff_44_1, ty_szOf_22, ty_shapeT_22, ev_append ty_appInfo_22, ev_appNew_sl ty_descOf_22, ty_fieldOff_44_2, ty_szOf_4, ty_shapeT_4, ev_buildSlice (len := 1) ty_descOf_41 ty_szOf_22 ty_zeroCells_22 ⟨rfl, by decide, by decide⟩, ev_append ty_appInfo_41, ev_appNew_sl ty_descOf_41, keep_22_3, hlt, hget, Int.natCast_nonneg, hws, hown, hlim, hlv, n1, n2, K_ownT, t1, k1, v1, v2, hb, encL_len, encP_len, appV, hBB, lens_part, snoc_part]
    rw [exL_head]
    simp only [go_sem, Nat.reduceEqDiff, keep_22_3]
  · have eD : Sl.declV d = [Sl.tv ⟨1, d.name, 0⟩, Sl.tv ⟨7, [58], 0⟩] ++ d.l ++ [Sl.tv ⟨7, [33], 0⟩, Sl.tv ⟨1, [105, 109, 112, 111, 114, 116, 97, 110, 116], 0⟩] := by
      unfold Sl.declV
      rw [hb]
      simp [Sl.iv, Sl.dv, Sl.importantT]
    rw [eD]
    generalize hA : ([Sl.tv ⟨1, d.name, 0⟩, Sl.tv ⟨7, [58], 0⟩] : List Val) = A at *
    generalize hBB : A ++ d.l = BB at *
    generalize hC : ([Sl.tv ⟨7, [33], 0⟩, Sl.tv ⟨1, [105, 109, 112, 111, 114, 116, 97, 110, 116], 0⟩] : List Val) = C at *
    simp only [go_sem, Nat.reduceLT, reduceCtorEq, Nat.reduceEqDiff, Nat.reduceBEq, Nat.reduceAdd, Nat.reduceLeDiff, Nat.reduceMul, ev_indexAddr ty_descOf_23, ty_szOf_44, ty_shapeT_44, ty_zeroCells_44, ty_fieldOff_44_0, ty_szOf_9, ty_shapeT_9, good_56, good_57, ev_buildSlice (len := 2) ty_descOf_90 ty_szOf_47 ty_zeroCells_47 ⟨rfl, by decide, by decide⟩, good_55, ty_fieldOff_44_1, ty_szOf_22, ty_shapeT_22, ev_append ty_appInfo_22, ev_appNew_sl ty_descOf_22, ty_fieldOff_44_2, ty_szOf_4, ty_shapeT_4, ev_buildSlice (len := 1) ty_descOf_41 ty_szOf_22 ty_zeroCells_22 ⟨rfl, by decide, by decide⟩, ev_append ty_appInfo_41, ev_appNew_sl ty_descOf_41, keep_22_3, hlt, hget, Int.natCast_nonneg, hws, hown, hlim, hlv, n1, n2, n3, n4, K_ownT, t1, t2, k1, k2, v1, v2, v3, v4, hl4, hb, encL_len, encP_len, appV, hBB, lens_part, snoc_part]
    rw [exL_head]
    simp only [go_sem, Nat.reduceEqDiff, keep_22_3]
theorem dv_loop (ds : List Dcl) (hl : ds.length ≤ 1000000) (hs : ∀ d ∈ ds, d.l.length ≤ 1000000) : ∀ (rest : List Dcl) (i e : Nat) (out : List (List Val)), ds.drop i = rest → i ≤ ds.length → out.length ≤ i → (e = 22 ∨ out = []) →
    Ends (exL K 22 dvlp (dvH ds e out i)) fun o S => o = .exit 0 ∧ S.nt = 37 ∧ ∃ f, S.sl 3 = .c (.own f (encP (out ++ rest.map Sl.declV)))
  | [], i, e, out, hd, hi, ho, he => by
    have hin : i = ds.length := by
      have := List.drop_eq_nil_iff.1 hd
      omega
    subst hin
    have hlt : decide ((ds.length : Int) < (ds.length : Int)) = false := decide_eq_false (by omega)
    rw [List.map_nil, List.append_nil]
    unfold dvlp
    conv in loopAt _ _ => whnf
    rw [exL_loop]
    simp only [go_sem, Nat.reduceLT, Nat.reduceEqDiff, Nat.reduceBEq, keep_22_3, ends_some]
    exact ⟨e, rfl⟩
  | d :: rest, i, e, out, hd, hi, ho, he => by
    obtain ⟨g1, g2, g3⟩ := drop_cons hd
    rw [dv_step ds e out d i g1 hl ho he (hs d (List.mem_of_getElem? g1))]
    have := dv_loop ds hl hs rest (i + 1) 22 (out ++ [Sl.declV d]) g2 (by omega) (by rw [List.length_append, List.length_singleton]; omega) (.inl rfl)
    rw [List.append_assoc] at this
    exact this
theorem ValsD_den (ds : List Dcl) (hl : ds.length ≤ 1000000) (hs : ∀ d ∈ ds, d.l.length ≤ 1000000) (hj : (Sl.valsD ds).length < 100000000) : den K 22 [L (encD ds)] [] = some (.ret (L (encL (Sl.valsD ds))) []) := by
  have hjn := JoinS_den [59] (ds.map Sl.declV) (by rw [List.length_map]; omega) hj
  have h := dv_loop ds hl hs ds 0 0 [] rfl (Nat.zero_le _) (Nat.le_refl _) (.inr rfl)
  rw [List.nil_append] at h
  unfold dvlp at h
  conv at h in loopAt _ _ => whnf
  obtain ⟨o, S, w, rfl, hn, f, s3⟩ := h
  have e0 : encP [] = [] := rfl
  have z0 : ((0 : Nat) : Int) = 0 := rfl
  simp only [dvH, e0, z0] at w
  refine den_run rfl rfl Tryz.func22 rfl Tryz.ntmps22 ⟨by simp, by simp [LK]⟩ ?_
  have hr : Tryz.f22.results = #[.tmp 2] := rfl
  simp only [go_sem, Nat.reduceLT, reduceCtorEq, Nat.reduceEqDiff, Nat.reduceBEq, Nat.reduceAdd, ev_len_sl ty_descOf_23, encD_len]
  rw [exL_head]
  simp only [go_sem, Nat.reduceEqDiff, keep_22_3]
  erw [w]
  simp only [go_sem, Nat.reduceLT, Nat.reduceEqDiff, Nat.reduceBEq, Nat.reduceAdd, good_58, hr, hn, s3, hjn]
  rfl
structure DclOk (d : Dcl) : Prop where
  name : d.name.length < 1000000000
  size : Ne.size d.l ≤ 400000
  tok : ∀ t ∈ Ne.flat d.l, TokOk t
def sameD1 (a b : Dcl) : Bool := (a.name == b.name) && ((a.imp == b.imp) && Ne.same a.l b.l)
def sameD : List Dcl → List Dcl → Bool := eqB sameD1
theorem SameD1_den (a b : Dcl) (ha : Ne.size a.l ≤ 1000000) (hb : Ne.size b.l ≤ 1000000) : den K 69 [.agg (dclCv a), .agg (dclCv b)] [] = some (.ret (B (sameD1 a b)) []) := by
  have hr : Tryz.f69.results = #[.tmp 4] := rfl
  have hs := VSame_den a.l ha b.l hb
  unfold VSameDen at hs
  unfold sameD1
  cases b1 : (a.name == b.name)
  · refine den_run rfl rfl Tryz.func69 rfl Tryz.ntmps69 ⟨by simp, by simp [LK]⟩ ?_
    simp only [go_sem, Nat.reduceLT, Nat.reduceEqDiff, Nat.reduceBEq, Nat.reduceAdd, Nat.reduceSub, Nat.reduceLeDiff, ty_fieldOff_44_0, ty_szOf_9, ty_shapeT_9, hr, b1]
  cases b2 : (a.imp == b.imp)
  · refine den_run rfl rfl Tryz.func69 rfl Tryz.ntmps69 ⟨by simp, by simp [LK]⟩ ?_
    simp only [go_sem, Nat.reduceLT, Nat.reduceEqDiff, Nat.reduceBEq, Nat.reduceAdd, Nat.reduceSub, Nat.reduceLeDiff, ty_fieldOff_44_0, ty_szOf_9, ty_shapeT_9, ty_fieldOff_44_2, ty_szOf_4, ty_shapeT_4, ty_isBoolT_4, hr, b1, b2]
  refine den_run rfl rfl Tryz.func69 rfl Tryz.ntmps69 ⟨by simp, by simp [LK]⟩ ?_
  simp only [go_sem, Nat.reduceLT, Nat.reduceEqDiff, Nat.reduceBEq, Nat.reduceAdd, Nat.reduceSub, Nat.reduceLeDiff, ty_fieldOff_44_0, ty_szOf_9, ty_shapeT_9, ty_fieldOff_44_2, ty_szOf_4, ty_shapeT_4, ty_isBoolT_4, ty_fieldOff_44_1, ty_szOf_22, ty_shapeT_22, good_70, hr, b1, b2, hs]
theorem SameD_den (a b : List Dcl) (hl : a.length ≤ 1000000) (ha : ∀ d ∈ a, Ne.size d.l ≤ 1000000) (hb : ∀ d ∈ b, Ne.size d.l ≤ 1000000) : den K 28 [L (encD a), L (encD b)] [] = some (.ret (B (sameD a b)) []) := by
  have hr : Tryz.f28.results = #[.tmp 4] := rfl
  have h := EqualD_den (g := 69) good_69 rfl (q := sameD1) a b hl fun x hx y hy => SameD1_den x y (ha x hx) (hb y hy)
  refine den_run rfl rfl Tryz.func28 rfl Tryz.ntmps28 ⟨by simp, by simp [LK]⟩ ?_
  simp only [go_sem, Nat.reduceLT, reduceCtorEq, Nat.reduceEqDiff, Nat.reduceBEq, Nat.reduceAdd, good_68, hr, h]
  rfl
end Go.Abs
namespace Go.Abs
open Go Go.Proofs
set_option maxRecDepth 10000
attribute [local go_sem] exL_seq exL_region exL_cond exL_block exL_scope exL_ret exL_skip exL_exit runRegion runOps stepOp guardA absOp takeOver opd avOf cvOf St.degAt St.put okPV okVal okAV absBin intBin strBin boolBin setBoxes if_true Bool.false_eq_true if_false Option.map_some Option.map_none Option.bind_some Option.bind_none thenO outOf upd List.toList_toArray isOwn steal appArgs mvB inApps AV.deg CV.deg AV.gv AV.isIter absNext some_bne some_beqN List.length_nil List.length_cons List.filterMap_cons List.filterMap_nil beq_iff_eq List.getElem?_cons_zero List.getElem?_cons_succ Option.getD_some K_hook hookB Bool.false_and Bool.and_false Bool.and_self K_P K_own absCall doCall getBoxes lend back idx dedup AV.ren CV.ren TV.ren AV.ptrs CV.ptrs zipBox AV.flat CV.flat absLoad absStore cellsOfAV setAt newBox markB bldTypes absFieldAddr absField absExtract absAssert noAssert absMkIface ifcOf CV.pv? content pushHead ownT fillCells reps pvs chunks enterSt leave resOf resVars resVar outBoxes lentOnly TV.deg TV.av LK CV.plain CV.noBld nilBin absUn bound List.map_cons List.map_nil List.all_cons List.all_nil List.any_cons List.any_nil List.contains_cons List.contains_nil List.elem_cons List.elem_nil List.cons_append List.nil_append List.append_nil List.flatMap_cons List.flatMap_nil List.zip_cons_cons List.zip_nil_left List.zip_nil_right List.take_succ_cons List.take_zero List.take_nil List.drop_succ_cons List.drop_zero List.drop_nil List.isEmpty_nil List.isEmpty_cons Bool.and_true Bool.true_and Bool.or_true Bool.true_or Bool.or_false Bool.false_or Bool.not_true Bool.not_false Nat.add_zero Nat.zero_add Option.isNone_none Option.isNone_some Option.getD_none true_and and_true not_true_eq_false not_false_eq_true decide_true decide_false Nat.le_refl and_self Bool.not_eq_true Nat.sub_self or_true true_or Option.some.injEq List.length_map List.nil_eq and_false false_and AV.live CV.live CV.liveIn K_keep firstReg Option.orElse_some Option.orElse_none head keepSlots keepBoxes Int.lt_irrefl List.length_append ite_self memOK logOps opKey lentBoxes Key.clash Key.sees Key.writes Nat.lt_irrefl gt_iff_lt nobox_at bot_at false_or or_false beq_self_eq_true Bool.true_beq Bool.false_beq
def FewDen (l : List Val) : Prop := ∀ deep left : Int, 0 ≤ left → left ≤ 1000000 → 0 ≤ deep → deep ≤ 1000 → den K 51 [L (encL l), I left, I deep] [] = some (.ret (I (Ne.few deep left l)) [])
abbrev fewH (l : List Val) (left deep : Int) (i : Nat) : St := { sl := upd (upd (upd (upd bot 7 (I i)) 2 (I deep)) 1 (I left)) 0 (L (encL l)), bx := nobox, nt := 51 }
theorem few_loop (l : List Val) (hin : ∀ k t l', Val.mk k t l' ∈ l → FewDen l') (deep : Int) (hd1 : 1 ≤ deep) (hd2 : deep ≤ 1000) : ∀ (rest : List Val) (i : Nat) (left : Int), l.drop i = rest → i ≤ l.length → -1 ≤ left → i + left ≤ 1000000 →
    Ends (exL K 51 (.loop (loopAt Tryz.f51 4)) (fewH l left deep i)) fun o S => (o = .exit 0 ∧ S.nt = 51 ∧ S.sl 1 = I (Ne.fewL deep left rest)) ∨ (o = .ret ∧ S.sl 6 = I (Ne.fewL deep left rest))
  | [], i, left, hd, hi, h1, h2 => by
    have hin : i = l.length := by
      have := List.drop_eq_nil_iff.1 hd
      omega
    subst hin
    conv in loopAt _ _ => whnf
    rw [exL_loop]
    simp only [go_sem, Nat.reduceLT, reduceCtorEq, Nat.reduceEqDiff, Nat.reduceBEq, Nat.reduceAdd, ev_len_sl ty_descOf_22, keep_51_4, ends_some, encL_len, Ne.fewL]
  | .mk k t l' :: rest, i, left, hd, hi, h1, h2 => by
    obtain ⟨g1, g2, g3⟩ := drop_cons hd
    have hmem : Val.mk k t l' ∈ l := List.mem_of_getElem? g1
    have hf := hin k t l' hmem
    have hlt : decide ((i : Int) < (l.length : Int)) = true := decide_eq_true (by omega)
    have hget := val_at l i k t l' g1
    rw [fewL_cons]
    conv in loopAt _ _ => whnf
    rw [exL_loop]
    by_cases hneg : left < 0
    · have e1 : decide (0 ≤ left) = false := decide_eq_false (by omega)
      rw [if_pos hneg]
      simp only [go_sem, Nat.reduceLT, reduceCtorEq, Nat.reduceEqDiff, Nat.reduceBEq, Nat.reduceAdd, ev_len_sl ty_descOf_22, keep_51_4, ends_some, encL_len, hlt, e1]
    · have e1 : decide (0 ≤ left) = true := decide_eq_true (by omega)
      rw [if_neg hneg]
      have hw : IntKind.i64.wrap (left - 1) = left - 1 := IntWalk.i64_in _ (by omega)
      have hwi : IntKind.i64.wrap ((i : Int) + 1) = ((i + 1 : Nat) : Int) := wrap_nat i (by omega)
      by_cases ht : 100 < t.text.length
      · have e2 : decide ((100 : Int) < (t.text.length : Int)) = true := decide_eq_true (by omega)
        rw [if_pos ht]
        simp only [go_sem, Nat.reduceLT, reduceCtorEq, Nat.reduceEqDiff, Nat.reduceBEq, Nat.reduceAdd, ev_len_sl ty_descOf_22, ev_indexAddr ty_descOf_22, ty_szOf_49, ty_fieldOff_49_1, ty_szOf_47, ty_fieldOff_47_1, ty_szOf_9, ty_shapeT_9, ev_len_str ty_descOf_9, keep_51_4, ends_some, encL_len, hlt, hget, Int.natCast_nonneg, e1, e2, hw]
      · have e2 : decide ((100 : Int) < (t.text.length : Int)) = false := decide_eq_false (by omega)
        rw [if_neg ht]
        by_cases h0 : 0 ≤ left - 1
        · have e3 : decide (0 ≤ left - 1) = true := decide_eq_true h0
          cases he : l'.isEmpty
          · rw [if_pos ⟨h0, rfl⟩]
            have e4 : decide ((0 : Int) < (l'.length : Int)) = true := decide_eq_true (by cases l' with | nil => cases he | cons x y => simp only [List.length_cons]; omega)
            have hwd : IntKind.i64.wrap (deep - 1) = deep - 1 := IntWalk.i64_in _ (by omega)
            have hfd := hf (deep - 1) (left - 1) h0 (by omega) (by omega) (by omega)
            have hb := (few_bound l' (deep - 1) (left - 1) (by omega)).2.2 h0
            have ih := few_loop l hin deep hd1 hd2 rest (i + 1) (Ne.few (deep - 1) (left - 1) l') g2 (by omega) hb.1 (by omega)
            conv at ih in loopAt _ _ => whnf
            simp only [go_sem, Nat.reduceLT, reduceCtorEq, Nat.reduceEqDiff, Nat.reduceBEq, Nat.reduceAdd, ev_len_sl ty_descOf_22, ev_indexAddr ty_descOf_22, ty_szOf_49, ty_fieldOff_49_1, ty_szOf_47, ty_fieldOff_47_1, ty_szOf_9, ty_shapeT_9, ev_len_str ty_descOf_9, ty_fieldOff_49_2, ty_szOf_22, ty_shapeT_22, good_51, keep_51_4, encL_len, hlt, hget, Int.natCast_nonneg, e1, e2, e3, e4, hw, hwd, hwi, hfd]
            rw [exL_head]
            simp only [go_sem, reduceCtorEq, Nat.reduceEqDiff, keep_51_4]
            exact ih
          · rw [if_neg (fun h => by cases h.2)]
            have e4 : decide ((0 : Int) < (l'.length : Int)) = false := decide_eq_false (by cases l' with | nil => simp | cons x y => cases he)
            have ih := few_loop l hin deep hd1 hd2 rest (i + 1) (left - 1) g2 (by omega) (by omega) (by omega)
            conv at ih in loopAt _ _ => whnf
            simp only [go_sem, Nat.reduceLT, reduceCtorEq, Nat.reduceEqDiff, Nat.reduceBEq, Nat.reduceAdd, ev_len_sl ty_descOf_22, ev_indexAddr ty_descOf_22, ty_szOf_49, ty_fieldOff_49_1, ty_szOf_47, ty_fieldOff_47_1, ty_szOf_9, ty_shapeT_9, ev_len_str ty_descOf_9, ty_fieldOff_49_2, ty_szOf_22, ty_shapeT_22, good_51, keep_51_4, encL_len, hlt, hget, Int.natCast_nonneg, e1, e2, e3, e4, hw, hwi]
            rw [exL_head]
            simp only [go_sem, reduceCtorEq, Nat.reduceEqDiff, keep_51_4]
            exact ih
        · have e3 : decide (0 ≤ left - 1) = false := decide_eq_false h0
          rw [if_neg (fun h => h0 h.1)]
          have ih := few_loop l hin deep hd1 hd2 rest (i + 1) (left - 1) g2 (by omega) (by omega) (by omega)
          conv at ih in loopAt _ _ => whnf
          simp only [go_sem, Nat.reduceLT, reduceCtorEq, Nat.reduceEqDiff, Nat.reduceBEq, Nat.reduceAdd, ev_len_sl ty_descOf_22, ev_indexAddr ty_descOf_22, ty_szOf_49, ty_fieldOff_49_1, ty_szOf_47, ty_fieldOff_47_1, ty_szOf_9, ty_shapeT_9, ev_len_str ty_descOf_9, ty_fieldOff_49_2, ty_szOf_22, ty_shapeT_22, good_51, keep_51_4, encL_len, hlt, hget, Int.natCast_nonneg, e1, e2, e3, hw, hwi]
          rw [exL_head]
          simp only [go_sem, reduceCtorEq, Nat.reduceEqDiff, keep_51_4]
          exact ih
theorem few2_den (l : List Val) : FewDen l := by
  refine ind_list (fun l hin => ?_) l
  intro deep left h1 h2 h3 h4
  refine den_run rfl rfl Tryz.func51 rfl Tryz.ntmps51 ⟨by simp, by simp [LK]⟩ ?_
  have hr : Tryz.f51.results = #[.tmp 6] := rfl
  unfold Ne.few
  by_cases hd : deep < 1
  · have e0 : decide (deep < 1) = true := decide_eq_true hd
    rw [if_pos hd]
    simp only [go_sem, Nat.reduceLT, Nat.reduceEqDiff, Nat.reduceBEq, Nat.reduceAdd, hr, e0]
  · have e0 : decide (deep < 1) = false := decide_eq_false hd
    rw [if_neg hd]
    have h := few_loop l hin deep (by omega) h4 l 0 left rfl (Nat.zero_le _) (by omega) (by omega)
    conv at h in loopAt _ _ => whnf
    obtain ⟨o, S', w, hq⟩ := h
    simp only [go_sem, Nat.reduceLT, Nat.reduceEqDiff, Nat.reduceBEq, Nat.reduceAdd, e0]
    rw [exL_head]
    simp only [go_sem, reduceCtorEq, Nat.reduceEqDiff, keep_51_4]
    erw [w]
    rcases hq with ⟨rfl, hn, hv⟩ | ⟨rfl, hv⟩
    · simp only [go_sem, Nat.reduceLT, Nat.reduceEqDiff, Nat.reduceBEq, Nat.reduceAdd, hr, hn, hv]
    · simp only [go_sem, hr, hv]
theorem SmallV_den (l : List Val) (m : Int) (h1 : 0 ≤ m) (h2 : m ≤ 1000000) : den K 15 [L (encL l), I m] [] = some (.ret (B (decide (0 ≤ Ne.few 100 m l))) []) := by
  have h := few2_den l 100 m h1 h2 (by omega) (by omega)
  refine den_run rfl rfl Tryz.func15 rfl Tryz.ntmps15 ⟨by simp, by simp [LK]⟩ ?_
  have hr : Tryz.f15.results = #[.tmp 4] := rfl
  simp only [go_sem, Nat.reduceLT, reduceCtorEq, Nat.reduceEqDiff, Nat.reduceBEq, Nat.reduceAdd, good_51, hr, h]
end Go.Abs
namespace Go.Abs
open Go Go.Proofs
set_option maxRecDepth 10000
attribute [local go_sem] exL_seq exL_region exL_cond exL_block exL_scope exL_ret exL_skip exL_exit runRegion runOps stepOp guardA absOp takeOver opd avOf cvOf St.degAt St.put okPV okVal okAV absBin intBin strBin boolBin setBoxes if_true Bool.false_eq_true if_false Option.map_some Option.map_none Option.bind_some Option.bind_none thenO outOf upd List.toList_toArray isOwn steal appArgs mvB inApps AV.deg CV.deg AV.gv AV.isIter absNext some_bne some_beqN List.length_nil List.length_cons List.filterMap_cons List.filterMap_nil beq_iff_eq List.getElem?_cons_zero List.getElem?_cons_succ Option.getD_some K_hook hookB Bool.false_and Bool.and_false Bool.and_self K_P K_own absCall doCall getBoxes lend back idx dedup AV.ren CV.ren TV.ren AV.ptrs CV.ptrs zipBox AV.flat CV.flat absLoad absStore cellsOfAV setAt newBox markB bldTypes absFieldAddr absField absExtract absAssert noAssert absMkIface ifcOf CV.pv? content pushHead ownT fillCells reps pvs chunks enterSt leave resOf resVars resVar outBoxes lentOnly TV.deg TV.av LK CV.plain CV.noBld nilBin absUn bound List.map_cons List.map_nil List.all_cons List.all_nil List.any_cons List.any_nil List.contains_cons List.contains_nil List.elem_cons List.elem_nil List.cons_append List.nil_append List.append_nil List.flatMap_cons List.flatMap_nil List.zip_cons_cons List.zip_nil_left List.zip_nil_right List.take_succ_cons List.take_zero List.take_nil List.drop_succ_cons List.drop_zero List.drop_nil List.isEmpty_nil List.isEmpty_cons Bool.and_true Bool.true_and Bool.or_true Bool.true_or Bool.or_false Bool.false_or Bool.not_true Bool.not_false Nat.add_zero Nat.zero_add Option.isNone_none Option.isNone_some Option.getD_none true_and and_true not_true_eq_false not_false_eq_true decide_true decide_false Nat.le_refl and_self Bool.not_eq_true Nat.sub_self or_true true_or Option.some.injEq List.length_map List.nil_eq and_false false_and AV.live CV.live CV.liveIn K_keep firstReg Option.orElse_some Option.orElse_none head keepSlots keepBoxes Int.lt_irrefl List.length_append ite_self memOK logOps opKey lentBoxes Key.clash Key.sees Key.writes Nat.lt_irrefl gt_iff_lt nobox_at bot_at false_or or_false beq_self_eq_true Bool.true_beq Bool.false_beq
theorem tok7_den (k : Int) (s : List UInt8) : den K 59 [I k, T s] [] = some (.ret (.agg [.pv (.int .i64 1), .pv (.int .i64 k), .pv (.str s), .pv (.int .i64 0), .nils]) []) := by
  have hr : Tryz.f59.results = #[.cell 4 49] := rfl
  refine den_run rfl rfl Tryz.func59 rfl Tryz.ntmps59 ⟨by simp, by simp [LK]⟩ ?_
  simp only [go_sem, Nat.reduceLT, reduceCtorEq, Nat.reduceEqDiff, Nat.reduceBEq, Nat.reduceAdd, Nat.reduceSub, Nat.reduceLeDiff, ty_shapeT_49, ty_zeroCells_49, ev_build ty_zeroCells_47 ty_placesOf_47, ev_build ty_zeroCells_49 ty_placesOf_49, ty_szOf_49, hr]
abbrev v7H (ds : List Dcl) (e : Nat) (out : List Val) (i : Nat) : St :=
  { sl := upd (upd (upd bot 4 (I i)) 3 (.c (.own e (encL out)))) 0 (L (encD ds)), bx := nobox, nt := 46 }
noncomputable def v7lp : Code := .loop (loopAt Tryz.f23 3)
abbrev pvT (k : Int) (s : List UInt8) : List PV := [.int .i64 1, .int .i64 k, .str s, .int .i64 0, .sl []]
theorem two_toks (a : List Val) (k : Int) (s : List UInt8) (k' : Int) (s' : List UInt8) : encL a ++ [pvT k s, pvT k' s'] = encL (a ++ [Sl.tv ⟨k, s, 0⟩, Sl.tv ⟨k', s', 0⟩]) := by
  rw [encL_app]; rfl
theorem lens_two (a b c d e f g h i j : PV) : lens 5 [[a, b, c, d, e], [f, g, h, i, j]] = true := rfl
theorem declV_no {d : Dcl} (h : d.imp = false) (out : List Val) : out ++ Sl.declV d = out ++ [Sl.tv ⟨1, d.name, 0⟩, Sl.tv ⟨7, [58], 0⟩] ++ d.l := by
  unfold Sl.declV
  rw [h]; simp [Sl.iv, Sl.dv]
theorem declV_yes {d : Dcl} (h : d.imp = true) (out : List Val) : out ++ Sl.declV d = out ++ [Sl.tv ⟨1, d.name, 0⟩, Sl.tv ⟨7, [58], 0⟩] ++ d.l ++ [Sl.tv ⟨7, [33], 0⟩, Sl.tv ⟨1, [105, 109, 112, 111, 114, 116, 97, 110, 116], 0⟩] := by
  unfold Sl.declV
  rw [h]; simp [Sl.iv, Sl.dv, Sl.importantT]
set_option maxHeartbeats 8000000 in
theorem v7_step (ds : List Dcl) (e : Nat) (out : List Val) (d : Dcl) (i : Nat) (hi : ds[i]? = some d) (hl : ds.length ≤ 1000000) (ho : out.length ≤ 10000000) (he : e = 49 ∨ out = []) (hd : d.l.length ≤ 1000000) :
    exL K 23 v7lp (v7H ds e out i) = exL K 23 v7lp (v7H ds 49 ((if 0 < i then out ++ [Sl.signV [59]] else out) ++ Sl.declV d) (i + 1)) := by
  have hil : i < ds.length := (List.getElem?_eq_some_iff.1 hi).1
  have hlt : decide ((i : Int) < (ds.length : Int)) = true := decide_eq_true (by omega)
  have hget := dcl_at ds i d hi
  have hws : IntKind.i64.wrap ((i : Int) + 1) = ((i + 1 : Nat) : Int) := wrap_nat i (by omega)
  have hown : e = 49 ∨ (encL out).isEmpty = true := by
    rcases he with rfl | rfl
    · exact .inl rfl
    · exact .inr rfl
  have n0 := tok7_den 7 [59]
  have n1 := tok7_den 1 d.name
  have n2 := tok7_den 7 [58]
  have n3 := tok7_den 7 [33]
  have n4 := tok7_den 1 [105, 109, 112, 111, 114, 116, 97, 110, 116]
  have v2 := lens_valsK d.l
  by_cases h0 : 0 < i
  · have hp0 : decide ((0 : Int) < (i : Int)) = true := decide_eq_true (by omega)
    rw [if_pos h0]
    have k0 : out.length + 1 < appLim := by unfold appLim; omega
    have v0 := lens_valsK out
    have s0 := snoc_sign out [59]
    have hA : (out ++ [Sl.signV [59]]).length ≤ 10000001 := by simp; omega
    generalize out ++ [Sl.signV [59]] = A at s0 hA ⊢
    have k1 : A.length + 2 < appLim := by unfold appLim; omega
    have v1 := lens_valsK A
    have s1 := two_toks A 1 d.name 7 [58]
    have hB : (A ++ [Sl.tv ⟨1, d.name, 0⟩, Sl.tv ⟨7, [58], 0⟩]).length ≤ 10000003 := by simp; omega
    cases hb : d.imp
    · rw [declV_no hb]
      generalize A ++ [Sl.tv ⟨1, d.name, 0⟩, Sl.tv ⟨7, [58], 0⟩] = Bq at s1 hB ⊢
      have k3 : Bq.length + d.l.length < appLim := by unfold appLim; omega
      have v3 := lens_valsK Bq
      unfold v7lp
      conv in loopAt _ _ => whnf
      conv in loopAt _ _ => whnf
      conv in exL _ _ _ (v7H ds e out i) => rw [exL_loop]
      simp only [go_sem, Nat.reduceLT, reduceCtorEq, Nat.reduceEqDiff, Nat.reduceBEq, Nat.reduceAdd, Nat.reduceLeDiff, Nat.reduceMul, ev_len_sl ty_descOf_23, good_59, ev_buildSlice (len := 1) ty_descOf_22 ty_szOf_49 ty_zeroCells_49 ⟨rfl, by decide, by decide⟩, ev_append ty_appInfo_22, ev_appNew_sl ty_descOf_22, ev_indexAddr ty_descOf_23, ty_szOf_44, ty_fieldOff_44_0, ty_szOf_9, ty_shapeT_9, ev_buildSlice (len := 2) ty_descOf_22 ty_szOf_49 ty_zeroCells_49 ⟨rfl, by decide, by decide⟩, ty_fieldOff_44_1, ty_szOf_22, ty_shapeT_22, ty_fieldOff_44_2, ty_szOf_4, ty_shapeT_4, keep_23_3, encD_len, hlt, hp0, hget, Int.natCast_nonneg, hws, hown, n0, n1, n2, k0, v0, s0, lens_valK, lens_two, k1, v1, s1, k3, v2, v3, hb, encL_len, appV]
      rw [exL_head]
      simp only [go_sem, reduceCtorEq, Nat.reduceEqDiff, keep_23_3]
    · rw [declV_yes hb]
      generalize A ++ [Sl.tv ⟨1, d.name, 0⟩, Sl.tv ⟨7, [58], 0⟩] = Bq at s1 hB ⊢
      have k3 : Bq.length + d.l.length < appLim := by unfold appLim; omega
      have v3 := lens_valsK Bq
      have hC : (Bq ++ d.l).length ≤ 11000003 := by rw [List.length_append]; omega
      have a4 := appV Bq d.l
      generalize Bq ++ d.l = C at a4 hC ⊢
      have k4 : C.length + 2 < appLim := by unfold appLim; omega
      have v4 := lens_valsK C
      have s4 := two_toks C 7 [33] 1 [105, 109, 112, 111, 114, 116, 97, 110, 116]
      unfold v7lp
      conv in loopAt _ _ => whnf
      conv in loopAt _ _ => whnf
      conv in exL _ _ _ (v7H ds e out i) => rw [exL_loop]
      simp only [go_sem, Nat.reduceLT, reduceCtorEq, Nat.reduceEqDiff, Nat.reduceBEq, Nat.reduceAdd, Nat.reduceLeDiff, Nat.reduceMul, ev_len_sl ty_descOf_23, good_59, ev_buildSlice (len := 1) ty_descOf_22 ty_szOf_49 ty_zeroCells_49 ⟨rfl, by decide, by decide⟩, ev_append ty_appInfo_22, ev_appNew_sl ty_descOf_22, ev_indexAddr ty_descOf_23, ty_szOf_44, ty_fieldOff_44_0, ty_szOf_9, ty_shapeT_9, ev_buildSlice (len := 2) ty_descOf_22 ty_szOf_49 ty_zeroCells_49 ⟨rfl, by decide, by decide⟩, ty_fieldOff_44_1, ty_szOf_22, ty_shapeT_22, ty_fieldOff_44_2, ty_szOf_4, ty_shapeT_4, keep_23_3, encD_len, hlt, hp0, hget, Int.natCast_nonneg, hws, hown, n0, n1, n2, n3, n4, k0, v0, s0, lens_valK, lens_two, k1, v1, s1, k3, v2, v3, a4, k4, v4, s4, hb, encL_len]
      rw [exL_head]
      simp only [go_sem, reduceCtorEq, Nat.reduceEqDiff, keep_23_3]
  · have hp0 : decide ((0 : Int) < (i : Int)) = false := decide_eq_false (by omega)
    rw [if_neg h0]
    have k1 : out.length + 2 < appLim := by unfold appLim; omega
    have v1 := lens_valsK out
    have s1 := two_toks out 1 d.name 7 [58]
    have hB : (out ++ [Sl.tv ⟨1, d.name, 0⟩, Sl.tv ⟨7, [58], 0⟩]).length ≤ 10000003 := by simp; omega
    cases hb : d.imp
    · rw [declV_no hb]
      generalize out ++ [Sl.tv ⟨1, d.name, 0⟩, Sl.tv ⟨7, [58], 0⟩] = Bq at s1 hB ⊢
      have k3 : Bq.length + d.l.length < appLim := by unfold appLim; omega
      have v3 := lens_valsK Bq
      unfold v7lp
      conv in loopAt _ _ => whnf
      conv in loopAt _ _ => whnf
      conv in exL _ _ _ (v7H ds e out i) => rw [exL_loop]
      simp only [go_sem, Nat.reduceLT, reduceCtorEq, Nat.reduceEqDiff, Nat.reduceBEq, Nat.reduceAdd, Nat.reduceLeDiff, Nat.reduceMul, ev_len_sl ty_descOf_23, good_59, ev_buildSlice (len := 1) ty_descOf_22 ty_szOf_49 ty_zeroCells_49 ⟨rfl, by decide, by decide⟩, ev_append ty_appInfo_22, ev_appNew_sl ty_descOf_22, ev_indexAddr ty_descOf_23, ty_szOf_44, ty_fieldOff_44_0, ty_szOf_9, ty_shapeT_9, ev_buildSlice (len := 2) ty_descOf_22 ty_szOf_49 ty_zeroCells_49 ⟨rfl, by decide, by decide⟩, ty_fieldOff_44_1, ty_szOf_22, ty_shapeT_22, ty_fieldOff_44_2, ty_szOf_4, ty_shapeT_4, keep_23_3, encD_len, hlt, hp0, hget, Int.natCast_nonneg, hws, hown, n1, n2, lens_two, k1, v1, s1, k3, v2, v3, hb, encL_len, appV]
      rw [exL_head]
      simp only [go_sem, reduceCtorEq, Nat.reduceEqDiff, keep_23_3]
    · rw [declV_yes hb]
      generalize out ++ [Sl.tv ⟨1, d.name, 0⟩, Sl.tv ⟨7, [58], 0⟩] = Bq at s1 hB ⊢
      have k3 : Bq.length + d.l.length < appLim := by unfold appLim; omega
      have v3 := lens_valsK Bq
      have hC : (Bq ++ d.l).length ≤ 11000003 := by rw [List.length_append]; omega
      have a4 := appV Bq d.l
      generalize Bq ++ d.l = C at a4 hC ⊢
      have k4 : C.length + 2 < appLim := by unfold appLim; omega
      have v4 := lens_valsK C
      have s4 := two_toks C 7 [33] 1 [105, 109, 112, 111, 114, 116, 97, 110, 116]
      unfold v7lp
      conv in loopAt _ _ => whnf
      conv in loopAt _ _ => whnf
      conv in exL _ _ _ (v7H ds e out i) => rw [exL_loop]
      simp only [go_sem, Nat.reduceLT, reduceCtorEq, Nat.reduceEqDiff, Nat.reduceBEq, Nat.reduceAdd, Nat.reduceLeDiff, Nat.reduceMul, ev_len_sl ty_descOf_23, good_59, ev_buildSlice (len := 1) ty_descOf_22 ty_szOf_49 ty_zeroCells_49 ⟨rfl, by decide, by decide⟩, ev_append ty_appInfo_22, ev_appNew_sl ty_descOf_22, ev_indexAddr ty_descOf_23, ty_szOf_44, ty_fieldOff_44_0, ty_szOf_9, ty_shapeT_9, ev_buildSlice (len := 2) ty_descOf_22 ty_szOf_49 ty_zeroCells_49 ⟨rfl, by decide, by decide⟩, ty_fieldOff_44_1, ty_szOf_22, ty_shapeT_22, ty_fieldOff_44_2, ty_szOf_4, ty_shapeT_4, keep_23_3, encD_len, hlt, hp0, hget, Int.natCast_nonneg, hws, hown, n1, n2, n3, n4, lens_two, k1, v1, s1, k3, v2, v3, a4, k4, v4, s4, hb, encL_len]
      rw [exL_head]
      simp only [go_sem, reduceCtorEq, Nat.reduceEqDiff, keep_23_3]
abbrev s7H (a b : List Dcl) (i : Nat) : St := { sl := upd (upd (upd bot 5 (I i)) 1 (L (encD b))) 0 (L (encD a)), bx := nobox, nt := 55 }
set_option maxHeartbeats 8000000 in
theorem s7_loop (a b : List Dcl) (hab : a.length = b.length) (ha : a.length ≤ 1000000) (h1 : ∀ d ∈ a, Ne.size d.l ≤ 1000000) (h2 : ∀ d ∈ b, Ne.size d.l ≤ 1000000) : ∀ (ra rb : List Dcl) (i : Nat), a.drop i = ra → b.drop i = rb → i ≤ a.length →
    Ends (exL K 18 (.loop (loopAt Tryz.f18 4)) (s7H a b i)) fun o S => (sameD ra rb = true ∧ o = .exit 0 ∧ S.nt = 55) ∨ (sameD ra rb = false ∧ o = .ret ∧ S.sl 4 = B false)
  | [], rb, i, hda, hdb, hi => by
    have hin : i = a.length := by
      have := List.drop_eq_nil_iff.1 hda
      omega
    obtain rfl : rb = [] := by rw [← hdb, hin, hab, List.drop_length]
    subst hin
    conv in loopAt _ _ => whnf
    rw [exL_loop]
    simp only [go_sem, Nat.reduceLT, reduceCtorEq, Nat.reduceEqDiff, Nat.reduceBEq, Nat.reduceAdd, ev_len_sl ty_descOf_23, keep_18_4, ends_some, sameD, eqB, encD_len]
  | x :: ra, rb, i, hda, hdb, hi => by
    obtain ⟨g1, g2, g3⟩ := drop_cons hda
    cases rb with
    | nil =>
      have := List.drop_eq_nil_iff.1 hdb
      omega
    | cons y rb =>
      obtain ⟨k1, k2, k3⟩ := drop_cons hdb
      have hlt : decide ((i : Int) < (a.length : Int)) = true := decide_eq_true (by omega)
      have ga := dcl_at a i x g1
      have gb := dcl_at b i y k1
      have hsd := VSame2_den x.l (h1 x (List.mem_of_getElem? g1)) y.l (h2 y (List.mem_of_getElem? k1))
      unfold VSame2Den at hsd
      have ih := s7_loop a b hab ha h1 h2 ra rb (i + 1) g2 k2 (by omega)
      unfold sameD at ih ⊢
      conv at ih in loopAt _ _ => whnf
      conv in loopAt _ _ => whnf
      rw [exL_loop]
      rw [eqB, sameD1]
      cases b1 : (x.name == y.name)
      · have e1 : (x.name != y.name) = true := by rw [bne, b1]; rfl
        simp only [go_sem, Nat.reduceLT, reduceCtorEq, Nat.reduceEqDiff, Nat.reduceBEq, Nat.reduceAdd, ev_len_sl ty_descOf_23, ev_indexAddr ty_descOf_23, ty_szOf_44, ty_fieldOff_44_0, ty_szOf_9, ty_shapeT_9, keep_18_4, encD_len, hlt, ga, gb, e1, Int.natCast_nonneg, ends_some]
      · have e1 : (x.name != y.name) = false := by rw [bne, b1]; rfl
        cases b2 : (x.imp == y.imp)
        · simp only [go_sem, Nat.reduceLT, reduceCtorEq, Nat.reduceEqDiff, Nat.reduceBEq, Nat.reduceAdd, ev_len_sl ty_descOf_23, ev_indexAddr ty_descOf_23, ty_szOf_44, ty_fieldOff_44_0, ty_szOf_9, ty_shapeT_9, ty_fieldOff_44_2, ty_szOf_4, ty_shapeT_4, ty_isBoolT_4, keep_18_4, encD_len, hlt, ga, gb, Int.natCast_nonneg, e1, b2, ends_some]
        · cases b3 : Ne.same x.l y.l
          · rw [b3] at hsd
            simp only [go_sem, Nat.reduceLT, reduceCtorEq, Nat.reduceEqDiff, Nat.reduceBEq, Nat.reduceAdd, ev_len_sl ty_descOf_23, ev_indexAddr ty_descOf_23, ty_szOf_44, ty_fieldOff_44_0, ty_szOf_9, ty_shapeT_9, ty_fieldOff_44_2, ty_szOf_4, ty_shapeT_4, ty_isBoolT_4, ty_fieldOff_44_1, ty_szOf_22, ty_shapeT_22, good_21, keep_18_4, encD_len, hlt, ga, gb, Int.natCast_nonneg, e1, b2, hsd, ends_some]
          · rw [b3] at hsd
            simp only [go_sem, Nat.reduceLT, reduceCtorEq, Nat.reduceEqDiff, Nat.reduceBEq, Nat.reduceAdd, ev_len_sl ty_descOf_23, ev_indexAddr ty_descOf_23, ty_szOf_44, ty_fieldOff_44_0, ty_szOf_9, ty_shapeT_9, ty_fieldOff_44_2, ty_szOf_4, ty_shapeT_4, ty_isBoolT_4, ty_fieldOff_44_1, ty_szOf_22, ty_shapeT_22, good_21, keep_18_4, encD_len, hlt, ga, gb, Int.natCast_nonneg, e1, b2, hsd, wrap_nat i (by omega)]
            rw [exL_head]
            simp only [go_sem, reduceCtorEq, Nat.reduceEqDiff, keep_18_4]
            exact ih
theorem Same7_den (a b : List Dcl) (ha : a.length ≤ 1000000) (h1 : ∀ d ∈ a, Ne.size d.l ≤ 1000000) (h2 : ∀ d ∈ b, Ne.size d.l ≤ 1000000) : den K 18 [L (encD a), L (encD b)] [] = some (.ret (B (sameD a b)) []) := by
  refine den_run rfl rfl Tryz.func18 rfl Tryz.ntmps18 ⟨by simp, by simp [LK]⟩ ?_
  have hr : Tryz.f18.results = #[.tmp 4] := rfl
  by_cases hab : a.length = b.length
  · have e0 : ((a.length : Int) != (b.length : Int)) = false := by simp [hab]
    have h := s7_loop a b hab ha h1 h2 a b 0 rfl rfl (by omega)
    conv at h in loopAt _ _ => whnf
    obtain ⟨o, S', w, hq⟩ := h
    simp only [go_sem, Nat.reduceLT, reduceCtorEq, Nat.reduceEqDiff, Nat.reduceBEq, Nat.reduceAdd, ev_len_sl ty_descOf_23, encD_len, e0]
    rw [exL_head]
    simp only [go_sem, reduceCtorEq, Nat.reduceEqDiff, keep_18_4]
    erw [w]
    rcases hq with ⟨hv, rfl, hn⟩ | ⟨hv, rfl, h6⟩
    · simp only [go_sem, Nat.reduceLT, Nat.reduceBEq, hr, hv, hn]
    · simp only [go_sem, hr, hv, h6]
  · have e0 : ((a.length : Int) != (b.length : Int)) = true := by rw [bne_iff_ne]; omega
    have hv : sameD a b = false := eqB_len hab
    simp only [go_sem, Nat.reduceLT, reduceCtorEq, Nat.reduceEqDiff, Nat.reduceBEq, Nat.reduceAdd, ev_len_sl ty_descOf_23, encD_len, e0, hr, hv]
def fewD (m : Int) (d : Dcl) : Bool := decide (0 ≤ Ne.few 100 m d.l) && decide (d.name.length ≤ 100)
def smallD (m : Int) (ds : List Dcl) : Bool := ds.all (fewD m) && decide (ds.length ≤ 20)
abbrev f7H (ds : List Dcl) (m : Int) (i : Nat) : St := { sl := upd (upd (upd bot 5 (I i)) 1 (I m)) 0 (L (encD ds)), bx := nobox, nt := 37 }
theorem f7_loop (ds : List Dcl) (m : Int) (h1 : 0 ≤ m) (h2 : m ≤ 1000000) (hl : ds.length ≤ 20) : ∀ (rest : List Dcl) (i : Nat), ds.drop i = rest → i ≤ ds.length →
    Ends (exL K 16 (.loop (loopAt Tryz.f16 2)) (f7H ds m i)) fun o S => if rest.all (fewD m) then o = .exit 0 ∧ S.nt = 37 ∧ S.sl 0 = L (encD ds) else o = .ret ∧ S.sl 4 = B false
  | [], i, hd, hi => by
    have hin : i = ds.length := by
      have := List.drop_eq_nil_iff.1 hd
      omega
    subst hin
    have hlt : decide ((ds.length : Int) < (ds.length : Int)) = false := decide_eq_false (by omega)
    conv in loopAt _ _ => whnf
    rw [exL_loop]
    simp only [go_sem, Nat.reduceLT, reduceCtorEq, Nat.reduceEqDiff, Nat.reduceBEq, Nat.reduceAdd, ev_len_sl ty_descOf_23, keep_16_2, encD_len, ends_some]
  | d :: rest, i, hd, hi => by
    obtain ⟨g1, g2, g3⟩ := drop_cons hd
    have hlt : decide ((i : Int) < (ds.length : Int)) = true := decide_eq_true (by omega)
    have h20 : decide ((ds.length : Int) ≤ 20) = true := decide_eq_true (by omega)
    have hget := dcl_at ds i d g1
    have hws : IntKind.i64.wrap ((i : Int) + 1) = ((i + 1 : Nat) : Int) := wrap_nat i (by omega)
    have hs := SmallV_den d.l m h1 h2
    have ih := f7_loop ds m h1 h2 hl rest (i + 1) g2 (by omega)
    conv at ih in loopAt _ _ => whnf
    conv in loopAt _ _ => whnf
    rw [exL_loop, List.all_cons]
    unfold fewD at ih ⊢
    cases e1 : decide (0 ≤ Ne.few 100 m d.l)
    · rw [e1] at hs
      simp only [go_sem, Nat.reduceLT, reduceCtorEq, Nat.reduceEqDiff, Nat.reduceBEq, Nat.reduceAdd, ev_len_sl ty_descOf_23, ev_indexAddr ty_descOf_23, ty_szOf_44, ty_fieldOff_44_1, ty_szOf_22, ty_shapeT_22, good_15, keep_16_2, encD_len, hlt, h20, hget, Int.natCast_nonneg, hs, ends_some]
    rw [e1] at hs
    cases e2 : decide (d.name.length ≤ 100)
    · have e3 : decide ((100 : Int) < (d.name.length : Int)) = true := decide_eq_true (by have := of_decide_eq_false e2; omega)
      simp only [go_sem, Nat.reduceLT, reduceCtorEq, Nat.reduceEqDiff, Nat.reduceBEq, Nat.reduceAdd, ev_len_sl ty_descOf_23, ev_indexAddr ty_descOf_23, ty_szOf_44, ty_fieldOff_44_1, ty_szOf_22, ty_shapeT_22, good_15, ty_fieldOff_44_0, ty_szOf_9, ty_shapeT_9, ev_len_str ty_descOf_9, keep_16_2, encD_len, hlt, h20, hget, Int.natCast_nonneg, hs, e3, ends_some]
    · have e3 : decide ((100 : Int) < (d.name.length : Int)) = false := decide_eq_false (by have := of_decide_eq_true e2; omega)
      simp only [go_sem, Nat.reduceLT, reduceCtorEq, Nat.reduceEqDiff, Nat.reduceBEq, Nat.reduceAdd, ev_len_sl ty_descOf_23, ev_indexAddr ty_descOf_23, ty_szOf_44, ty_fieldOff_44_1, ty_szOf_22, ty_shapeT_22, good_15, ty_fieldOff_44_0, ty_szOf_9, ty_shapeT_9, ev_len_str ty_descOf_9, keep_16_2, encD_len, hlt, h20, hget, Int.natCast_nonneg, hs, e3, hws]
      rw [exL_head]
      simp only [go_sem, reduceCtorEq, Nat.reduceEqDiff, keep_16_2]
      exact ih
theorem Small7_den (ds : List Dcl) (m : Int) (h1 : 0 ≤ m) (h2 : m ≤ 1000000) : den K 16 [L (encD ds), I m] [] = some (.ret (B (smallD m ds)) []) := by
  have hr : Tryz.f16.results = #[.tmp 4] := rfl
  have z0 : ((0 : Nat) : Int) = 0 := rfl
  unfold smallD
  by_cases hl : ds.length ≤ 20
  · have h := f7_loop ds m h1 h2 hl ds 0 rfl (Nat.zero_le _)
    conv at h in loopAt _ _ => whnf
    obtain ⟨o, S, w, hq⟩ := h
    simp only [f7H, z0] at w
    have h20 : decide ((ds.length : Int) ≤ 20) = true := decide_eq_true (by omega)
    have h21 : decide (ds.length ≤ 20) = true := decide_eq_true hl
    rw [h21]
    refine den_run rfl rfl Tryz.func16 rfl Tryz.ntmps16 ⟨by simp, by simp [LK]⟩ ?_
    simp only [go_sem, Nat.reduceLT, Nat.reduceBEq]
    rw [exL_head]
    simp only [go_sem, reduceCtorEq, Nat.reduceEqDiff, keep_16_2]
    erw [w]
    cases e : ds.all (fewD m)
    · rw [e] at hq
      obtain ⟨rfl, h4⟩ := hq
      simp only [go_sem, hr, h4]
    · rw [e] at hq
      obtain ⟨rfl, hn, s0⟩ := hq
      simp only [go_sem, Nat.reduceLT, Nat.reduceEqDiff, Nat.reduceBEq, Nat.reduceAdd, ev_len_sl ty_descOf_23, hr, hn, s0, encD_len, h20]
  · have h20 : decide ((ds.length : Int) ≤ 20) = false := decide_eq_false (by omega)
    have h21 : decide (ds.length ≤ 20) = false := decide_eq_false hl
    have hlt : decide ((0 : Int) < (ds.length : Int)) = true := decide_eq_true (by omega)
    rw [h21]
    refine den_run rfl rfl Tryz.func16 rfl Tryz.ntmps16 ⟨by simp, by simp [LK]⟩ ?_
    simp only [go_sem, Nat.reduceLT, Nat.reduceBEq]
    rw [exL_loop]
    simp only [go_sem, Nat.reduceLT, reduceCtorEq, Nat.reduceEqDiff, Nat.reduceBEq, Nat.reduceAdd, ev_len_sl ty_descOf_23, keep_16_2, hr, encD_len, hlt, h20]
end Go.Abs
namespace Go.Abs
open Go Go.Proofs
set_option maxRecDepth 10000
attribute [local go_sem] exL_seq exL_region exL_cond exL_block exL_scope exL_ret exL_skip exL_exit runRegion runOps stepOp guardA absOp takeOver opd avOf cvOf St.degAt St.put okPV okVal okAV absBin intBin strBin boolBin setBoxes if_true Bool.false_eq_true if_false Option.map_some Option.map_none Option.bind_some Option.bind_none thenO outOf upd List.toList_toArray isOwn steal appArgs mvB inApps AV.deg CV.deg AV.gv AV.isIter absNext some_bne some_beqN List.length_nil List.length_cons List.filterMap_cons List.filterMap_nil beq_iff_eq List.getElem?_cons_zero List.getElem?_cons_succ Option.getD_some K_hook hookB Bool.false_and Bool.and_false Bool.and_self K_P K_own absCall doCall getBoxes lend back idx dedup AV.ren CV.ren TV.ren AV.ptrs CV.ptrs zipBox AV.flat CV.flat absLoad absStore cellsOfAV setAt newBox markB bldTypes absFieldAddr absField absExtract absAssert noAssert absMkIface ifcOf CV.pv? content pushHead ownT fillCells reps pvs chunks enterSt leave resOf resVars resVar outBoxes lentOnly TV.deg TV.av LK CV.plain CV.noBld nilBin absUn bound List.map_cons List.map_nil List.all_cons List.all_nil List.any_cons List.any_nil List.contains_cons List.contains_nil List.elem_cons List.elem_nil List.cons_append List.nil_append List.append_nil List.flatMap_cons List.flatMap_nil List.zip_cons_cons List.zip_nil_left List.zip_nil_right List.take_succ_cons List.take_zero List.take_nil List.drop_succ_cons List.drop_zero List.drop_nil List.isEmpty_nil List.isEmpty_cons Bool.and_true Bool.true_and Bool.or_true Bool.true_or Bool.or_false Bool.false_or Bool.not_true Bool.not_false Nat.add_zero Nat.zero_add Option.isNone_none Option.isNone_some Option.getD_none true_and and_true not_true_eq_false not_false_eq_true decide_true decide_false Nat.le_refl and_self Bool.not_eq_true Nat.sub_self or_true true_or Option.some.injEq List.length_map List.nil_eq and_false false_and AV.live CV.live CV.liveIn K_keep firstReg Option.orElse_some Option.orElse_none head keepSlots keepBoxes Int.lt_irrefl List.length_append ite_self memOK logOps opKey lentBoxes Key.clash Key.sees Key.writes Nat.lt_irrefl gt_iff_lt nobox_at bot_at false_or or_false beq_self_eq_true Bool.true_beq Bool.false_beq
theorem Name4_den (s : List UInt8) (h : s.length < 1000000000) : den K 63 [T s] [] = some (.ret (B (Tk.may ⟨1, s, 0⟩)) []) := by
  have hr : Tryz.f63.results = #[.tmp 2] := rfl
  have m1 := May1_den ⟨1, s, 0⟩ (by unfold I64; simp) h
  simp only [Tok.cells] at m1
  refine den_run rfl rfl Tryz.func63 rfl Tryz.ntmps63 ⟨by simp, by simp [LK]⟩ ?_
  simp only [go_sem, Nat.reduceLT, reduceCtorEq, Nat.reduceEqDiff, Nat.reduceBEq, Nat.reduceAdd, Nat.reduceLeDiff, ev_build ty_zeroCells_47 ty_placesOf_47, good_116, hr, m1]
theorem val_cases (v : Val) : ∃ k t c, v = .mk k t c := by
  cases v with
  | mk a b e => exact ⟨a, b, e, rfl⟩
def endsB : List Val → Bool
  | [] => false
  | x :: r => !Sl.isBlank x && !Sl.isBlank ((x :: r).getLast (by simp))
theorem endsB_cons (x : Val) (r : List Val) : endsB (x :: r) = (!Sl.isBlank x && !Sl.isBlank ((x :: r).getLast (List.cons_ne_nil _ _))) := rfl
theorem fr_iff (x : Val) (r : List Val) : Sl.Fr (x :: r) ↔ Sl.isBlank x = false := ⟨fun h => h x r rfl, fun h => Sl.fr_cons h⟩
theorem ends_trim {l : List Val} (hne : l ≠ []) : endsB l = decide ((Sl.trim l).length = l.length) := by
  rw [Bool.eq_iff_iff, decide_eq_true_iff]
  constructor
  · intro h
    cases l with
    | nil => exact absurd rfl hne
    | cons x r =>
      unfold endsB at h
      rw [Bool.and_eq_true, Bool.not_eq_true', Bool.not_eq_true'] at h
      rw [Sl.trim_fr ((fr_iff x r).2 h.1) (by
        have e := (List.dropLast_concat_getLast (show x :: r ≠ [] by simp)).symm
        rw [e, List.reverse_append, List.reverse_singleton, List.singleton_append]
        exact (fr_iff _ _).2 h.2)]
  · intro h
    have e := Sl.trim_eq_of_len h
    cases l with
    | nil => exact absurd rfl hne
    | cons x r =>
      unfold endsB
      rw [Bool.and_eq_true, Bool.not_eq_true', Bool.not_eq_true']
      exact ⟨Sl.trim_head e, Sl.trim_last (e.trans (List.dropLast_concat_getLast (show x :: r ≠ [] by simp)).symm)⟩
def may7 (d : Dcl) : Bool := Tk.may ⟨1, d.name, 0⟩ && ((Sl.proper d.name == d.name) && (endsB d.l && (!Sl.hasSign [33] d.l && (!Sl.hasSign [59] d.l && (decide (Ne.depth d.l ≤ 56) && Ne.may 60 Tk.may d.l)))))
theorem may7_eq (d : Dcl) : may7 d = Sl.mayD d := by
  unfold may7 Sl.mayD Sl.fits
  by_cases hne : d.l = []
  · rw [hne]
    simp [endsB]
  · rw [ends_trim hne]
    have : d.l.isEmpty = false := by simpa using hne
    rw [this]
    cases Tk.may ⟨1, d.name, 0⟩ <;> cases (Sl.proper d.name == d.name) <;> cases decide ((Sl.trim d.l).length = d.l.length) <;> cases Sl.hasSign [33] d.l <;> cases Sl.hasSign [59] d.l <;> cases decide (Ne.depth d.l ≤ 56) <;> simp
theorem dcl_atN (ds : List Dcl) (i : Nat) (d : Dcl) (h : ds[i]? = some d) : (encD ds)[i]? = some [.str d.name, .sl (encL d.l), .bool d.imp] := by
  rw [encD, List.getElem?_map, h]; rfl
abbrev m7H (ds : List Dcl) (i : Nat) : St := { sl := upd (upd bot 3 (I i)) 0 (L (encD ds)), bx := nobox, nt := 71 }
noncomputable def m7lp : Code := .loop (loopAt Tryz.f25 2)
set_option maxHeartbeats 8000000 in
theorem m7_no (ds : List Dcl) (d : Dcl) (i : Nat) (hi : ds[i]? = some d) (hl : ds.length ≤ 1000000) (h : DclOk d) (hm : may7 d = false) :
    Ends (exL K 25 m7lp (m7H ds i)) fun o S => o = .ret ∧ S.sl 2 = B false := by
  have hil : i < ds.length := (List.getElem?_eq_some_iff.1 hi).1
  have hlt : decide ((i : Int) < (ds.length : Int)) = true := decide_eq_true (by omega)
  have hget := dcl_at ds i d hi
  have hgetn := dcl_atN ds i d hi
  have hws : IntKind.i64.wrap ((i : Int) + 1) = ((i + 1 : Nat) : Int) := wrap_nat i (by omega)
  have hll := Ne.length_size d.l
  have hsz := h.size
  have n1 := Name4_den d.name h.name
  have p1 := Proper7_den d.name h.name
  have g1 := signs7_den d.l [33] (by omega)
  have g2 := signs7_den d.l [59] (by omega)
  have d1 := Depth2_den d.l (by omega)
  have y1 := May2_den d.l h.size h.tok
  unfold may7 at hm
  unfold m7lp
  conv in loopAt _ _ => whnf
  cases b1 : Tk.may ⟨1, d.name, 0⟩
  · rw [b1] at n1
    rw [exL_loop]
    simp only [go_sem, Nat.reduceLT, reduceCtorEq, Nat.reduceEqDiff, Nat.reduceBEq, Nat.reduceAdd, ev_len_sl ty_descOf_23, ev_indexAddr ty_descOf_23, ty_szOf_44, ty_shapeT_44, ty_zeroCells_44, ty_fieldOff_44_1, ty_szOf_22, ty_shapeT_22, ev_len_sl ty_descOf_22, ty_fieldOff_44_0, ty_szOf_9, ty_shapeT_9, good_63, keep_25_2, encD_len, encL_len, hlt, hget, Int.natCast_nonneg, n1, ends_some]
  rw [b1] at n1 hm
  cases b2 : (Sl.proper d.name == d.name)
  · have e2 : (Sl.proper d.name != d.name) = true := by rw [bne, b2]; rfl
    rw [exL_loop]
    simp only [go_sem, Nat.reduceLT, reduceCtorEq, Nat.reduceEqDiff, Nat.reduceBEq, Nat.reduceAdd, ev_len_sl ty_descOf_23, ev_indexAddr ty_descOf_23, ty_szOf_44, ty_shapeT_44, ty_zeroCells_44, ty_fieldOff_44_1, ty_szOf_22, ty_shapeT_22, ev_len_sl ty_descOf_22, ty_fieldOff_44_0, ty_szOf_9, ty_shapeT_9, good_63, good_34, keep_25_2, encD_len, encL_len, hlt, hget, Int.natCast_nonneg, n1, p1, e2, ends_some]
  have e2 : (Sl.proper d.name != d.name) = false := by rw [bne, b2]; rfl
  rw [b2] at hm
  cases hd : d.l with
  | nil =>
    rw [hd] at hget hgetn hm
    have q0 : (((0 : Nat) : Int) == 0) = true := rfl
    rw [exL_loop]
    simp only [go_sem, Nat.reduceLT, reduceCtorEq, Nat.reduceEqDiff, Nat.reduceBEq, Nat.reduceAdd, ev_len_sl ty_descOf_23, ev_indexAddr ty_descOf_23, ty_szOf_44, ty_shapeT_44, ty_zeroCells_44, ty_fieldOff_44_1, ty_szOf_22, ty_shapeT_22, ev_len_sl ty_descOf_22, ty_fieldOff_44_0, ty_szOf_9, ty_shapeT_9, good_63, good_34, keep_25_2, encD_len, encL_len, hlt, hget, Int.natCast_nonneg, n1, p1, e2, q0, ends_some]
  | cons x r =>
    obtain ⟨k, t, c⟩ := x
    rw [hd] at hget hgetn g1 g2 d1 y1 hll hm hsz
    rw [List.length_cons] at hll
    have q0 : (((r.length + 1 : Nat) : Int) == 0) = false := by rw [beq_eq_false_iff_ne]; omega
    have hg0 := head_val k t c r
    have hb0 := blank_den k t c
    rw [endsB_cons] at hm
    cases b3 : Sl.isBlank (.mk k t c)
    case true =>
      rw [b3] at hb0
      rw [exL_loop]
      simp only [go_sem, Nat.reduceLT, reduceCtorEq, Nat.reduceEqDiff, Nat.reduceBEq, Nat.reduceAdd, ev_len_sl ty_descOf_23, ev_indexAddr ty_descOf_23, ty_szOf_44, ty_shapeT_44, ty_zeroCells_44, ty_fieldOff_44_1, ty_szOf_22, ty_shapeT_22, ev_len_sl ty_descOf_22, ty_fieldOff_44_0, ty_szOf_9, ty_shapeT_9, good_63, good_34, ev_indexAddr ty_descOf_22, ty_szOf_49, ty_shapeT_49, good_33, keep_25_2, encD_len, encL_len, List.length_cons, hlt, hget, Int.natCast_nonneg, n1, p1, e2, q0, le00, hg0, hb0, ends_some]
    rw [b3] at hb0 hm
    have hw : IntKind.i64.wrap (((r.length + 1 : Nat) : Int) - 1) = (r.length : Int) := by rw [IntWalk.i64_in _ (by omega)]; omega
    obtain ⟨k2, t2, c2, hlast⟩ := val_cases ((Val.mk k t c :: r).getLast (List.cons_ne_nil _ _))
    have hgl := val_atN (.mk k t c :: r) r.length k2 t2 c2 (by
      rw [← hlast, List.getLast_eq_getElem]
      simp)
    have hbl := blank_den k2 t2 c2
    rw [hlast] at hm
    cases b4 : Sl.isBlank (.mk k2 t2 c2)
    case true =>
      rw [b4] at hbl
      rw [exL_loop]
      simp only [go_sem, Nat.reduceLT, reduceCtorEq, Nat.reduceEqDiff, Nat.reduceBEq, Nat.reduceAdd, ev_len_sl ty_descOf_23, ev_indexAddr ty_descOf_23, ty_szOf_44, ty_shapeT_44, ty_zeroCells_44, ty_fieldOff_44_1, ty_szOf_22, ty_shapeT_22, ev_len_sl ty_descOf_22, ty_fieldOff_44_0, ty_szOf_9, ty_shapeT_9, good_63, good_34, ev_indexAddr ty_descOf_22, ty_szOf_49, ty_shapeT_49, good_33, keep_25_2, encD_len, encL_len, List.length_cons, hlt, Int.natCast_nonneg, Int.toNat_natCast, hgetn, n1, p1, e2, q0, le00, hg0, hb0, hw, hgl, hbl, ends_some]
    rw [b4] at hbl hm
    cases b5 : Sl.hasSign [33] (.mk k t c :: r)
    case true =>
      rw [b5] at g1
      rw [exL_loop]
      simp only [go_sem, Nat.reduceLT, reduceCtorEq, Nat.reduceEqDiff, Nat.reduceBEq, Nat.reduceAdd, ev_len_sl ty_descOf_23, ev_indexAddr ty_descOf_23, ty_szOf_44, ty_shapeT_44, ty_zeroCells_44, ty_fieldOff_44_1, ty_szOf_22, ty_shapeT_22, ev_len_sl ty_descOf_22, ty_fieldOff_44_0, ty_szOf_9, ty_shapeT_9, good_63, good_34, ev_indexAddr ty_descOf_22, ty_szOf_49, ty_shapeT_49, good_33, good_64, keep_25_2, encD_len, encL_len, List.length_cons, hlt, Int.natCast_nonneg, Int.toNat_natCast, hgetn, n1, p1, e2, q0, le00, hg0, hb0, hw, hgl, hbl, g1, ends_some]
    rw [b5] at g1 hm
    cases b6 : Sl.hasSign [59] (.mk k t c :: r)
    case true =>
      rw [b6] at g2
      rw [exL_loop]
      simp only [go_sem, Nat.reduceLT, reduceCtorEq, Nat.reduceEqDiff, Nat.reduceBEq, Nat.reduceAdd, ev_len_sl ty_descOf_23, ev_indexAddr ty_descOf_23, ty_szOf_44, ty_shapeT_44, ty_zeroCells_44, ty_fieldOff_44_1, ty_szOf_22, ty_shapeT_22, ev_len_sl ty_descOf_22, ty_fieldOff_44_0, ty_szOf_9, ty_shapeT_9, good_63, good_34, ev_indexAddr ty_descOf_22, ty_szOf_49, ty_shapeT_49, good_33, good_64, keep_25_2, encD_len, encL_len, List.length_cons, hlt, Int.natCast_nonneg, Int.toNat_natCast, hgetn, n1, p1, e2, q0, le00, hg0, hb0, hw, hgl, hbl, g1, g2, ends_some]
    rw [b6] at g2 hm
    cases b7 : decide (Ne.depth (.mk k t c :: r) ≤ 56)
    · have e7 : decide ((56 : Int) < ((Ne.depth (.mk k t c :: r) : Nat) : Int)) = true := decide_eq_true (by have := of_decide_eq_false b7; omega)
      rw [exL_loop]
      simp only [go_sem, Nat.reduceLT, reduceCtorEq, Nat.reduceEqDiff, Nat.reduceBEq, Nat.reduceAdd, ev_len_sl ty_descOf_23, ev_indexAddr ty_descOf_23, ty_szOf_44, ty_shapeT_44, ty_zeroCells_44, ty_fieldOff_44_1, ty_szOf_22, ty_shapeT_22, ev_len_sl ty_descOf_22, ty_fieldOff_44_0, ty_szOf_9, ty_shapeT_9, good_63, good_34, ev_indexAddr ty_descOf_22, ty_szOf_49, ty_shapeT_49, good_33, good_64, good_65, keep_25_2, encD_len, encL_len, List.length_cons, hlt, Int.natCast_nonneg, Int.toNat_natCast, hgetn, n1, p1, e2, q0, le00, hg0, hb0, hw, hgl, hbl, g1, g2, d1, e7, ends_some]
    have e7 : decide ((56 : Int) < ((Ne.depth (.mk k t c :: r) : Nat) : Int)) = false := decide_eq_false (by have := of_decide_eq_true b7; omega)
    rw [b7] at hm
    cases b8 : Ne.may 60 Tk.may (.mk k t c :: r)
    · rw [b8] at y1
      rw [exL_loop]
      simp only [go_sem, Nat.reduceLT, reduceCtorEq, Nat.reduceEqDiff, Nat.reduceBEq, Nat.reduceAdd, ev_len_sl ty_descOf_23, ev_indexAddr ty_descOf_23, ty_szOf_44, ty_shapeT_44, ty_zeroCells_44, ty_fieldOff_44_1, ty_szOf_22, ty_shapeT_22, ev_len_sl ty_descOf_22, ty_fieldOff_44_0, ty_szOf_9, ty_shapeT_9, good_63, good_34, ev_indexAddr ty_descOf_22, ty_szOf_49, ty_shapeT_49, good_33, good_64, good_65, good_66, keep_25_2, encD_len, encL_len, List.length_cons, hlt, Int.natCast_nonneg, Int.toNat_natCast, hgetn, n1, p1, e2, q0, le00, hg0, hb0, hw, hgl, hbl, g1, g2, d1, e7, y1, ends_some]
    · rw [b8] at hm
      exact absurd hm (by simp)
set_option maxHeartbeats 8000000 in
theorem m7_yes (ds : List Dcl) (d : Dcl) (i : Nat) (hi : ds[i]? = some d) (hl : ds.length ≤ 1000000) (h : DclOk d) (hm : may7 d = true) :
    exL K 25 m7lp (m7H ds i) = exL K 25 m7lp (m7H ds (i + 1)) := by
  have hil : i < ds.length := (List.getElem?_eq_some_iff.1 hi).1
  have hlt : decide ((i : Int) < (ds.length : Int)) = true := decide_eq_true (by omega)
  have hget := dcl_at ds i d hi
  have hgetn := dcl_atN ds i d hi
  have hws : IntKind.i64.wrap ((i : Int) + 1) = ((i + 1 : Nat) : Int) := wrap_nat i (by omega)
  have hll := Ne.length_size d.l
  have hsz := h.size
  have n1 := Name4_den d.name h.name
  have p1 := Proper7_den d.name h.name
  have g1 := signs7_den d.l [33] (by omega)
  have g2 := signs7_den d.l [59] (by omega)
  have d1 := Depth2_den d.l (by omega)
  have y1 := May2_den d.l h.size h.tok
  unfold may7 at hm
  simp only [Bool.and_eq_true, Bool.not_eq_true'] at hm
  obtain ⟨b1, b2, b34, b5, b6, b7, b8⟩ := hm
  have e2 : (Sl.proper d.name != d.name) = false := by rw [bne, b2]; rfl
  rw [b1] at n1
  rw [b5] at g1
  rw [b6] at g2
  rw [b8] at y1
  have e7 : decide ((56 : Int) < ((Ne.depth d.l : Nat) : Int)) = false := decide_eq_false (by have := of_decide_eq_true b7; omega)
  unfold m7lp
  conv in loopAt _ _ => whnf
  conv in loopAt _ _ => whnf
  cases hd : d.l with
  | nil => rw [hd] at b34; exact absurd b34 (by simp [endsB])
  | cons x r =>
    obtain ⟨k, t, c⟩ := x
    rw [hd] at hget hgetn g1 g2 d1 y1 hll b34 e7 hsz
    rw [List.length_cons] at hll
    have q0 : (((r.length + 1 : Nat) : Int) == 0) = false := by rw [beq_eq_false_iff_ne]; omega
    have hg0 := head_val k t c r
    have hb0 := blank_den k t c
    rw [endsB_cons] at b34
    simp only [Bool.and_eq_true, Bool.not_eq_true'] at b34
    rw [b34.1] at hb0
    have hw : IntKind.i64.wrap (((r.length + 1 : Nat) : Int) - 1) = (r.length : Int) := by rw [IntWalk.i64_in _ (by omega)]; omega
    obtain ⟨k2, t2, c2, hlast⟩ := val_cases ((Val.mk k t c :: r).getLast (List.cons_ne_nil _ _))
    have hgl := val_atN (.mk k t c :: r) r.length k2 t2 c2 (by
      rw [← hlast, List.getLast_eq_getElem]
      simp)
    have hbl := blank_den k2 t2 c2
    have b4 := b34.2
    rw [hlast] at b4
    rw [b4] at hbl
    conv in exL _ _ _ (m7H ds i) => rw [exL_loop]
    simp only [go_sem, Nat.reduceLT, reduceCtorEq, Nat.reduceEqDiff, Nat.reduceBEq, Nat.reduceAdd, ev_len_sl ty_descOf_23, ev_indexAddr ty_descOf_23, ty_szOf_44, ty_shapeT_44, ty_zeroCells_44, ty_fieldOff_44_1, ty_szOf_22, ty_shapeT_22, ev_len_sl ty_descOf_22, ty_fieldOff_44_0, ty_szOf_9, ty_shapeT_9, good_63, good_34, ev_indexAddr ty_descOf_22, ty_szOf_49, ty_shapeT_49, good_33, good_64, good_65, good_66, keep_25_2, encD_len, encL_len, List.length_cons, hlt, Int.natCast_nonneg, Int.toNat_natCast, hgetn, n1, p1, e2, q0, le00, hg0, hb0, hw, hgl, hbl, g1, g2, d1, e7, y1, hws]
    rw [exL_head]
    simp only [go_sem, reduceCtorEq, Nat.reduceEqDiff, keep_25_2]
theorem m7_loop (ds : List Dcl) (hl : ds.length ≤ 1000000) (h : ∀ d ∈ ds, DclOk d) : ∀ (rest : List Dcl) (i : Nat), ds.drop i = rest → i ≤ ds.length →
    Ends (exL K 25 m7lp (m7H ds i)) fun o S => if rest.all may7 then o = .exit 0 ∧ S.nt = 71 else o = .ret ∧ S.sl 2 = B false
  | [], i, hd, hi => by
    have hin : i = ds.length := by
      have := List.drop_eq_nil_iff.1 hd
      omega
    subst hin
    have hlt : decide ((ds.length : Int) < (ds.length : Int)) = false := decide_eq_false (by omega)
    unfold m7lp
    conv in loopAt _ _ => whnf
    rw [exL_loop]
    simp only [go_sem, Nat.reduceLT, reduceCtorEq, Nat.reduceEqDiff, Nat.reduceBEq, Nat.reduceAdd, ev_len_sl ty_descOf_23, keep_25_2, encD_len, ends_some]
  | d :: rest, i, hd, hi => by
    obtain ⟨g1, g2, g3⟩ := drop_cons hd
    rw [List.all_cons]
    cases e : may7 d
    · rw [Bool.false_and]
      exact ends_imp (m7_no ds d i g1 hl (h d (List.mem_of_getElem? g1)) e) fun o S q => by rw [if_neg (by simp)]; exact q
    · rw [Bool.true_and, m7_yes ds d i g1 hl (h d (List.mem_of_getElem? g1)) e]
      exact m7_loop ds hl h rest (i + 1) g2 (by omega)
theorem May7_den (ds : List Dcl) (hl : ds.length ≤ 1000000) (h : ∀ d ∈ ds, DclOk d) : den K 25 [L (encD ds)] [] = some (.ret (B (ds.all Sl.mayD)) []) := by
  have hq := m7_loop ds hl h ds 0 rfl (Nat.zero_le _)
  have e : ds.all may7 = ds.all Sl.mayD := by
    congr 1
    funext d
    exact may7_eq d
  rw [e] at hq
  unfold m7lp at hq
  conv at hq in loopAt _ _ => whnf
  obtain ⟨o, S, w, hq⟩ := hq
  have z0 : ((0 : Nat) : Int) = 0 := rfl
  simp only [m7H, z0] at w
  have hr : Tryz.f25.results = #[.tmp 2] := rfl
  refine den_run rfl rfl Tryz.func25 rfl Tryz.ntmps25 ⟨by simp, by simp [LK]⟩ ?_
  simp only [go_sem, Nat.reduceLT, Nat.reduceBEq]
  rw [exL_head]
  simp only [go_sem, reduceCtorEq, Nat.reduceEqDiff, keep_25_2]
  erw [w]
  cases e : ds.all Sl.mayD
  · rw [e] at hq
    obtain ⟨rfl, h2⟩ := hq
    simp only [go_sem, hr, h2]
  · rw [e] at hq
    obtain ⟨rfl, hn⟩ := hq
    simp only [go_sem, Nat.reduceLT, Nat.reduceBEq, hr, hn]
end Go.Abs
namespace Go.Abs
open Go Go.Proofs
theorem flat_small {l : List Val} {m : Nat} (hm : 1 ≤ m) (h1 : Ne.allT (fun t => I64 t.n) l) (h2 : Ne.allT (fun t => t.text.length ≤ m) l) : ∀ t ∈ Ne.flat l, I64 t.n ∧ t.text.length ≤ m :=
  Ne.flat_all (fun c => ⟨by simp [I64], by simpa using hm⟩) l (Ne.allT_and l h1 h2)
theorem tokOk_of {l : List Tok} {m : Nat} (hm : m < 1000000000) (h : ∀ t ∈ l, I64 t.n ∧ t.text.length ≤ m) : ∀ t ∈ l, TokOk t := fun t ht => ⟨(h t ht).1, by have := (h t ht).2; omega⟩
end Go.Abs
namespace Go.Abs
open Go Go.Proofs
set_option maxRecDepth 100000
theorem fixed7_run : callN K 400 17 [] [] = some (.ret (B true) []) := by kernel_rfl
theorem fixed7_den : den K 17 [] [] = some (.ret (B true) []) := den_iff.2 ⟨400, fixed7_run⟩
end Go.Abs
namespace Go.Abs
open Go Go.Proofs
theorem named_flat {l : List Val} {v : Val} (hv : v ∈ l) (hn : Sl.isNamed v = true) : ∃ t ∈ Ne.flat l, Sl.nameT v = t.text := by
  obtain ⟨k, t, c⟩ := v
  have hk : k = 1 := by
    have : (k == 1 && t.kind == 1) = true := hn
    simp at this; exact this.1
  subst hk
  exact ⟨t, Sl.flat_memR.2 ⟨_, hv, by rw [Ne.flatV, if_pos rfl]; simp⟩, rfl⟩
theorem txtOk_flat {l : List Val} (h : ∀ t ∈ Ne.flat l, TokOk t) : TxtOk l := fun v hv hn => by
  obtain ⟨t, ht, e⟩ := named_flat hv hn
  rw [e]
  exact (h t ht).2
theorem declV_size (d : Dcl) : Ne.size (Sl.declV d) ≤ Ne.size d.l + 4 := by
  have h1 : Ne.sizeV (Sl.iv d.name) = 1 := rfl
  have h2 : Ne.sizeV (Sl.dv 58) = 1 := rfl
  unfold Sl.declV
  rw [Ne.size, Ne.size, size_app, h1, h2]
  cases d.imp
  · have : Ne.size (if false = true then [Sl.dv 33, Sl.iv Sl.importantT] else []) = 0 := rfl
    omega
  · have : Ne.size (if true = true then [Sl.dv 33, Sl.iv Sl.importantT] else []) = 2 := rfl
    omega
theorem sameD_refl : ∀ l : List Dcl, sameD l l = true
  | [] => rfl
  | d :: l => by
    have h := sameD_refl l
    unfold sameD at h ⊢
    rw [eqB, h, sameD1, same_refl]
    simp
structure DclI (d : Dcl) : Prop where
  i : Ne.allT (fun t => I64 t.n) d.l
theorem fewD_ok {d : Dcl} {m : Int} (hm : m ≤ 1000) (h : fewD m d = true) (hi : DclI d) : DclOk d ∧ (Ne.size d.l : Int) ≤ m ∧ d.name.length ≤ 100 ∧ Ne.allT (fun t => t.text.length ≤ 100) d.l := by
  unfold fewD at h
  rw [Bool.and_eq_true, decide_eq_true_iff, decide_eq_true_iff] at h
  obtain ⟨h1, h2⟩ := few_facts h.1
  exact ⟨⟨by omega, by omega, flat_ok hi.i h2⟩, h1, h.2, h2⟩
theorem smallD_ok {ds : List Dcl} {m : Int} (hm : m ≤ 1000) (h : smallD m ds = true) (hi : ∀ d ∈ ds, DclI d) : ds.length ≤ 20 ∧ (∀ d ∈ ds, DclOk d ∧ (Ne.size d.l : Int) ≤ m ∧ d.name.length ≤ 100 ∧ Ne.allT (fun t => t.text.length ≤ 100) d.l) := by
  unfold smallD at h
  rw [Bool.and_eq_true, decide_eq_true_iff, List.all_eq_true] at h
  exact ⟨h.2, fun d hd => fewD_ok hm (h.1 d hd) (hi d hd)⟩
theorem mem_joins {v : Val} {s : List UInt8} : ∀ {ps : List (List Val)}, v ∈ Sl.joins s ps → v = Sl.signV s ∨ ∃ p ∈ ps, v ∈ p
  | [], h => by rw [Sl.joins_nil] at h; cases h
  | p :: ps, h => by
    rw [Sl.joins_cons] at h
    rcases List.mem_cons.1 h with h | h
    · exact .inl h
    rcases List.mem_append.1 h with h | h
    · exact .inr ⟨p, by simp, h⟩
    · rcases mem_joins h with h | ⟨q, hq, h⟩
      · exact .inl h
      · exact .inr ⟨q, by simp [hq], h⟩
theorem mem_vals {v : Val} {ds : List Dcl} (h : v ∈ Sl.valsD ds) : v = Sl.signV [59] ∨ ∃ d ∈ ds, v ∈ Sl.declV d := by
  unfold Sl.valsD at h
  cases ds with
  | nil => cases h
  | cons d ds =>
    rw [List.map_cons, Sl.join] at h
    rcases List.mem_append.1 h with h | h
    · exact .inr ⟨d, by simp, h⟩
    · rcases mem_joins h with h | ⟨q, hq, h⟩
      · exact .inl h
      · obtain ⟨x, hx, rfl⟩ := List.mem_map.1 hq
        exact .inr ⟨x, by simp [hx], h⟩
theorem tv_flat {t u : Tok} (h : u ∈ Ne.flatV (Sl.tv t)) : u = t := by
  rw [Sl.tv, Ne.flatV, if_pos rfl] at h
  simpa using h
theorem vals_flat {ds : List Dcl} (h : ∀ d ∈ ds, d.name.length ≤ 100 ∧ DclI d ∧ Ne.allT (fun t => t.text.length ≤ 100) d.l) : ∀ t ∈ Ne.flat (Sl.valsD ds), I64 t.n ∧ t.text.length ≤ 100 := fun t ht => by
  obtain ⟨v, hv, ht⟩ := Sl.flat_memR.1 ht
  rcases mem_vals hv with rfl | ⟨d, hd, hv⟩
  · obtain rfl := tv_flat (t := ⟨7, [59], 0⟩) ht
    exact ⟨by unfold I64; simp, by simp⟩
  · obtain ⟨h1, h2, h3⟩ := h d hd
    unfold Sl.declV at hv
    rcases List.mem_cons.1 hv with rfl | hv
    · obtain rfl := tv_flat (t := ⟨1, d.name, 0⟩) ht
      exact ⟨by unfold I64; simp, h1⟩
    rcases List.mem_cons.1 hv with rfl | hv
    · obtain rfl := tv_flat (t := ⟨7, [58], 0⟩) ht
      exact ⟨by unfold I64; simp, by simp⟩
    rcases List.mem_append.1 hv with hv | hv
    · exact flat_small (by decide) h2.i h3 t (Sl.flat_memR.2 ⟨v, hv, ht⟩)
    · split at hv
      · simp only [List.mem_cons, List.not_mem_nil, or_false] at hv
        rcases hv with rfl | rfl
        · obtain rfl := tv_flat (t := ⟨7, [33], 0⟩) ht
          exact ⟨by unfold I64; simp, by simp⟩
        · obtain rfl := tv_flat (t := ⟨1, Sl.importantT, 0⟩) ht
          exact ⟨by unfold I64; simp, by decide⟩
      · cases hv
end Go.Abs
namespace Go.Abs
open Go Go.Proofs
set_option maxRecDepth 10000
attribute [local go_sem] exL_seq exL_region exL_cond exL_block exL_scope exL_ret exL_skip exL_exit runRegion runOps stepOp guardA absOp takeOver opd avOf cvOf St.degAt St.put okPV okVal okAV absBin intBin strBin boolBin setBoxes if_true Bool.false_eq_true if_false Option.map_some Option.map_none Option.bind_some Option.bind_none thenO outOf upd List.toList_toArray isOwn steal appArgs mvB inApps AV.deg CV.deg AV.gv AV.isIter absNext some_bne some_beqN List.length_nil List.length_cons List.filterMap_cons List.filterMap_nil beq_iff_eq List.getElem?_cons_zero List.getElem?_cons_succ Option.getD_some K_hook hookB Bool.false_and Bool.and_false Bool.and_self K_P K_own absCall doCall getBoxes lend back idx dedup AV.ren CV.ren TV.ren AV.ptrs CV.ptrs zipBox AV.flat CV.flat absLoad absStore cellsOfAV setAt newBox markB bldTypes absFieldAddr absField absExtract absAssert noAssert absMkIface ifcOf CV.pv? content pushHead ownT fillCells reps pvs chunks enterSt leave resOf resVars resVar outBoxes lentOnly TV.deg TV.av LK CV.plain CV.noBld nilBin absUn bound List.map_cons List.map_nil List.all_cons List.all_nil List.any_cons List.any_nil List.contains_cons List.contains_nil List.elem_cons List.elem_nil List.cons_append List.nil_append List.append_nil List.flatMap_cons List.flatMap_nil List.zip_cons_cons List.zip_nil_left List.zip_nil_right List.take_succ_cons List.take_zero List.take_nil List.drop_succ_cons List.drop_zero List.drop_nil List.isEmpty_nil List.isEmpty_cons Bool.and_true Bool.true_and Bool.or_true Bool.true_or Bool.or_false Bool.false_or Bool.not_true Bool.not_false Nat.add_zero Nat.zero_add Option.isNone_none Option.isNone_some Option.getD_none true_and and_true not_true_eq_false not_false_eq_true decide_true decide_false Nat.le_refl and_self Bool.not_eq_true Nat.sub_self or_true true_or Option.some.injEq List.length_map List.nil_eq and_false false_and AV.live CV.live CV.liveIn K_keep firstReg Option.orElse_some Option.orElse_none head keepSlots keepBoxes Int.lt_irrefl List.length_append ite_self memOK logOps opKey lentBoxes Key.clash Key.sees Key.writes Nat.lt_irrefl gt_iff_lt nobox_at bot_at false_or or_false beq_self_eq_true Bool.true_beq Bool.false_beq
theorem vals_one (d : Dcl) : Sl.valsD [d] = Sl.declV d := by
  show Sl.declV d ++ Sl.joins [59] [] = _
  rw [Sl.joins_nil, List.append_nil]
theorem encD_one (d : Dcl) : encD [d] = [[.str d.name, .sl (encL d.l), .bool d.imp]] := rfl
set_option maxHeartbeats 8000000 in
theorem DeclsStrong_den (d : Dcl) (hI : DclI d) : den K 7 [.agg (dclCv d)] [] = some (.ret (B true) []) := by
  have hf := fixed7_den
  have hs7 := Small7_den [d] 60 (by omega) (by omega)
  rw [encD_one] at hs7
  have hr : Tryz.f7.results = #[.tmp 2] := rfl
  cases hsd : smallD 60 [d]
  · rw [hsd] at hs7
    refine den_run rfl rfl Tryz.func7 rfl Tryz.ntmps7 ⟨by simp, by simp [LK]⟩ ?_
    simp only [go_sem, Nat.reduceLT, Nat.reduceEqDiff, Nat.reduceBEq, Nat.reduceAdd, Nat.reduceSub, Nat.reduceLeDiff, Nat.reduceMul, good_17, ty_shapeT_44, ev_buildSlice (len := 1) ty_descOf_23 ty_szOf_44 ty_zeroCells_44 ⟨rfl, by decide, by decide⟩, good_16, hr, hf, hs7]
  rw [hsd] at hs7
  obtain ⟨_, hlo⟩ := smallD_ok (by omega) hsd (by simpa using hI)
  obtain ⟨h1, h2, h3, h4⟩ := hlo d (by simp)
  have m7 := May7_den [d] (by simp) (by simpa using h1)
  rw [encD_one] at m7
  cases hm : [d].all Sl.mayD
  · rw [hm] at m7
    refine den_run rfl rfl Tryz.func7 rfl Tryz.ntmps7 ⟨by simp, by simp [LK]⟩ ?_
    simp only [go_sem, Nat.reduceLT, Nat.reduceEqDiff, Nat.reduceBEq, Nat.reduceAdd, Nat.reduceSub, Nat.reduceLeDiff, Nat.reduceMul, good_17, ty_shapeT_44, ev_buildSlice (len := 1) ty_descOf_23 ty_szOf_44 ty_zeroCells_44 ⟨rfl, by decide, by decide⟩, good_16, good_25, hr, hf, hs7, m7]
  rw [hm] at m7
  have hM : Sl.May d := Sl.may_May.1 (by simpa using hm)
  have hll := Ne.length_size d.l
  have key : ∀ b : Bool, den K 22 [L [[.str d.name, .sl (encL d.l), .bool b]]] [] = some (.ret (L (encL (Sl.declV { d with imp := b }))) []) ∧
      den K 19 [L (encL (Sl.declV { d with imp := b }))] [] = some (.ret (L [[.str d.name, .sl (encL d.l), .bool b]]) []) ∧
      den K 18 [L [[.str d.name, .sl (encL d.l), .bool b]], L [[.str d.name, .sl (encL d.l), .bool b]]] [] = some (.ret (B true) []) ∧ Ne.size (Sl.declV { d with imp := b }) ≤ 64 := fun b => by
    have hMb := hM.imp b
    have hsz := declV_size { d with imp := b }
    have hsz2 : Ne.size ({ d with imp := b } : Dcl).l = Ne.size d.l := rfl
    have hle := Ne.length_size (Sl.declV { d with imp := b })
    have v1 := ValsD_den [{ d with imp := b }] (by simp) (by simp; omega) (by rw [vals_one]; omega)
    have hvf := vals_flat (ds := [{ d with imp := b }]) (by
      intro x hx
      rw [List.mem_singleton] at hx
      subst hx
      exact ⟨h3, ⟨hI.i⟩, h4⟩)
    rw [vals_one] at v1 hvf
    have p1 := ParseD_den (Sl.declV { d with imp := b }) (by omega) (txtOk_flat (tokOk_of (by omega) hvf))
    have hpv := Sl.parse_vals (ds := [{ d with imp := b }]) (by
      intro x hx
      rw [List.mem_singleton] at hx
      subst hx
      exact hMb)
    rw [vals_one] at hpv
    rw [hpv] at p1
    have q1 := Same7_den [{ d with imp := b }] [{ d with imp := b }] (by simp) (by simp; omega) (by simp; omega)
    rw [sameD_refl] at q1
    exact ⟨v1, p1, q1, by omega⟩
  obtain ⟨v1, p1, q1, z1⟩ := key true
  obtain ⟨v2, p2, q2, z2⟩ := key false
  have hss : sameD [{ d with imp := true }] [{ d with imp := false }] = false := by simp [sameD, eqB, sameD1]
  have s1 := SameD_den [{ d with imp := true }] [{ d with imp := false }] (by simp) (by simp; omega) (by simp; omega)
  rw [hss, encD_one, encD_one] at s1
  have hw1 : Sl.declV { d with imp := true } = Sl.declV { d with imp := false } ++ [Sl.dv 33, Sl.iv Sl.importantT] := by
    simp [Sl.declV]
  rw [hw1] at v1 p1 z1
  have l2 := Ne.length_size (Sl.declV { d with imp := false })
  generalize Sl.declV { d with imp := false } = b at v1 p1 z1 v2 p2 z2 l2
  have hbl : (encL (b ++ [Sl.dv 33, Sl.iv Sl.importantT])).length = b.length + 2 := by rw [encL_len]; simp
  have hw : IntKind.i64.wrap ((b.length : Int) + 2) = ((b.length + 2 : Nat) : Int) := by rw [IntWalk.i64_in _ (by omega)]; omega
  have hne : (((b.length + 2 : Nat) : Int) != ((b.length + 2 : Nat) : Int)) = false := by simp
  have hb1 : ((b.length : Int) ≤ ((b.length + 2 : Nat) : Int)) = True := by rw [eq_iff_iff]; simp; omega
  have hct := cut_to b [Sl.dv 33, Sl.iv Sl.importantT]
  have hlv := lens_valsK (b ++ [Sl.dv 33, Sl.iv Sl.importantT])
  rw [List.drop_zero] at hct
  have e2 := VSame2_den b (by omega) b (by omega)
  unfold VSame2Den at e2
  rw [same_refl] at e2
  refine den_run rfl rfl Tryz.func7 rfl Tryz.ntmps7 ⟨by simp, by simp [LK]⟩ ?_
  simp (maxSteps := 10000000) only [go_sem, Nat.reduceLT, Nat.reduceEqDiff, Nat.reduceBEq, Nat.reduceAdd, Nat.reduceSub, Nat.reduceLeDiff, Nat.reduceMul, good_17, ty_shapeT_44, ev_buildSlice (len := 1) ty_descOf_23 ty_szOf_44 ty_zeroCells_44 ⟨rfl, by decide, by decide⟩, good_16, good_25, ty_zeroCells_44, ty_szOf_44, hr, hf, hs7, m7]
  repeat (first
    | (rw [reach_and]; rotate_left; (· kernel_rfl))
    | (rw [reach_if]; rotate_left; (· kernel_rfl); simp (maxSteps := 10000000) only [go_sem, Nat.reduceLT, Nat.reduceEqDiff, Nat.reduceBEq, Nat.reduceAdd, Nat.reduceSub, Nat.reduceLeDiff, Nat.reduceMul, ty_shapeT_44, ev_buildSlice (len := 1) ty_descOf_23 ty_szOf_44 ty_zeroCells_44 ⟨rfl, by decide, by decide⟩, ty_fieldOff_44_2, ty_szOf_4, good_22, ev_len_sl ty_descOf_22, ev_slice_sl ty_descOf_22 ty_szOf_49, good_21, good_19, good_18, good_28, v1, v2, p1, p2, q1, q2, s1, hbl, encL_len, hw, hne, Int.natCast_nonneg, Int.toNat_natCast, hb1, hlv, hct, e2]))
end Go.Abs
namespace Go.Abs
open Go Go.Proofs Go.ChangeShapes Go.WideShapes Go.ChangeAt Go.RowKit
def TyP (P : Program) : Nat → TypeId → List PV → Prop
  | 0, _, _ => False
  | n + 1, t, ps =>
    match P.underlying t with
    | some .bool => ∃ b, ps = [.bool b]
    | some (.int k) => ∃ z, ps = [.int k z] ∧ (Lit.int k z).wf = true
    | some .string => ∃ s, ps = [.str s] ∧ s.length ≤ reachBytes
    | some (.slice e) => ∃ c, ps = [.sl c] ∧ c.length ≤ reachBytes ∧ ∀ el ∈ c, TyP P n e el
    | some (.struct fs) => ps.length = P.cellsOf t ∧ ∀ (i : Nat) (f : Field), fs[i]? = some f → TyP P n f.type ((ps.drop f.offset).take (P.cellsOf f.type))
    | _ => False
def flatSet (P : Program) (L : List TypeId) : Bool := L.all fun t => decide (t < P.types.size) &&
  match P.underlying t with
  | some .bool | some (.int _) | some .string => P.cellsOf t == 1
  | some (.slice e) => L.contains e && decide (0 < P.cellsOf e) && decide (0 < P.bytesOf e) && P.cellsOf t == 1
  | some (.struct fs) => fs.toList.all fun f => L.contains f.type
  | _ => false
section
variable {H : Type} {enc : TypeId × Value → H} {P : Program} {w : World}
theorem cells_at {base n : Nat} {a : Addr} {cs : List Value} (h : w.cells? base a n = some cs) : cs.length = n ∧ ∀ (k : Nat) (y : Value), cs[k]? = some y → w.cell? (a.add k) = some y := by
  unfold World.cells? at h
  split at h
  case isFalse => cases h
  have hl : cs.length = n := by simpa using mapM_some_length h
  refine ⟨hl, fun k y hk => ?_⟩
  have hlt : k < n := by have := (List.getElem?_eq_some_iff.1 hk).1; omega
  have := mapM_some_get h k k (by simp [hlt])
  rw [this, hk]
theorem add_add (b o m j : Nat) : ((⟨b, o, none⟩ : Addr).add m).add j = ⟨b, o + (m + j), none⟩ := by
  simp only [Addr.add]
  split <;> split <;> simp_all [Nat.add_assoc]
theorem cell_addr {a : Addr} {y : Value} (h : w.cell? a = some y) : a = ⟨a.block, a.off, none⟩ := by
  unfold World.cell? at h
  cases a with
  | mk b o s =>
    cases s with
    | none => rfl
    | some k => simp at h; split at h <;> simp at h
theorem parts_ok {I : Nat → Nat → Option Value} {n : Nat} : ∀ (fs : List Field) (k : Nat) (cs : List Value), (∀ (j : Nat) (f : Field), fs[j]? = some f → f.offset = k + ((fs.take j).map fun f => P.cellsOf f.type).sum) →
    (∀ f ∈ fs, ∃ ps, TyP P n f.type ps ∧ All2 (RP I) ps ((cs.drop f.offset).take (P.cellsOf f.type)) ∧ ps.length = P.cellsOf f.type) → cs.length = k + (fs.map fun f => P.cellsOf f.type).sum →
    ∃ ps, ps.length = (fs.map fun f => P.cellsOf f.type).sum ∧ All2 (RP I) ps (cs.drop k) ∧ ∀ (j : Nat) (f : Field), fs[j]? = some f → TyP P n f.type ((ps.drop (f.offset - k)).take (P.cellsOf f.type))
  | [], k, cs, _, _, hl => ⟨[], rfl, by rw [List.drop_eq_nil_of_le (by simp at hl; omega)]; exact .nil, fun j f h => by simp at h⟩
  | f :: fs, k, cs, ho, hf, hl => by
    have ho0 := ho 0 f rfl
    simp at ho0
    obtain ⟨p0, h1, h2, h3⟩ := hf f (by simp)
    simp only [List.map_cons, List.sum_cons] at hl
    obtain ⟨ps, h4, h5, h6⟩ := parts_ok fs (k + P.cellsOf f.type) cs (fun j g hg => by
      have := ho (j + 1) g (by simpa using hg)
      simp only [List.take_succ_cons, List.map_cons, List.sum_cons] at this
      omega) (fun g hg => hf g (by simp [hg])) (by omega)
    refine ⟨p0 ++ ps, by simp [h3, h4], ?_, fun j g hg => ?_⟩
    · rw [ho0] at h2
      have : cs.drop k = (cs.drop k).take (P.cellsOf f.type) ++ cs.drop (k + P.cellsOf f.type) := by
        rw [← List.drop_drop, List.take_append_drop]
      rw [this]
      exact h2.append h5
    · cases j with
      | zero =>
        simp at hg
        subst hg
        rw [ho0, Nat.sub_self, List.drop_zero, List.take_left' h3]
        exact h1
      | succ j =>
        have hg' : fs[j]? = some g := by simpa using hg
        have := h6 j g hg'
        have hoj := ho (j + 1) g hg
        simp only [List.take_succ_cons, List.map_cons, List.sum_cons] at hoj
        have hle : k + P.cellsOf f.type ≤ g.offset := by omega
        rw [List.drop_append, List.drop_eq_nil_of_le (by omega), List.nil_append, h3]
        rw [show g.offset - k - P.cellsOf f.type = g.offset - (k + P.cellsOf f.type) by omega]
        exact this
theorem weights_all {e : TypeId} : ∀ {l : List (DataW H)} {d : DataW H}, d ∈ l → ∀ n ∈ d.weights P e, n ∈ DataW.weightsAll P e l
  | d' :: l, d, h, n, hn => by
    unfold DataW.weightsAll
    rw [List.mem_append]
    rcases List.mem_cons.1 h with rfl | h
    · exact .inl hn
    · exact .inr (weights_all h n hn)
theorem weights_each : ∀ {ts : List TypeId} {ds : List (DataW H)} {j : Nat} {t : TypeId} {d : DataW H}, ts[j]? = some t → ds[j]? = some d → ∀ n ∈ d.weights P t, n ∈ DataW.weightsEach P ts ds := DataW.weights_mem_each
theorem trod_RP {I : Nat → Nat → Option Value} (hI : ∀ b o y, w.cell? ⟨b, o, none⟩ = some y → I b o = some y) (K0 : Kids P (· < P.types.size)) {L : List TypeId} (hL : flatSet P L = true) {base : Nat} {sp : Nat → Bool} {held : Bool} :
    ∀ (n : Nat) (t : TypeId) (cs : List Value) (x : DataW H × List MemPlace), DataW.trod enc P w base sp held n t cs = some x → t ∈ L → (∀ m ∈ x.1.weights P t, m ≤ reachBytes) → ∃ ps, TyP P n t ps ∧ All2 (RP I) ps cs ∧ ps.length = P.cellsOf t := by
  intro n
  induction n with
  | zero => intro t cs x h; simp [DataW.trod] at h
  | succ n ih =>
    intro t cs x h ht hw
    have hLt := List.all_eq_true.1 hL t ht
    simp only [Bool.and_eq_true, decide_eq_true_eq] at hLt
    obtain ⟨hlt, hLt⟩ := hLt
    unfold TyP
    split at hLt
    · rename_i hu
      obtain ⟨b, rfl, rfl⟩ := DataW.trod_bool hu h
      exact ⟨[.bool b], ⟨b, rfl⟩, .cons (.bool b) .nil, (by simpa using hLt : P.cellsOf t = 1).symm⟩
    · rename_i k hu
      obtain ⟨z, rfl, rfl, hwf⟩ := DataW.trod_int hu h
      exact ⟨[.int k z], ⟨z, rfl, hwf⟩, .cons (.int k z) .nil, (by simpa using hLt : P.cellsOf t = 1).symm⟩
    · rename_i hu
      obtain ⟨s, rfl, rfl, hsz⟩ := DataW.trod_string hu h
      refine ⟨[.str s.data.toList], ⟨_, rfl, hw _ (by simp [DataW.weights])⟩, .cons ?_ .nil, (by simpa using hLt : P.cellsOf t = 1).symm⟩
      exact .str _
    · rename_i e hu
      simp only [Bool.and_eq_true, decide_eq_true_eq] at hLt
      obtain ⟨⟨⟨he, hpos⟩, hby⟩, hc1⟩ := hLt
      have hc1 : P.cellsOf t = 1 := by simpa using hc1
      rcases DataW.trod_slice hu h with ⟨rfl, rfl⟩ | ⟨a, len, cap, elems, rest, m, hfuel, rfl, rfl, _, hlc, _, hel, hget, _, _⟩
      · exact ⟨[.sl []], ⟨[], rfl, by simp, by simp⟩, .cons (.sl0 none 0) .nil, hc1.symm⟩
      · have hm : m = n := by omega
        subst hm
        have hwt : ∀ m ∈ (elems.length + rest.length) * P.bytesOf e :: (DataW.weightsAll P e (elems.map (·.1)) ++ DataW.weightsAll P e (rest.map (·.1))), m ≤ reachBytes := by
          have : DataW.weights P t (DataW.slice (elems.map (·.1)) (rest.map (·.1))) = (elems.length + rest.length) * P.bytesOf e :: (DataW.weightsAll P e (elems.map (·.1)) ++ DataW.weightsAll P e (rest.map (·.1))) := by
            simp [DataW.weights, hu]
          rw [← this]; exact hw
        have hlenb : len ≤ reachBytes := by
          have h1 := hwt _ (List.mem_cons_self ..)
          have h2 : (elems.length + rest.length) * 1 ≤ (elems.length + rest.length) * P.bytesOf e := Nat.mul_le_mul_left _ hby
          omega
        have hone : ∀ i, i < len → ∃ ps, TyP P m e ps ∧ ps.length = P.cellsOf e ∧ ∀ (j : Nat) (p : PV), ps[j]? = some p → ∃ y, w.cell? ((a.add (i * P.cellsOf e)).add j) = some y ∧ RP I p y := by
          intro i hi
          have hg := hget i hi
          have hsome : ∃ y, elems[i]? = some y := ⟨elems[i]'(by omega), by simp [hel, hi]⟩
          obtain ⟨y, hy⟩ := hsome
          rw [hy, Option.bind_eq_some_iff] at hg
          obtain ⟨cs', hcs, htr⟩ := hg
          obtain ⟨ps, h1, h2, h3⟩ := ih e cs' y htr (by simpa using he) fun q hq => hwt q (List.mem_cons_of_mem _ (List.mem_append_left _ (weights_all (List.mem_map.2 ⟨y, List.mem_of_getElem? hy, rfl⟩) q hq)))
          obtain ⟨h4, h5⟩ := cells_at hcs
          refine ⟨ps, h1, h3, fun j p hj => ?_⟩
          obtain ⟨z, hz, hr⟩ := h2.get hj
          exact ⟨z, h5 j z hz, hr⟩
        obtain ⟨g, hg⟩ : ∃ g : Nat → List PV, ∀ i, i < len → TyP P m e (g i) ∧ (g i).length = P.cellsOf e ∧ ∀ (j : Nat) (p : PV), (g i)[j]? = some p → ∃ y, w.cell? ((a.add (i * P.cellsOf e)).add j) = some y ∧ RP I p y := by
          refine ⟨fun i => if hi : i < len then (hone i hi).choose else [], fun i hi => ?_⟩
          simp only [dif_pos hi]
          exact (hone i hi).choose_spec
        have hcget : ∀ (i : Nat) (el : List PV), ((List.range len).map g)[i]? = some el → i < len ∧ el = g i := fun i el hi => by
          have hlt' := (List.getElem?_eq_some_iff.1 hi).1
          simp at hlt'
          rw [List.getElem?_map, List.getElem?_range hlt'] at hi
          simp at hi
          exact ⟨hlt', hi.symm⟩
        refine ⟨[.sl ((List.range len).map g)], ⟨_, rfl, by simpa using hlenb, fun el hel' => ?_⟩, .cons ?_ .nil, hc1.symm⟩
        · obtain ⟨i, hi, rfl⟩ := List.mem_map.1 hel'
          exact (hg i (by simpa using hi)).1
        · by_cases h0 : len = 0
          · subst h0
            exact .sl0 _ _
          · obtain ⟨p0, hp0⟩ : ∃ p, (g 0)[0]? = some p := ⟨(g 0)[0]'(by rw [(hg 0 (by omega)).2.1]; exact hpos), by simp⟩
            obtain ⟨y0, hy0, _⟩ := (hg 0 (by omega)).2.2 0 p0 hp0
            have hadd0 : (a.add (0 * P.cellsOf e)).add 0 = a := by simp [Addr.add]
            rw [hadd0] at hy0
            have ha := cell_addr hy0
            have := RP.of_seg (I := I) (c := (List.range len).map g) (b := a.block) (o := a.off) (cap := cap) (sz := P.cellsOf e) (by simpa using hlc) (fun el hel' => by
              obtain ⟨i, hi, rfl⟩ := List.mem_map.1 hel'
              exact (hg i (by simpa using hi)).2.1) (fun i el j p hi hj => by
              obtain ⟨hlt', rfl⟩ := hcget i el hi
              obtain ⟨y, h1, h2⟩ := (hg i hlt').2.2 j p hj
              refine ⟨y, hI _ _ _ ?_, h2⟩
              have hadd : (a.add (i * P.cellsOf e)).add j = ⟨a.block, a.off + (i * P.cellsOf e + j), none⟩ := by
                have := add_add a.block a.off (i * P.cellsOf e) j
                rw [← ha] at this; exact this
              rw [hadd] at h1
              exact h1)
            rw [← ha] at this
            simpa using this
    · rename_i fs hu
      obtain ⟨xs, m, hfuel, rfl, hcl, hxl, hget⟩ := DataW.trod_struct hu h
      have hm : m = n := by omega
      subst hm
      obtain ⟨hf1, hf2, hf3⟩ := K0.struct hlt hu
      have hwt : ∀ m ∈ DataW.weightsEach P (fs.toList.map (·.type)) (xs.map (·.1)), m ≤ reachBytes := by
        have : DataW.weights P t (DataW.agg (xs.map (·.1))) = DataW.weightsEach P (fs.toList.map (·.type)) (xs.map (·.1)) := by
          rw [DataW.weights, hu]
        rw [← this]; exact hw
      obtain ⟨ps, h1, h2, h3⟩ := parts_ok (P := P) (I := I) (n := m) fs.toList 0 cs (fun j f hj => by rw [hf3 j f hj]; omega) (fun f hf => by
        obtain ⟨i, hi⟩ := List.mem_iff_getElem?.1 hf
        have hi' : fs[i]? = some f := by simpa using hi
        have hg := hget i f hi'
        have hlt' : i < fs.size := (Array.getElem?_eq_some_iff.1 hi').1
        obtain ⟨y, hy⟩ : ∃ y, xs[i]? = some y := ⟨xs[i]'(by omega), by simp [hxl, hlt']⟩
        rw [hy] at hg
        exact ih f.type _ y hg (by simpa using List.all_eq_true.1 hLt f hf) fun q hq => hwt q (weights_each (j := i) (t := f.type) (d := y.1) (by simp [hi']) (by simp [hy]) q hq)) (by rw [hcl, hf2]; omega)
      refine ⟨ps, ⟨by rw [h1, hf2], fun i f hi => ?_⟩, by simpa using h2, by rw [h1, hf2]⟩
      have := h3 i f (by simpa using hi)
      simpa using this
    · cases hLt
def argOf (P : Program) (t : TypeId) (ps : List PV) : AV :=
  match P.underlying t with
  | some (.struct _) => .agg (ps.map CV.pv)
  | _ => match ps with
    | [p] => .c (.pv p)
    | _ => .c .top
theorem ok_one {r : Reach} {base : Nat} {t : TypeId} {v : Value} (h : Value.okWide P w r base t v) (hs : (∀ fs, P.underlying t ≠ some (.struct fs)) ∧ ∀ n e, P.underlying t ≠ some (.array n e)) : v.cells = #[v] := by
  unfold Value.okWide at h
  split at h
  · exact absurd ‹_› (hs.1 _)
  · exact absurd ‹_› (hs.2 _ _)
  · cases v <;> first | rfl | (unfold Cell.okWide Cell.ok at h; split at h <;> simp_all)
theorem post_of_old {f : Func} {s : ChangeSpec} {apart fresh handsOn again : Bool} {W W' : World} {args : Array Value} {v : Value} {ds gs : List (DataW H)} {before pa pv : List MemPlace}
    (hW : DataW.Whole enc P f.params.toList s.vars apart W args.toList ds gs before)
    (hres : ∀ (b : Nat) (sp : Nat → Bool) (hd : Bool), DataW.TrodAll enc P W' b sp hd f.resultTypes.toList (v.resultList f.resultTypes.size) (s.fn H (ds ++ gs)).results [])
    (hargs : ∀ sp : Nat → Bool, (∀ p ∈ before, sp p.block = true) → DataW.TrodAll enc P W' 0 sp true f.params.toList args.toList (s.fn H (ds ++ gs)).args pa)
    (hvars : ∀ sp : Nat → Bool, (∀ p ∈ before, sp p.block = true) → DataW.TrodVars enc P W' sp s.vars (s.fn H (ds ++ gs)).vars pv)
    (hps : before = pa ++ pv) (hk : W.keptBut W' (· ∈ before)) (hfz : ∀ a : Addr, a.block < W.heap.size → W'.frozen? a = W.frozen? a)
    (hok : ∀ (j : Nat) (t : TypeId) (r : Value), f.resultTypes[j]? = some t → (v.resultList f.resultTypes.size)[j]? = some r → Value.okWide P W' .any 0 t r) :
    s.post enc P f apart fresh handsOn again W args v W' := by
  have hold : ∀ p ∈ before, (fun b => decide (b < W.heap.size)) p.block = true := fun p hp => by simpa using hW.lt p hp
  have hlt := fun p hp => hW.lt p hp
  refine ⟨ds, gs, before, [], pa, pv, hW, hres _ _ _, hargs _ hold, hvars _ hold, World.keptBut_mono (fun p hp => ⟨hp, ?_⟩) hk, fun _ => ?_⟩
  · rw [hps, List.mem_append] at hp
    exact Or.inr hp
  · obtain ⟨_, _, _, _, _, hz, hn⟩ := hW
    refine ⟨hok, _, _, ([] ++ pa) ++ pv, ⟨[] ++ pa, pv, trodAll_append (hargs _ (fun _ _ => rfl)) (hres _ _ _), hvars _ (fun _ _ => rfl), rfl, ?_, ?_⟩, ?_⟩
    · intro b off hp
      have hp' : MemPlace.cell b off ∈ before := by rw [hps]; simpa using hp
      rw [hfz _ (hlt _ hp')]
      exact hz b off hp'
    · intro ha
      have := hn ha
      rw [hps] at this
      simpa using this
    · intro p hp _
      rw [hps]
      simpa using hp
def oldGh (w : World) : Gh := { I := fun b o => w.cell? ⟨b, o, none⟩, bb := fun _ => none, ow := fun _ => none }
theorem oldWI (h : TabOK (oldGh w) w) : WI (oldGh w) w :=
  ⟨fun _ _ _ h => h, fun b hb => ⟨fun o => by
    show w.cell? ⟨b, o, none⟩ = none
    unfold World.cell?
    have : w.heap[b]? = none := Array.getElem?_eq_none hb
    simp [this], rfl⟩, fun _ _ h => (by cases h), fun _ _ h => (by cases h), h⟩
theorem keptBut_of_old {W W' : World} (hos : W'.os = W.os) (hout : W'.output = W.output) (h : ∀ b, b < W.heap.size → W'.heap[b]? = W.heap[b]?) (may : MemPlace → Prop) : W.keptBut W' may := by
  refine ⟨hos, hout, fun i hi => ?_⟩
  rw [h i hi]
  split
  · rename_i h1 h2; rw [h1] at h2; cases h2; exact ⟨rfl, rfl, rfl, fun _ _ => rfl⟩
  · rename_i h1 h2; rw [h1] at h2; cases h2; exact .inr ⟨rfl, rfl⟩
  · rfl
end
theorem kids : Kids Tryz.prog (· < Tryz.prog.types.size) := kids_rows (by kernel_rfl) (by kernel_rfl)
theorem slices_full : ∀ t e, t < Tryz.prog.types.size → Tryz.prog.underlying t = some (.slice e) → 0 < Tryz.prog.cellsOf e := slices_full_of _ (by kernel_rfl)
theorem laid_mem {w : World} : ∀ {l : List (String × DataW Unit)} {ps : List MemPlace}, DataW.LaidVars Tryz.prog w l ps → ∀ {n : String} {d : DataW Unit}, (n, d) ∈ l →
    ∃ g t cs fuel p, Tryz.prog.globalNamed n = some g ∧ (Tryz.prog.globals[g]?).map (·.type) = some t ∧ w.var? Tryz.prog n = some cs ∧ DataW.trod (fun _ => ()) Tryz.prog w 0 (fun _ => true) false fuel t cs.toList = some (d, p)
  | [], _, _, n, d, hm => by simp at hm
  | (m, e) :: l, ps, h, n, d, hm => by
    obtain ⟨g, t, cs, fuel, p, q, h1, h2, h3, h4, h5, _⟩ := h
    rcases List.mem_cons.1 hm with h | h
    · cases h; exact ⟨g, t, cs, fuel, p, h1, h2, h3, h4⟩
    · exact laid_mem h5 h
set_option maxRecDepth 100000 in
theorem tab_ok {W : World} {laid : List (String × DataW Unit)} (hL : laidMet Tryz.prog laid W) (hm : ("internal/strconv.uint64pow10", Go.Proofs.YtjjeloinclmopaaGreatDoor.Rows.laid_internal_strconv_uint64pow10) ∈ laid) (hsh : W.ShapedOpen Tryz.prog) : TabOK (oldGh W) W := by
  refine ⟨fun x hx => ⟨rfl, ?_⟩, fun b hb => ⟨rfl, ?_⟩⟩
  · simp only [tabs, List.mem_cons, List.not_mem_nil, or_false] at hx
    subst hx
    obtain ⟨ps, hl, _⟩ := hL
    obtain ⟨g, t, cs, fuel, p, h1, h2, h3, h4⟩ := laid_mem hl hm
    have hg : g = 3 := Option.some.inj (h1.symm.trans (show Tryz.prog.globalNamed "internal/strconv.uint64pow10" = some 3 by kernel_rfl))
    subst hg
    have ht : t = 272 := Option.some.inj (h2.symm.trans (show (Tryz.prog.globals[3]?).map (·.type) = some 272 by kernel_rfl))
    subst ht
    have hcs := Lib.cells_of_tab (k := .u64) (zs := (List.range 20).map fun i => ((10 ^ i : Nat) : Int)) (n := 20) (e := 256) (by kernel_rfl) (by kernel_rfl) (by kernel_rfl) (by kernel_rfl) (h := h4)
    simp only [World.var?, h1, Option.bind_some] at h3
    split at h3
    · rename_i cs' ty fz hh
      cases h3
      refine ⟨ty, fz, hh.trans ?_⟩
      have : cs = cs.toList.toArray := by simp
      rw [this, hcs]
      simp
    · cases h3
  · simp only [ints, List.mem_cons, List.not_mem_nil, or_false] at hb
    subst hb
    obtain ⟨cs, hh, hs, hr⟩ := hsh.1 2 #[.int .i64 0] 3 (of_decide_eq_true (by kernel_rfl)) (by kernel_rfl)
    obtain ⟨ts, hts, _, hall⟩ := hr (by kernel_rfl)
    have hct : Tryz.prog.cellTypes Tryz.prog.depth 3 = some [3] := by kernel_rfl
    have hts' : ts = [3] := Option.some.inj (hts.symm.trans hct)
    subst hts'
    have h1 : 0 < cs.size := by rw [hs]; simp
    obtain ⟨u, hu', hok⟩ := hall 0 cs[0] (by simp [h1])
    have hu0 : u = 3 := by simpa using hu'.symm
    subst hu0
    unfold Cell.ok at hok
    rw [show Tryz.prog.underlying 3 = some (.int .i64) by kernel_rfl] at hok
    cases hv : cs[0] with
    | int k m =>
      rw [hv] at hok
      obtain ⟨rfl, _⟩ := hok
      exact ⟨m, cs, 3, _, hh, by simp [h1, hv]⟩
    | _ => rw [hv] at hok; simp at hok
section
variable {H : Type} {enc : TypeId × Value → H}
set_option maxRecDepth 100000 in
theorem args_ok {W : World} {base : Nat} {L : List TypeId} (hL : flatSet Tryz.prog L = true) : ∀ {ts : List TypeId} {vs : List Value} {ds : List (DataW H)} {ps : List MemPlace}, DataW.TrodAll enc Tryz.prog W 0 (fun _ => true) true ts vs ds ps → (∀ t ∈ ts, t ∈ L) →
    (∀ (j : Nat) (t : TypeId) (v : Value), ts[j]? = some t → vs[j]? = some v → Value.okWide Tryz.prog W .any base t v) → (∀ m ∈ DataW.weightsEach Tryz.prog ts ds, m ≤ reachBytes) →
    ∃ pss : List (List PV), All2 (fun t p => ∃ n, TyP Tryz.prog n t p) ts pss ∧ All2 (fun v x => RA (oldGh W) W .ret v x) (List.zipWith (argOf Tryz.prog) ts pss) vs ∧ ∀ v ∈ List.zipWith (argOf Tryz.prog) ts pss, isOwn v = false
  | [], [], [], _, _, _, _, _ => ⟨[], .nil, .nil, by simp⟩
  | t :: ts, v :: vs, d :: ds, ps, h, hts, hval, hw => by
    obtain ⟨p, q, ⟨n, h1⟩, h2, _⟩ := h
    have hw1 : ∀ m ∈ d.weights Tryz.prog t, m ≤ reachBytes := fun m hm => hw m (by unfold DataW.weightsEach; exact List.mem_append_left _ hm)
    have hw2 : ∀ m ∈ DataW.weightsEach Tryz.prog ts ds, m ≤ reachBytes := fun m hm => hw m (by unfold DataW.weightsEach; exact List.mem_append_right _ hm)
    have hv2 : ∀ (j : Nat) (u : TypeId) (x : Value), ts[j]? = some u → vs[j]? = some x → Value.okWide Tryz.prog W .any base u x := by
      intro j u x hj hx
      refine hval (j + 1) u x ?_ ?_
      · rw [List.getElem?_cons_succ]; exact hj
      · rw [List.getElem?_cons_succ]; exact hx
    obtain ⟨pss, h3, h4, h5⟩ := args_ok hL h2 (fun u hu => hts u (List.mem_cons_of_mem _ hu)) hv2 hw2
    obtain ⟨pv, h6, h7, h8⟩ := trod_RP (w := W) (I := (oldGh W).I) (fun _ _ _ h => h) kids hL n t _ _ h1 (hts t (by simp)) hw1
    have hok := hval 0 t v rfl rfl
    have key : RA (oldGh W) W .ret (argOf Tryz.prog t pv) v ∧ isOwn (argOf Tryz.prog t pv) = false := by
      unfold argOf
      split
      · rename_i fs hu
        refine ⟨?_, rfl⟩
        unfold Value.okWide at hok
        rw [hu] at hok
        obtain ⟨cs, rfl, _, _⟩ := hok
        exact ⟨cs.toList, by simp, All2.map_left (h7.imp fun _ _ _ h => h)⟩
      · rename_i hns
        have hnarr : ∀ m e, Tryz.prog.underlying t ≠ some (.array m e) := fun m e hu => by
          have := List.all_eq_true.1 hL t (hts t (by simp))
          rw [hu] at this
          simp at this
        rw [ok_one hok ⟨fun fs => hns fs, hnarr⟩] at h7
        cases h7 with
        | cons ha hb =>
          cases hb
          exact ⟨ha, rfl⟩
    refine ⟨pv :: pss, .cons ⟨n, h6⟩ h3, .cons key.1 h4, fun x hx => ?_⟩
    simp only [List.zipWith_cons_cons, List.mem_cons] at hx
    rcases hx with rfl | hx
    · exact key.2
    · exact h5 x hx
theorem trodAll_len {W : World} {base : Nat} {sp : Nat → Bool} {held : Bool} : ∀ {ts : List TypeId} {vs : List Value} {ds : List (DataW H)} {ps : List MemPlace}, DataW.TrodAll enc Tryz.prog W base sp held ts vs ds ps → ds.length = ts.length
  | [], [], [], _, _ => rfl
  | _ :: _, _ :: _, _ :: _, _, ⟨_, _, _, h2, _⟩ => by simp [trodAll_len h2]
theorem trodAll_carry {W W' : World} {base : Nat} {sp : Nat → Bool} {held : Bool} : ∀ {ts : List TypeId} {vs : List Value} {ds : List (DataW H)} {ps : List MemPlace}, (∀ p ∈ ps, W.sameAt W' p) → DataW.TrodAll enc Tryz.prog W base sp held ts vs ds ps → DataW.TrodAll enc Tryz.prog W' base sp held ts vs ds ps
  | [], [], [], _, _, h => h
  | _ :: _, _ :: _, _ :: _, _, hs, ⟨p, q, ⟨n, h1⟩, h2, e⟩ => ⟨p, q, ⟨n, DataW.trod_carry n _ _ _ h1 fun x hx => hs x (by rw [e]; exact List.mem_append_left _ hx)⟩, trodAll_carry (fun x hx => hs x (by rw [e]; exact List.mem_append_right _ hx)) h2, e⟩
set_option maxRecDepth 100000 in
/-- WHAT A LAW's ROW ASKS, from the interpreter's answer. -/
theorem law_ok {f : FuncId} {fn : Func} {spec : ChangeSpec} {laid : List (String × DataW Unit)} {L : List TypeId} {W : World} {base : Nat} {args : Array Value} {ds gs : List (DataW H)} {before : List MemPlace}
    (hg : K.good f = true) (hL : flatSet Tryz.prog L = true) (hts : ∀ t ∈ fn.params.toList, t ∈ L) (hres : fn.resultTypes = #[4]) (hvars : spec.vars = []) (hspec : ∀ ds : List (DataW H), ds.length = fn.params.size → spec.fn H ds = { results := [.lit (.bool true)], args := ds })
    (hmem : ("internal/strconv.uint64pow10", Go.Proofs.YtjjeloinclmopaaGreatDoor.Rows.laid_internal_strconv_uint64pow10) ∈ laid) (hnoh : (laid.filter fun x => x.2.handleName?.isSome) = [])
    (hden : ∀ pss : List (List PV), All2 (fun t p => ∃ n, TyP Tryz.prog n t p) fn.params.toList pss → den K f (List.zipWith (argOf Tryz.prog) fn.params.toList pss) [] = some (.ret (.c (.pv (.bool true))) []))
    (hval : ∀ (j : Nat) t v, fn.params[j]? = some t → args[j]? = some v → Value.okWide Tryz.prog W .any base t v)
    (hW : DataW.Whole enc Tryz.prog fn.params.toList spec.vars false W args.toList ds gs before)
    (hwt : (DataW.weightsEach Tryz.prog fn.params.toList ds).all (· ≤ reachBytes) = true)
    (hLaid : laidMetH Tryz.prog laid W) (hsh : W.ShapedOpen Tryz.prog) :
    Calls Tryz.prog f args W fun e W' => ∃ v, e = .returned v ∧ spec.post enc Tryz.prog fn false true false false W args v W' := by
  have hW' := hW
  obtain ⟨p, q, hA, hV, rfl, hfz, hnd⟩ := hW
  rw [hvars] at hV
  have hgq : gs = [] ∧ q = [] := by
    cases gs with
    | nil => exact ⟨rfl, hV⟩
    | cons g gs => exact hV.elim
  obtain ⟨rfl, rfl⟩ := hgq
  have hlen := trodAll_len hA
  have hv2 : ∀ (j : Nat) (u : TypeId) (x : Value), fn.params.toList[j]? = some u → args.toList[j]? = some x → Value.okWide Tryz.prog W .any base u x := by
    intro j u x hj hx
    rw [Array.getElem?_toList] at hj hx
    exact hval j u x hj hx
  obtain ⟨pss, h1, h2, h3⟩ := args_ok (base := base) hL hA hts hv2 (fun m hm => by simpa using List.all_eq_true.1 hwt m hm)
  have hlm : laidMet Tryz.prog laid W := by
    unfold laidMetH at hLaid
    rw [hnoh] at hLaid
    exact hLaid
  have hwi := oldWI (tab_ok hlm hmem hsh)
  have hc := den_ok K_prog hg (hden pss h1) (oldGh W) W args.toList hwi h2 h3 (fun i l h => by simp at h) (fun s b h => by cases h)
  rw [Array.toArray_toList] at hc
  refine hc.mono fun e W' ⟨G', hx, hw', v, he, hv, _⟩ => ?_
  subst he
  have hv' : v = .bool true := RA.boolv hv
  subst hv'
  refine ⟨_, rfl, ?_⟩
  have hold : ∀ b, b < W.heap.size → W'.heap[b]? = W.heap[b]? := fun b hb => (hx.old b hb rfl).2.1
  have hds : spec.fn H (ds ++ []) = { results := [.lit (.bool true)], args := ds } := by
    rw [List.append_nil]
    exact hspec ds (by rw [hlen]; simp)
  refine post_of_old (pa := p) (pv := []) hW' (fun b sp hd => ?_) (fun sp hsp => ?_) (fun sp hsp => ?_) rfl (keptBut_of_old hx.os hx.output hold _) (fun a ha => ?_) ?_
  · rw [hds, hres]
    exact trodAll_cons_mk (shut_bool (by kernel_rfl) _) trodAll_mk0
  · rw [hds]
    have hT : ∀ t ∈ fn.params.toList, t < Tryz.prog.types.size := fun t ht => by
      have := List.all_eq_true.1 hL t (hts t ht)
      simp only [Bool.and_eq_true, decide_eq_true_eq] at this
      exact this.1
    have := DataW.TrodAll.respare (spare' := sp) kids slices_full hT hA (fun y hy => hsp y (by simpa using hy))
    refine trodAll_carry (fun y hy => ?_) this
    have hlt : y.block < W.heap.size := DataW.TrodAll.lt hA y hy
    cases y with
    | cell b off =>
      show W'.cell? ⟨b, off, none⟩ = W.cell? ⟨b, off, none⟩
      unfold World.cell?
      rw [hold b hlt]
    | map b => exact hold b hlt
  · rw [hds, hvars]
    rfl
  · unfold World.frozen?
    rw [hold a.block ha]
  · rw [hres]
    intro j t r hj hr
    have hj0 : j = 0 := by
      rcases Nat.eq_zero_or_pos j with h | h
      · exact h
      · rw [Array.getElem?_eq_none (by simp; omega)] at hj; cases hj
    subst hj0
    simp at hj
    subst hj
    have hr0 : r = .bool true := by
      have : ((Value.bool true).resultList 1)[0]? = some r := by simpa using hr
      simp [Value.resultList] at this
      exact this.symm
    subst hr0
    exact okWide_bool_mk (by kernel_rfl) _
end
end Go.Abs
namespace Go.Abs
open Go Go.Proofs
def fieldTys (P : Program) (t : TypeId) : Option (List (TypeId × Nat × Nat)) :=
  match P.underlying t with
  | some (.struct fs) => some (fs.toList.map fun f => (f.type, f.offset, P.cellsOf f.type))
  | _ => none
section
variable {P : Program} {t e : TypeId} {n : Nat} {ps : List PV}
theorem TyP_int {k : IntKind} (h : descOf P t = some (.int k)) (hp : TyP P n t ps) : ∃ z, ps = [.int k z] ∧ (Lit.int k z).wf = true := by
  cases n with
  | zero => exact hp.elim
  | succ n => unfold TyP at hp; rw [desc_int h] at hp; exact hp
theorem TyP_str (h : descOf P t = some .str) (hp : TyP P n t ps) : ∃ s, ps = [.str s] ∧ s.length ≤ reachBytes := by
  cases n with
  | zero => exact hp.elim
  | succ n => unfold TyP at hp; rw [desc_str h] at hp; exact hp
theorem TyP_sl {b : Bool} (h : descOf P t = some (.sl e b)) (hp : TyP P n t ps) : ∃ m c, n = m + 1 ∧ ps = [.sl c] ∧ c.length ≤ reachBytes ∧ ∀ el ∈ c, TyP P m e el := by
  cases n with
  | zero => exact hp.elim
  | succ n =>
    unfold TyP at hp
    rw [(desc_sl h).1] at hp
    obtain ⟨c, h1, h2, h3⟩ := hp
    exact ⟨n, c, rfl, h1, h2, h3⟩
theorem TyP_struct {l : List (TypeId × Nat × Nat)} {sz : Nat} (h : fieldTys P t = some l) (hs : P.cellsOf t = sz) (hp : TyP P n t ps) : ∃ m, n = m + 1 ∧ ps.length = sz ∧ ∀ (i : Nat) (x : TypeId × Nat × Nat), l[i]? = some x → TyP P m x.1 ((ps.drop x.2.1).take x.2.2) := by
  cases n with
  | zero => exact hp.elim
  | succ n =>
    unfold fieldTys at h
    split at h
    case h_2 => cases h
    rename_i fs hu
    cases h
    unfold TyP at hp
    rw [hu] at hp
    obtain ⟨h1, h2⟩ := hp
    refine ⟨n, rfl, by rw [h1, hs], fun i x hx => ?_⟩
    rw [List.getElem?_map, Option.map_eq_some_iff] at hx
    obtain ⟨f, hf, rfl⟩ := hx
    exact h2 i f (by simpa using hf)
theorem list_of {α : Type} {f : α → List PV} {Q : α → Prop} : ∀ {c : List (List PV)}, (∀ el ∈ c, ∃ x, el = f x ∧ Q x) → ∃ l : List α, c = l.map f ∧ ∀ x ∈ l, Q x
  | [], _ => ⟨[], rfl, by simp⟩
  | el :: c, h => by
    obtain ⟨x, rfl, hx⟩ := h el (by simp)
    obtain ⟨l, rfl, hl⟩ := list_of (c := c) fun y hy => h y (by simp [hy])
    exact ⟨x :: l, rfl, fun y hy => by
      rcases List.mem_cons.1 hy with rfl | hy
      · exact hx
      · exact hl y hy⟩
theorem wf_I64 {z : Int} (h : (Lit.int .i64 z).wf = true) : I64 z := by
  simp only [Lit.wf, Bool.and_eq_true, decide_eq_true_eq] at h
  exact h
end
theorem len3p {α : Type} {l : List α} (h : l.length = 3) : ∃ a b c, l = [a, b, c] := by
  match l, h with
  | [a, b, c], _ => exact ⟨a, b, c, rfl⟩
end Go.Abs
namespace Go.Abs
open Go Go.Proofs
set_option maxRecDepth 100000
theorem ft_tok : fieldTys Tryz.prog 47 = some [(3, 0, 1), (9, 1, 1), (3, 2, 1)] := by kernel_rfl
def Tok.Ok (t : Tok) : Prop := I64 t.kind ∧ I64 t.n ∧ t.text.length ≤ reachBytes
theorem ty_tok {n : Nat} {ps : List PV} (hp : TyP Tryz.prog n 47 ps) : ∃ x : Tok, ps = x.enc ∧ x.Ok := by
  obtain ⟨m, rfl, hl, hf⟩ := TyP_struct (sz := 3) ft_tok (by kernel_rfl) hp
  obtain ⟨p0, p1, p2, rfl⟩ := len3p hl
  obtain ⟨k, hk, hkw⟩ := TyP_int ty_descOf_3 (hf 0 _ rfl)
  obtain ⟨s, hs, hsl⟩ := TyP_str ty_descOf_9 (hf 1 _ rfl)
  obtain ⟨a, ha, haw⟩ := TyP_int ty_descOf_3 (hf 2 _ rfl)
  simp at hk hs ha
  subst hk; subst hs; subst ha
  exact ⟨⟨k, s, a⟩, rfl, wf_I64 hkw, wf_I64 haw, hsl⟩
theorem args1 {t : TypeId} {pss : List (List PV)} {Q : Prop} (h : All2 (fun t p => ∃ n, TyP Tryz.prog n t p) [t] pss) (hq : ∀ n p, TyP Tryz.prog n t p → pss = [p] → Q) : Q := by
  cases h with
  | cons h1 h =>
  cases h
  obtain ⟨n, h1⟩ := h1
  exact hq n _ h1 rfl
end Go.Abs
namespace Go.Abs
open Go Go.Proofs
set_option maxRecDepth 100000
theorem len5 {α : Type} {l : List α} (h : l.length = 5) : ∃ a b c d e, l = [a, b, c, d, e] := by
  match l, h with
  | [a, b, c, d, e], _ => exact ⟨a, b, c, d, e, rfl⟩
theorem ft_val : fieldTys Tryz.prog 49 = some [(3, 0, 1), (47, 1, 3), (22, 4, 1)] := by kernel_rfl
theorem allT_of {p : Tok → Prop} : ∀ {l : List Val}, (∀ v ∈ l, Ne.allV p v) → Ne.allT p l
  | [], _ => by rw [Ne.allT]; trivial
  | v :: l, h => by
    rw [Ne.allT]
    exact ⟨h v (by simp), allT_of fun x hx => h x (by simp [hx])⟩
theorem ty_val : ∀ (n : Nat) (ps : List PV), TyP Tryz.prog n 49 ps → ∃ x : Val, ps = x.enc ∧ Ne.allV (fun t => I64 t.n) x := by
  intro n
  induction n using Nat.strongRecOn with
  | _ n ih =>
    intro ps hp
    obtain ⟨m, rfl, hl, hf⟩ := TyP_struct (sz := 5) ft_val (by kernel_rfl) hp
    obtain ⟨p0, p1, p2, p3, p4, rfl⟩ := len5 hl
    obtain ⟨k, hk, hkw⟩ := TyP_int ty_descOf_3 (hf 0 _ rfl)
    obtain ⟨t, ht, hto⟩ := ty_tok (hf 1 _ rfl)
    obtain ⟨j, c, rfl, hc, hcl, hce⟩ := TyP_sl ty_descOf_22 (hf 2 _ rfl)
    obtain ⟨l, rfl, hlo⟩ := list_of (f := Val.enc) (Q := Ne.allV (fun t => I64 t.n)) fun el hel => ih j (by omega) el (hce el hel)
    simp [Tok.enc] at hk ht hc
    subst hk; subst hc
    obtain ⟨rfl, rfl, rfl⟩ := ht
    refine ⟨.mk k t l, ?_, ?_⟩
    · rw [Val.enc, encL_map]
    · rw [Ne.allV]
      exact ⟨hto.2.1, allT_of hlo⟩
theorem ty_vals {n : Nat} {ps : List PV} (hp : TyP Tryz.prog n 22 ps) : ∃ l : List Val, ps = [.sl (encL l)] ∧ Ne.allT (fun t => I64 t.n) l := by
  obtain ⟨j, c, rfl, rfl, hcl, hce⟩ := TyP_sl ty_descOf_22 hp
  obtain ⟨l, rfl, hlo⟩ := list_of (f := Val.enc) (Q := Ne.allV (fun t => I64 t.n)) fun el hel => ty_val j el (hce el hel)
  exact ⟨l, by rw [encL_map], allT_of hlo⟩
end Go.Abs
namespace Go.Abs
open Go Go.Proofs
set_option maxRecDepth 100000
theorem TyP_bool {P : Program} {t : TypeId} {n : Nat} {ps : List PV} (h : isBoolT P t = true) (hp : TyP P n t ps) : ∃ b, ps = [.bool b] := by
  cases n with
  | zero => exact hp.elim
  | succ n =>
    unfold isBoolT at h
    unfold TyP at hp
    split at h
    · rename_i hu
      rw [hu] at hp
      exact hp
    · cases h
theorem ft_dcl : fieldTys Tryz.prog 44 = some [(9, 0, 1), (22, 1, 1), (4, 2, 1)] := by kernel_rfl
theorem ty_dcl {n : Nat} {ps : List PV} (hp : TyP Tryz.prog n 44 ps) : ∃ x : Dcl, ps = x.enc ∧ DclI x := by
  obtain ⟨m, rfl, hl, hf⟩ := TyP_struct (sz := 3) ft_dcl (by kernel_rfl) hp
  obtain ⟨p0, p1, p2, rfl⟩ := len3p hl
  obtain ⟨s, hs, _⟩ := TyP_str ty_descOf_9 (hf 0 _ rfl)
  obtain ⟨l, hl2, hli⟩ := ty_vals (hf 1 _ rfl)
  obtain ⟨b, hb⟩ := TyP_bool ty_isBoolT_4 (hf 2 _ rfl)
  simp at hs hl2 hb
  subst hs; subst hl2; subst hb
  exact ⟨⟨s, l, b⟩, rfl, ⟨hli⟩⟩
def flatD : List TypeId := [4, 3, 9, 47, 90, 49, 22, 44, 23]
theorem flatD_ok : flatSet Tryz.prog flatD = true := by kernel_rfl
theorem argOf_dcl (ps : List PV) : argOf Tryz.prog 44 ps = .agg (ps.map CV.pv) := by
  unfold argOf; rw [Tryz.underlying44]
end Go.Abs
namespace Go.Abs
open Go Go.Proofs
set_option maxRecDepth 100000
theorem DeclsStrong_args (pss : List (List PV)) (h : All2 (fun t p => ∃ n, TyP Tryz.prog n t p) Tryz.f7.params.toList pss) :
    den K 7 (List.zipWith (argOf Tryz.prog) Tryz.f7.params.toList pss) [] = some (.ret (.c (.pv (.bool true))) []) := by
  have hp : Tryz.f7.params.toList = [44] := rfl
  rw [hp] at h ⊢
  refine args1 h fun n p h1 e => ?_
  subst e
  obtain ⟨d, rfl, hd⟩ := ty_dcl h1
  simp only [List.zipWith_cons_cons, List.zipWith_nil_left, argOf_dcl]
  exact DeclsStrong_den d hd
end Go.Abs
