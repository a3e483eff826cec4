/-
  TOKENS, in plain Lean: tokens that may be are read again as they were (ToksBack, ToksTwo, ToksBlanks). No program stands here.
-/
import Derived.Test.YtcnodcgdceoijaaDoorToksP
set_option linter.unusedSimpArgs false
set_option linter.unusedVariables false
namespace Go.Abs.Tk
open Go

/-- what has of itself what its kind has -/
inductive Good : Tok → Prop
  | ident (x : List UInt8) : isName x → Good ⟨1, x, 0⟩
  | func (x : List UInt8) : isName x → Good ⟨2, x, 0⟩
  | word (x : List UInt8) : isName x → Good ⟨3, x, 0⟩
  | hash (x : List UInt8) : x ≠ [] → (∀ b ∈ x, within b = true) → Good ⟨4, x, 0⟩
  | num (x : List UInt8) (n : Int) : -999999999 ≤ n → n ≤ 999999999 → (x = [] ∨ x = [37] ∨ isName x) → Good ⟨5, x, n⟩
  | str (x : List UInt8) (q : UInt8) : q = 34 ∨ q = 39 → (∀ b ∈ x, b ≠ q ∧ ending b = false) → Good ⟨6, x, q.toNat⟩
  | delim (c : UInt8) : begins c = false → digit c = false → blank c = false → Good ⟨7, [c], 0⟩
  | white : Good ⟨8, [10], 0⟩

/-! ### one step -/

theorem unit_good (l : List UInt8) : l.take (unit l) = [] ∨ l.take (unit l) = [37] ∨ isName (l.take (unit l)) := by
  unfold unit
  split
  · rename_i h
    cases l with
    | nil => exact absurd h (by decide)
    | cons c r => right; left; rw [at0] at h; rw [h]; rfl
  · by_cases h : 0 < name l
    · exact .inr (.inr (name_take h))
    · left; rw [show name l = 0 by omega]; rfl
theorem unit_le (l : List UInt8) : unit l ≤ l.length := by
  unfold unit
  split
  · rename_i h
    cases l with
    | nil => exact absurd h (by decide)
    | cons c r => simp
  · exact name_le l

theorem number_good (neg : Bool) (l : List UInt8) : Good (number neg l).1 := by
  have hb := num_bound (l := l) (n := 0) (by omega) (by omega)
  unfold number
  refine .num _ _ ?_ ?_ (unit_good _)
  · cases neg <;> simp <;> omega
  · cases neg <;> simp <;> omega
theorem number_le (neg : Bool) (l : List UInt8) : (number neg l).2 ≤ l.length := by
  unfold number
  have h1 := run_le (p := digit) l
  have h2 := unit_le (l.drop (run digit l))
  simp only [List.length_drop] at h2
  simp only; omega
theorem number_pos (neg : Bool) (l : List UInt8) (h : digit (at0 l) = true) : 1 ≤ (number neg l).2 := by
  unfold number
  have := (run_pos_iff (y := l) digit_zero).2 h
  simp only; omega

theorem step_good {c : UInt8} {r : List UInt8} {t : Tok} (h : (step c r).1 = some t) : Good t := by
  unfold step at h
  split at h
  · cases h
  split at h
  · cases h; exact .white
  split at h
  · rename_i hq
    cases h
    obtain ⟨n, hn⟩ := Option.isSome_iff_exists.1 hq.2
    rw [hn]
    exact .str _ c hq.1 (inner_take hn)
  split at h
  · rename_i hq
    cases h
    exact .hash _ (fun e => by
      have h1 := congrArg List.length e
      rw [List.length_take, List.length_nil] at h1
      have h2 := run_le (p := within) r
      have h3 := hq.2
      omega) (run_take r)
  split at h
  · rename_i hq
    cases h
    exact .word _ (name_take hq.2)
  split at h
  · cases h; exact number_good _ _
  split at h
  · cases h; exact number_good _ _
  split at h
  · rename_i hn
    split at h
    · cases h; exact .func _ (name_take hn)
    · cases h; exact .ident _ (name_take hn)
  · rename_i h1 h2 h3 h4 h5 h6 h7 h8
    cases h
    refine .delim c ?_ (by simpa using h6) (by simpa using h2)
    cases hb : begins c
    · rfl
    · exact absurd (name_pos_iff.2 (show nameB (c :: r) = true by simp [nameB, at0, hb])) h8

theorem step_pos (c : UInt8) (r : List UInt8) : 1 ≤ (step c r).2 := by
  unfold step
  split
  · have := comment_pos r.tail; simp only; omega
  split
  · rename_i h; exact run_pos h
  split
  · rename_i h
    obtain ⟨n, hn⟩ := Option.isSome_iff_exists.1 h.2
    simp only; omega
  split
  · simp only; omega
  split
  · simp only; omega
  split
  · rename_i h; exact number_pos false (c :: r) h
  split
  · simp only; omega
  split
  · split <;> simp only <;> omega
  · exact Nat.le_refl _

theorem comment_le {r : List UInt8} : comment r ≤ r.length + 2 := by
  unfold comment
  split
  · rename_i n h; have := shut_le h; omega
  · omega

theorem step_le (c : UInt8) (r : List UInt8) : (step c r).2 ≤ (c :: r).length := by
  unfold step
  split
  · rename_i h
    have := comment_le (r := r.tail)
    cases r with
    | nil => exact absurd h.2 (by decide)
    | cons d r => simp only [List.tail_cons, List.length_cons] at *; omega
  split
  · exact run_le _
  split
  · rename_i h
    obtain ⟨n, hn⟩ := Option.isSome_iff_exists.1 h.2
    have := inner_le hn
    rw [hn]; simp; omega
  split
  · have := run_le (p := within) r; simp; omega
  split
  · have := name_le r; simp; omega
  split
  · exact number_le false _
  split
  · have := number_le true r; simp; omega
  split
  · rename_i h
    split
    · rename_i h40
      have h1 := name_le (c :: r)
      have : name (c :: r) ≠ (c :: r).length := fun e => by
        rw [e, List.drop_length] at h40; exact absurd h40 (by decide)
      simp only; omega
    · exact name_le _
  · simp

/-! ### all of them -/

theorem allN_eq : ∀ (k j : Nat) (l : List UInt8), l.length ≤ k → l.length ≤ j → allN k l = allN j l := by
  intro k
  induction k with
  | zero =>
    intro j l h _
    obtain rfl : l = [] := List.length_eq_zero_iff.1 (by omega)
    cases j <;> rfl
  | succ k ih =>
    intro j l hk hj
    cases l with
    | nil => cases j <;> rfl
    | cons c r =>
      cases j with
      | zero => simp at hj
      | succ j =>
        have hp := step_pos c r
        have hd : ((c :: r).drop (step c r).2).length ≤ r.length := by rw [List.length_drop]; simp; omega
        simp only [List.length_cons] at hk hj
        rw [allN, allN, ih j _ (by omega) (by omega)]

theorem all_nil : all [] = [] := rfl
theorem all_cons (c : UInt8) (r : List UInt8) : all (c :: r) = (step c r).1.toList ++ all ((c :: r).drop (step c r).2) := by
  have hp := step_pos c r
  have hd : ((c :: r).drop (step c r).2).length ≤ r.length := by rw [List.length_drop]; simp; omega
  rw [all, List.length_cons, allN]
  rw [allN_eq r.length _ _ hd (Nat.le_refl _), ← all]

theorem all_ind {Q : List UInt8 → Prop} (h0 : Q []) (h1 : ∀ c r, Q ((c :: r).drop (step c r).2) → Q (c :: r)) : ∀ l, Q l := by
  have : ∀ (k : Nat) (l : List UInt8), l.length ≤ k → Q l := by
    intro k
    induction k with
    | zero => intro l h; obtain rfl : l = [] := List.length_eq_zero_iff.1 (by omega); exact h0
    | succ k ih =>
      intro l h
      cases l with
      | nil => exact h0
      | cons c r =>
        have hp := step_pos c r
        exact h1 c r (ih _ (by rw [List.length_drop]; simp at *; omega))
  exact fun l => this l.length l (Nat.le_refl _)

theorem all_good (l : List UInt8) : ∀ t ∈ all l, Good t := by
  refine all_ind (Q := fun l => ∀ t ∈ all l, Good t) (fun t h => by simp [all_nil] at h) (fun c r ih t ht => ?_) l
  rw [all_cons] at ht
  rcases List.mem_append.1 ht with ht | ht
  · exact step_good (by simpa [Option.mem_toList] using ht)
  · exact ih t ht

/-! ### what may stand behind a token -/

theorem at0_cons (c : UInt8) (r : List UInt8) : at0 (c :: r) = c := rfl

def sep (t : Tok) (y : List UInt8) : Prop :=
  (t.kind = 1 → within (at0 y) = false ∧ at0 y ≠ 40) ∧
  (t.kind = 3 ∨ t.kind = 4 → within (at0 y) = false) ∧
  (t.kind = 5 → (t.text = [] → digit (at0 y) = false ∧ at0 y ≠ 37 ∧ nameB y = false) ∧ (isName t.text → within (at0 y) = false)) ∧
  (t.kind = 8 → blank (at0 y) = false) ∧
  (t.kind = 7 → (t.text = [47] → at0 y ≠ 42) ∧ (t.text = [35] → within (at0 y) = false) ∧ (t.text = [64] → nameB y = false) ∧ (t.text = [45] → digit (at0 y) = false ∧ nameB (45 :: y) = false))

theorem nameB_head {c : UInt8} {y : List UInt8} (h : at0 y = c) (hc : within c = false) : nameB y = false := by
  cases hn : nameB y
  · rfl
  · have := nameB_within hn; rw [h, hc] at this; cases this
theorem nameB_dash {y : List UInt8} (h : begins (at0 y) = false) (h2 : at0 y ≠ 45) : nameB (45 :: y) = false := by
  have e : nameB (45 :: y) = (begins 45 || ((45 : UInt8) == 45 && (begins (at0 y) || at0 y == 45))) := rfl
  rw [e, h, beq_eq_false_iff_ne.2 h2]; decide

/-- whatever stands behind, if it begins with a sign of no kind -/
theorem sep_sign {y : List UInt8} {c : UInt8} (h : at0 y = c) (t : Tok) (h1 : within c = false) (h2 : blank c = false) (h3 : c ≠ 40) (h4 : c ≠ 37) (h5 : c ≠ 42) : sep t y := by
  have hb : begins c = false := by simp only [within, Bool.or_eq_false_iff] at h1; exact h1.1.1
  have hd : digit c = false := by simp only [within, Bool.or_eq_false_iff] at h1; exact h1.1.2
  have h45 : c ≠ 45 := fun e => by rw [e] at h1; revert h1; decide
  have hn := nameB_head h h1
  unfold sep
  rw [h]
  exact ⟨fun _ => ⟨h1, h3⟩, fun _ => h1, fun _ => ⟨fun _ => ⟨hd, h4, hn⟩, fun _ => h1⟩, fun _ => h2, fun _ => ⟨fun _ => h5, fun _ => h1, fun _ => hn, fun _ => ⟨hd, nameB_dash (by rw [h]; exact hb) (by rw [h]; exact h45)⟩⟩⟩
theorem sep_nil (t : Tok) : sep t [] := sep_sign (c := 0) rfl t (by decide) (by decide) (by decide) (by decide) (by decide)
theorem sep_slash (t : Tok) (y : List UInt8) : sep t (47 :: y) := sep_sign (c := 47) rfl t (by decide) (by decide) (by decide) (by decide) (by decide)

/-! ### the token in front is read again -/

theorem nameB_cases {c : UInt8} {r : List UInt8} (h : nameB (c :: r) = true) : begins c = true ∨ c = 45 ∧ (begins (at0 r) = true ∨ at0 r = 45) := by
  simpa [nameB, at0] using h

theorem step_name {c : UInt8} {r : List UInt8} (h : nameB (c :: r) = true) : step c r =
    if at0 ((c :: r).drop (name (c :: r))) = 40 then (some ⟨2, (c :: r).take (name (c :: r)), 0⟩, name (c :: r) + 1)
    else (some ⟨1, (c :: r).take (name (c :: r)), 0⟩, name (c :: r)) := by
  have hw : within c = true := nameB_within h
  have hne : ∀ d, within d = false → c ≠ d := fun d hd => within_ne hw hd
  have hdig : digit c = false := by
    rcases nameB_cases h with hb | ⟨rfl, _⟩
    · exact begins_digit hb
    · decide
  have h45 : ¬ (c = 45 ∧ digit (at0 r) = true) := by
    rintro ⟨rfl, hd⟩
    rcases nameB_cases h with hb | ⟨_, hb | hb⟩
    · exact absurd hb (by decide)
    · rw [begins_digit hb] at hd; cases hd
    · rw [hb] at hd; revert hd; decide
  unfold step
  rw [if_neg (fun e => hne 47 (by decide) e.1), if_neg (by simp [within_blank hw]), if_neg (fun e => by
    rcases e.1 with e | e
    · exact hne 34 (by decide) e
    · exact hne 39 (by decide) e), if_neg (fun e => hne 35 (by decide) e.1), if_neg (fun e => hne 64 (by decide) e.1), if_neg (by simp [hdig]), if_neg h45, if_pos (name_pos_iff.2 h)]

theorem step_number {c : UInt8} {r : List UInt8} (h : digit c = true) : step c r = (some (number false (c :: r)).1, (number false (c :: r)).2) := by
  have hne : ∀ d, digit d = false → c ≠ d := fun d hd => digit_ne h hd
  unfold step
  rw [if_neg (fun e => hne 47 (by decide) e.1), if_neg (by simp [digit_blank h]), if_neg (fun e => by
    rcases e.1 with e | e
    · exact hne 34 (by decide) e
    · exact hne 39 (by decide) e), if_neg (fun e => hne 35 (by decide) e.1), if_neg (fun e => hne 64 (by decide) e.1), if_pos h]
theorem step_minus {r : List UInt8} (h : digit (at0 r) = true) : step 45 r = (some (number true r).1, (number true r).2 + 1) := by
  unfold step
  rw [if_neg (fun e => absurd e.1 (by decide)), if_neg (by decide), if_neg (by simp), if_neg (by simp), if_neg (by simp), if_neg (by decide), if_pos ⟨rfl, h⟩]

/-- digits, and behind them no digit -/
theorem number_app (neg : Bool) {u : Nat} (hu : u ≤ 999999999) {z : List UInt8} (hz : digit (at0 z) = false) : number neg (Lib.decDigits u ++ z) = (⟨5, z.take (unit z), if neg then -(u : Int) else u⟩, (Lib.decDigits u).length + unit z) := by
  have hd := dec_digits u u (Nat.le_refl _)
  unfold number
  rw [run_word hd hz, List.drop_left, num_app hd, dec_num u u (Nat.le_refl _) hu, num_stop hz]

theorem unit_zero {y : List UInt8} (h1 : at0 y ≠ 37) (h2 : nameB y = false) : unit y = 0 := by rw [unit, if_neg h1, name_zero h2]
theorem unit_pct (y : List UInt8) : unit ([37] ++ y) = 1 := rfl
theorem unit_name {x y : List UInt8} (h : isName x) (hy : within (at0 y) = false) : unit (x ++ y) = x.length := by
  have : at0 (x ++ y) ≠ 37 := by
    rw [at0_app (isName_ne h)]
    exact within_ne (nameB_within h.1) (by decide)
  rw [unit, if_neg this, name_app h hy]

theorem name_nodigit {x : List UInt8} (h : nameB x = true) : digit (at0 x) = false := by
  cases x with
  | nil => rfl
  | cons c r =>
    rcases nameB_cases h with hb | ⟨rfl, _⟩
    · exact begins_digit hb
    · rw [at0_cons]; decide

/-- what stands behind the digits of a number, and what is read of it -/
theorem unit_sep {x y : List UInt8} {n : Int} (hx : x = [] ∨ x = [37] ∨ isName x) (hs : sep ⟨5, x, n⟩ y) : digit (at0 (x ++ y)) = false ∧ unit (x ++ y) = x.length := by
  obtain ⟨_, _, h5, _, _⟩ := hs
  obtain ⟨h6, h7⟩ := h5 rfl
  rcases hx with rfl | rfl | hx
  · obtain ⟨a, b, c⟩ := h6 rfl
    exact ⟨a, unit_zero b c⟩
  · exact ⟨by show digit 37 = false; decide, rfl⟩
  · exact ⟨by rw [at0_app (isName_ne hx)]; exact name_nodigit hx.1, unit_name hx (h7 hx)⟩

theorem one_num (x : List UInt8) (n : Int) : oneS ⟨5, x, n⟩ = Lib.itoa n ++ x := rfl

theorem all_num {x y : List UInt8} {n : Int} (h1 : -999999999 ≤ n) (h2 : n ≤ 999999999) (hd : digit (at0 (x ++ y)) = false) (hu : unit (x ++ y) = x.length) : all (Lib.itoa n ++ (x ++ y)) = ⟨5, x, n⟩ :: all y := by
  by_cases hn : n < 0
  · have e : Lib.itoa n = 45 :: Lib.decDigits n.natAbs := by unfold Lib.itoa; rw [if_pos hn]
    have hh : digit (at0 (Lib.decDigits n.natAbs ++ (x ++ y))) = true := by
      rw [at0_app (dec_ne _)]
      cases hl : Lib.decDigits n.natAbs with
      | nil => exact absurd hl (dec_ne _)
      | cons c r => exact dec_digits _ _ (Nat.le_refl _) c (by rw [hl]; simp)
    rw [e, List.cons_append, all_cons, step_minus hh, number_app true (by omega) hd, hu]
    simp only [Option.toList_some, List.drop_succ_cons, List.cons_append, List.nil_append, if_true]
    rw [← List.drop_drop, List.drop_left, List.drop_left, List.take_left]
    rw [show -((n.natAbs : Nat) : Int) = n by omega]
  · have e : Lib.itoa n = Lib.decDigits n.toNat := by unfold Lib.itoa; rw [if_neg hn]
    rw [e]
    cases hl : Lib.decDigits n.toNat with
    | nil => exact absurd hl (dec_ne _)
    | cons c r =>
      have hc : digit c = true := dec_digits _ _ (Nat.le_refl _) c (by rw [hl]; simp)
      rw [List.cons_append, all_cons, step_number hc, ← List.cons_append, ← hl, number_app false (by omega) hd, hu]
      simp only [Option.toList_some, List.cons_append, List.nil_append, Bool.false_eq_true, if_false]
      rw [← List.drop_drop, List.drop_left, List.drop_left, List.take_left]
      rw [show ((n.toNat : Nat) : Int) = n by omega]

/-- a comment is left away -/
theorem all_comment {r y : List UInt8} (h : shut r = some (r.length - y.length)) (hy : r.drop (r.length - y.length) = y) : all (47 :: 42 :: r) = all y := by
  rw [all_cons]
  have e : step 47 (42 :: r) = (none, r.length - y.length + 2) := by
    unfold step
    rw [if_pos ⟨rfl, rfl⟩]
    simp only [List.tail_cons, comment, h]
  rw [e]
  simp only [Option.toList_none, List.nil_append, List.drop_succ_cons]
  rw [hy]
theorem all_between (y : List UInt8) : all (47 :: 42 :: 42 :: 47 :: y) = all y := by
  rw [all_cons]
  rfl
theorem all_line (y : List UInt8) : all (47 :: 42 :: 10 :: 42 :: 47 :: y) = all y := by
  rw [all_cons]
  rfl

theorem all_quote {q : UInt8} (h : q = 34 ∨ q = 39) (y : List UInt8) : all (q :: 47 :: 42 :: 10 :: 42 :: 47 :: y) = ⟨7, [q], 0⟩ :: all y := by
  have hi : inner q (47 :: 42 :: 10 :: 42 :: 47 :: y) = none := by rcases h with rfl | rfl <;> rfl
  have e : step q (47 :: 42 :: 10 :: 42 :: 47 :: y) = (some ⟨7, [q], 0⟩, 1) := by
    unfold step
    rcases h with rfl | rfl <;> (rw [hi]; rfl)
  rw [all_cons, e]
  simp only [Option.toList_some, List.drop_succ_cons, List.drop_zero, List.cons_append, List.nil_append, all_line]

theorem step_delim {c : UInt8} {y : List UInt8} (h1 : begins c = false) (h2 : digit c = false) (h3 : blank c = false) (h34 : c ≠ 34) (h39 : c ≠ 39) (hs : sep ⟨7, [c], 0⟩ y) : step c y = (some ⟨7, [c], 0⟩, 1) := by
  obtain ⟨_, _, _, _, h7⟩ := hs
  obtain ⟨a, b, d, e⟩ := h7 rfl
  unfold step
  rw [if_neg (fun x => a (by rw [x.1]) x.2), if_neg (by simp [h3]), if_neg (fun x => by rcases x.1 with x | x <;> contradiction),
    if_neg (fun x => by have := (run_pos_iff within_zero).1 x.2; rw [b (by rw [x.1])] at this; cases this),
    if_neg (fun x => by have := name_pos_iff.1 x.2; rw [d (by rw [x.1])] at this; cases this),
    if_neg (by simp [h2]), if_neg (fun x => by have := (e (by rw [x.1])).1; rw [x.2] at this; cases this), if_neg]
  intro x
  have hn := name_pos_iff.1 x
  rcases nameB_cases hn with hb | ⟨rfl, _⟩
  · rw [h1] at hb; cases hb
  · rw [(e rfl).2] at hn; cases hn

theorem one_delim {c : UInt8} (h34 : c ≠ 34) (h39 : c ≠ 39) : oneS ⟨7, [c], 0⟩ = [c] := by simp [oneS, h34, h39]

/-- THE TOKEN IN FRONT is read again, if what stands behind it may -/
theorem all_one {t : Tok} {y : List UInt8} (h : Good t) (hs : sep t y) : all (oneS t ++ y) = t :: all y := by
  cases h with
  | ident x hx =>
    have e1 : oneS ⟨1, x, 0⟩ = x := rfl
    obtain ⟨hw, h40⟩ := hs.1 rfl
    have hn := name_app hx hw
    have hb := nameB_app (y := y) hx.1
    rw [e1]
    cases x with
    | nil => exact absurd rfl (isName_ne hx)
    | cons c r =>
      rw [List.cons_append] at hn hb ⊢
      rw [all_cons, step_name hb, hn, ← List.cons_append, List.drop_left, List.take_left, if_neg h40]
      simp only [Option.toList_some, List.cons_append, List.nil_append]
      rw [← List.cons_append, List.drop_left]
  | func x hx =>
    have e1 : oneS ⟨2, x, 0⟩ = x ++ [40] := rfl
    have hn := name_app (y := 40 :: y) hx (by rw [at0_cons]; decide)
    have hb := nameB_app (y := 40 :: y) hx.1
    rw [e1, List.append_assoc, List.cons_append, List.nil_append]
    cases x with
    | nil => exact absurd rfl (isName_ne hx)
    | cons c r =>
      rw [List.cons_append] at hn hb ⊢
      rw [all_cons, step_name hb, hn, ← List.cons_append, List.drop_left, List.take_left, if_pos (at0_cons 40 y)]
      simp only [Option.toList_some, List.cons_append, List.nil_append]
      rw [← List.cons_append, ← List.drop_drop, List.drop_left]
      rfl
  | word x hx =>
    have e1 : oneS ⟨3, x, 0⟩ = 64 :: x := rfl
    have hw := hs.2.1 (.inl rfl)
    have hn := name_app hx hw
    have e : step 64 (x ++ y) = (some ⟨3, x, 0⟩, x.length + 1) := by
      unfold step
      rw [if_neg (fun e => absurd e.1 (by decide)), if_neg (by decide), if_neg (by simp), if_neg (by simp), if_pos ⟨rfl, by rw [hn]; exact isName_len hx⟩, hn, List.take_left]
    rw [e1, List.cons_append, all_cons, e]
    simp only [Option.toList_some, List.drop_succ_cons, List.drop_left, List.cons_append, List.nil_append]
  | hash x hne hx =>
    have e1 : oneS ⟨4, x, 0⟩ = 35 :: x := rfl
    have hw := hs.2.1 (.inr rfl)
    have hn := run_word hx hw
    have e : step 35 (x ++ y) = (some ⟨4, x, 0⟩, x.length + 1) := by
      unfold step
      rw [if_neg (fun e => absurd e.1 (by decide)), if_neg (by decide), if_neg (by simp), if_pos ⟨rfl, by rw [hn]; exact List.length_pos_iff.2 hne⟩, hn, List.take_left]
    rw [e1, List.cons_append, all_cons, e]
    simp only [Option.toList_some, List.drop_succ_cons, List.drop_left, List.cons_append, List.nil_append]
  | num x n h1 h2 hx =>
    obtain ⟨hd, hu⟩ := unit_sep hx hs
    rw [one_num, List.append_assoc]
    exact all_num h1 h2 hd hu
  | str x q hq hx =>
    have e1 : oneS ⟨6, x, q.toNat⟩ = q :: (x ++ [q]) := by rcases hq with rfl | rfl <;> rfl
    have hi := inner_app (y := y) hx
    have e : step q (x ++ q :: y) = (some ⟨6, x, q.toNat⟩, x.length + 2) := by
      unfold step
      rw [if_neg (fun e => by rcases hq with rfl | rfl <;> exact absurd e.1 (by decide)), if_neg (by rcases hq with rfl | rfl <;> decide), if_pos ⟨hq, by rw [hi]; rfl⟩, hi]
      simp only [Option.getD_some, List.take_left]
    rw [e1, List.cons_append, List.append_assoc, List.cons_append, List.nil_append, all_cons, e]
    simp only [Option.toList_some, List.drop_succ_cons, List.cons_append, List.nil_append]
    rw [← List.drop_drop, List.drop_left]
    rfl
  | delim c h1 h2 h3 =>
    by_cases hq : c = 34 ∨ c = 39
    · have e1 : oneS ⟨7, [c], 0⟩ = [c, 47, 42, 10, 42, 47] := by rcases hq with rfl | rfl <;> rfl
      rw [e1]
      exact all_quote hq y
    · rw [not_or] at hq
      rw [one_delim hq.1 hq.2, List.cons_append, List.nil_append, all_cons, step_delim h1 h2 h3 hq.1 hq.2 hs]
      simp only [Option.toList_some, List.drop_succ_cons, List.drop_zero, List.cons_append, List.nil_append]
  | white =>
    have hw := hs.2.2.2.1 rfl
    have e1 : oneS ⟨8, [10], 0⟩ = [10] := rfl
    have hr : run blank (10 :: y) = 1 := by rw [run, if_pos (by decide), run_zero hw]
    have e : step 10 y = (some ⟨8, [10], 0⟩, 1) := by
      unfold step
      rw [if_neg (fun e => absurd e.1 (by decide)), if_pos (by decide), hr]
    rw [e1, List.cons_append, List.nil_append, all_cons, e]
    simp only [Option.toList_some, List.drop_succ_cons, List.drop_zero, List.cons_append, List.nil_append]

theorem good_all {t : Tok} (h : Good t) : all (oneS t) = [t] := by
  have := all_one h (sep_nil t)
  rw [List.append_nil, all_nil] at this
  exact this
theorem may_iff {t : Tok} : may t = true ↔ Good t := by
  unfold may
  rw [decide_eq_true_eq]
  exact ⟨fun h => all_good _ t (by rw [h]; simp), good_all⟩
end Go.Abs.Tk
