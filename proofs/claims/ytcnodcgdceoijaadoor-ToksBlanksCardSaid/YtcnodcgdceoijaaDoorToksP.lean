/-
  TOKENS, in plain Lean: which tokens a text is read as; tokens that may be are read again as they were. No program stands here.
-/
import Derived.Test.YtcnodcgdceoijaaDoorTokDef
set_option linter.unusedSimpArgs false
set_option linter.unusedVariables false
namespace Go.Abs.Tk
open Go

/-! ### classes of bytes -/

theorem begins_zero : begins 0 = false := by decide
theorem within_zero : within 0 = false := by decide
theorem digit_zero : digit 0 = false := by decide
theorem blank_zero : blank 0 = false := by decide

theorem begins_within {c : UInt8} (h : begins c = true) : within c = true := by simp [within, h]
theorem begins_digit {c : UInt8} (h : begins c = true) : digit c = false := by
  simp only [begins, digit, decide_eq_true_eq, decide_eq_false_iff_not] at *; omega
theorem digit_begins {c : UInt8} (h : digit c = true) : begins c = false := by
  simp only [begins, digit, decide_eq_true_eq, decide_eq_false_iff_not] at *; omega
theorem begins_ne {c d : UInt8} (h : begins c = true) (hd : begins d = false) : c ≠ d := fun e => by rw [e, hd] at h; cases h
theorem digit_ne {c d : UInt8} (h : digit c = true) (hd : digit d = false) : c ≠ d := fun e => by rw [e, hd] at h; cases h
theorem within_ne {c d : UInt8} (h : within c = true) (hd : within d = false) : c ≠ d := fun e => by rw [e, hd] at h; cases h
theorem blank_cases {c : UInt8} (h : blank c = true) : c = 32 ∨ c = 10 ∨ c = 9 ∨ c = 12 ∨ c = 13 := by simpa [blank, or_assoc] using h
theorem within_blank {c : UInt8} (h : within c = true) : blank c = false := by
  cases hb : blank c
  · rfl
  · rcases blank_cases hb with rfl | rfl | rfl | rfl | rfl <;> revert h <;> decide
theorem digit_within {c : UInt8} (h : digit c = true) : within c = true := by simp [within, h]
theorem digit_blank {c : UInt8} (h : digit c = true) : blank c = false := within_blank (digit_within h)

/-! ### runs -/

section run
variable {p : UInt8 → Bool}
theorem run_nil : run p [] = 0 := rfl
theorem run_le : ∀ l : List UInt8, run p l ≤ l.length
  | [] => Nat.le_refl _
  | c :: r => by
    rw [run]; have := run_le r
    split <;> simp <;> omega
theorem run_pos {c : UInt8} {r : List UInt8} (h : p c = true) : 0 < run p (c :: r) := by rw [run, if_pos h]; omega
theorem run_take : ∀ l : List UInt8, ∀ b ∈ l.take (run p l), p b = true
  | [], b, h => by simp at h
  | c :: r, b, h => by
    rw [run] at h
    split at h
    · rename_i hc
      rw [List.take_succ_cons] at h
      rcases List.mem_cons.1 h with rfl | h
      · exact hc
      · exact run_take r b h
    · simp at h
theorem run_stop (h0 : p 0 = false) : ∀ l : List UInt8, p (at0 (l.drop (run p l))) = false
  | [] => h0
  | c :: r => by
    rw [run]
    split
    · rw [List.drop_succ_cons]; exact run_stop h0 r
    · rename_i hc
      simpa [at0] using hc
theorem run_app : ∀ {a y : List UInt8}, (∀ b ∈ a, p b = true) → run p (a ++ y) = a.length + run p y
  | [], y, _ => by simp
  | c :: a, y, h => by
    rw [List.cons_append, run, if_pos (h c (by simp)), run_app fun b hb => h b (by simp [hb])]
    simp; omega
theorem run_zero : ∀ {y : List UInt8}, p (at0 y) = false → run p y = 0
  | [], _ => rfl
  | c :: r, h => by
    rw [run, if_neg]; simpa [at0] using h
theorem run_word {a y : List UInt8} (h : ∀ b ∈ a, p b = true) (hy : p (at0 y) = false) : run p (a ++ y) = a.length := by rw [run_app h, run_zero hy]; rfl
theorem run_pos_iff {y : List UInt8} (h0 : p 0 = false) : 0 < run p y ↔ p (at0 y) = true := by
  cases y with
  | nil => simp [run, at0, h0]
  | cons c r =>
    rw [run, at0]
    cases p c <;> simp
end run

theorem at0_app {a y : List UInt8} (h : a ≠ []) : at0 (a ++ y) = at0 a := by
  cases a with
  | nil => exact absurd rfl h
  | cons c r => rfl

/-! ### names -/

def isName (x : List UInt8) : Prop := nameB x = true ∧ ∀ b ∈ x, within b = true

theorem nameB_nil : nameB [] = false := by decide
theorem isName_ne {x : List UInt8} (h : isName x) : x ≠ [] := fun e => by have := h.1; rw [e, nameB_nil] at this; cases this
theorem isName_len {x : List UInt8} (h : isName x) : 0 < x.length := List.length_pos_iff.2 (isName_ne h)

/-- the first byte of a name, or two of them, are looked at alone -/
theorem nameB_app {x y : List UInt8} (h : nameB x = true) : nameB (x ++ y) = true := by
  match x, h with
  | [], h => rw [nameB_nil] at h; cases h
  | [c], h =>
    have hc : begins c = true := by
      simp only [nameB, at0, List.tail_cons, begins_zero, Bool.false_or, Bool.or_eq_true, Bool.and_eq_true, beq_iff_eq] at h
      rcases h with h | ⟨_, h⟩
      · exact h
      · exact absurd h (by decide)
    simp [nameB, at0, hc]
  | c :: d :: r, h => exact h

theorem nameB_within {x : List UInt8} (h : nameB x = true) : within (at0 x) = true := by
  simp only [nameB, Bool.or_eq_true, Bool.and_eq_true, beq_iff_eq] at h
  rcases h with h | ⟨h, _⟩
  · exact begins_within h
  · rw [h]; decide

theorem name_app {x y : List UInt8} (h : isName x) (hy : within (at0 y) = false) : name (x ++ y) = x.length := by
  rw [name, if_pos (nameB_app h.1), run_word h.2 hy]
theorem name_zero {y : List UInt8} (h : nameB y = false) : name y = 0 := by rw [name, h]; rfl
theorem name_pos {l : List UInt8} (h : 0 < name l) : nameB l = true := by
  rw [name] at h; split at h
  · assumption
  · omega
theorem name_pos_iff {l : List UInt8} : 0 < name l ↔ nameB l = true := by
  refine ⟨name_pos, fun h => ?_⟩
  rw [name, if_pos h]
  exact (run_pos_iff within_zero).2 (nameB_within h)
theorem name_le (l : List UInt8) : name l ≤ l.length := by
  rw [name]; split
  · exact run_le l
  · omega

/-- what stands for a name is one -/
theorem name_take {l : List UInt8} (h : 0 < name l) : isName (l.take (name l)) := by
  have hb := name_pos h
  have e : name l = run within l := by rw [name, if_pos hb]
  refine ⟨?_, by rw [e]; exact run_take l⟩
  rw [e]
  match l, hb with
  | [], hb => rw [nameB_nil] at hb; cases hb
  | [c], hb =>
    have : run within [c] = 1 := by rw [run, if_pos (show within c = true from nameB_within hb)]; rfl
    rw [this]; exact hb
  | c :: d :: r, hb =>
    have hc : within c = true := nameB_within hb
    by_cases hd : within d = true
    · have : run within (c :: d :: r) = run within r + 2 := by rw [run, if_pos hc, run, if_pos hd]
      rw [this]; exact hb
    · have hd' : within d = false := by simpa using hd
      have : run within (c :: d :: r) = 1 := by rw [run, if_pos hc, run, if_neg hd]
      rw [this]
      simp only [nameB, at0, List.tail_cons, Bool.or_eq_true, Bool.and_eq_true, beq_iff_eq] at hb
      have hbc : begins c = true := by
        rcases hb with hb | ⟨_, hb | hb⟩
        · exact hb
        · rw [begins_within hb] at hd'; cases hd'
        · exact absurd hd' (by rw [hb]; decide)
      simp [nameB, at0, hbc]

/-! ### comments, strings -/

theorem shut_le : ∀ {l : List UInt8} {n : Nat}, shut l = some n → n ≤ l.length ∧ 2 ≤ n
  | c :: r, n, h => by
    rw [shut] at h
    split at h
    · rename_i hc
      cases h
      cases r with
      | nil => exact absurd hc.2 (by decide)
      | cons d r => simp
    · rw [Option.map_eq_some_iff] at h
      obtain ⟨m, hm, rfl⟩ := h
      have := shut_le hm
      simp; omega
theorem comment_pos (r : List UInt8) : 2 ≤ comment r := by unfold comment; split <;> omega

theorem inner_le {q : UInt8} : ∀ {l : List UInt8} {n : Nat}, inner q l = some n → n + 1 ≤ l.length
  | c :: r, n, h => by
    rw [inner] at h
    split at h
    · cases h; simp
    · split at h
      · cases h
      · rw [Option.map_eq_some_iff] at h
        obtain ⟨m, hm, rfl⟩ := h
        have := inner_le hm
        simp; omega
theorem inner_take {q : UInt8} : ∀ {l : List UInt8} {n : Nat}, inner q l = some n → ∀ b ∈ l.take n, b ≠ q ∧ ending b = false
  | c :: r, n, h, b, hb => by
    rw [inner] at h
    split at h
    · cases h; simp at hb
    · rename_i hq
      split at h
      · cases h
      · rename_i he
        rw [Option.map_eq_some_iff] at h
        obtain ⟨m, hm, rfl⟩ := h
        rw [List.take_succ_cons] at hb
        rcases List.mem_cons.1 hb with rfl | hb
        · exact ⟨hq, by simpa using he⟩
        · exact inner_take hm b hb
theorem inner_app {q : UInt8} {y : List UInt8} : ∀ {x : List UInt8}, (∀ b ∈ x, b ≠ q ∧ ending b = false) → inner q (x ++ q :: y) = some x.length
  | [], _ => by simp [inner]
  | c :: x, h => by
    have hc := h c (by simp)
    rw [List.cons_append, inner, if_neg hc.1, if_neg (by simp [hc.2]), inner_app fun b hb => h b (by simp [hb])]
    rfl

/-! ### numbers -/

theorem num_app : ∀ {a y : List UInt8} {n : Int}, (∀ b ∈ a, digit b = true) → num n (a ++ y) = num (num n a) y
  | [], _, _, _ => rfl
  | c :: a, y, n, h => by
    rw [List.cons_append, num, if_pos (h c (by simp)), num, if_pos (h c (by simp)), num_app fun b hb => h b (by simp [hb])]
theorem num_stop {y : List UInt8} {n : Int} (h : digit (at0 y) = false) : num n y = n := by
  cases y with
  | nil => rfl
  | cons c r => rw [num, if_neg]; simpa [at0] using h
theorem num_bound : ∀ {l : List UInt8} {n : Int}, 0 ≤ n → n ≤ 999999999 → 0 ≤ num n l ∧ num n l ≤ 999999999
  | [], n, h1, h2 => ⟨h1, h2⟩
  | c :: r, n, h1, h2 => by
    rw [num]
    split
    · rename_i hc
      have : 48 ≤ c.toNat := by simp only [digit, decide_eq_true_eq] at hc; omega
      exact num_bound (by omega) (by omega)
    · exact ⟨h1, h2⟩

theorem digit_of {k : Nat} (h : k < 10) : digit (UInt8.ofNat (48 + k)) = true ∧ ((UInt8.ofNat (48 + k)).toNat : Int) - 48 = k := by
  have : (UInt8.ofNat (48 + k)).toNat = 48 + k := by rw [UInt8.toNat_ofNat']; omega
  refine ⟨?_, by rw [this]; omega⟩
  simp only [digit, this, decide_eq_true_eq]; omega

theorem dec_digits : ∀ (k u : Nat), u ≤ k → ∀ b ∈ Lib.decDigits u, digit b = true := by
  intro k
  induction k with
  | zero =>
    intro u hu b hb
    rw [Lib.decDigits, dif_pos (by omega)] at hb
    simp only [List.mem_singleton] at hb
    rw [hb]; exact (digit_of (by omega)).1
  | succ k ih =>
    intro u hu b hb
    rw [Lib.decDigits] at hb
    split at hb
    · simp only [List.mem_singleton] at hb
      rw [hb]; exact (digit_of (by omega)).1
    · rcases List.mem_append.1 hb with hb | hb
      · exact ih (u / 10) (by omega) b hb
      · simp only [List.mem_singleton] at hb
        rw [hb]; exact (digit_of (Nat.mod_lt _ (by omega))).1
theorem dec_num : ∀ (k u : Nat), u ≤ k → u ≤ 999999999 → num 0 (Lib.decDigits u) = u := by
  intro k
  induction k with
  | zero =>
    intro u hu _
    obtain rfl : u = 0 := by omega
    rw [Lib.decDigits, dif_pos (by omega)]
    decide
  | succ k ih =>
    intro u hu hm
    rw [Lib.decDigits]
    split
    · rename_i h
      have h2 := digit_of h
      rw [num, if_pos h2.1, num, h2.2]; omega
    · have h2 := digit_of (Nat.mod_lt u (by omega : 0 < 10))
      rw [num_app (dec_digits (u / 10) (u / 10) (Nat.le_refl _)), ih (u / 10) (by omega) (by omega), num, if_pos h2.1, num, h2.2]; omega
theorem dec_ne : ∀ (u : Nat), Lib.decDigits u ≠ [] := by
  intro u h
  rw [Lib.decDigits] at h
  split at h <;> simp at h
end Go.Abs.Tk
