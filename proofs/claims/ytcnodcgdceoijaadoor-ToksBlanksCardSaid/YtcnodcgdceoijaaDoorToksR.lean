/-
  TOKENS, in plain Lean: the texts of tokens are read as these (ToksBack, ToksTwo, ToksBlanks). No program stands here.
-/
import Derived.Test.YtcnodcgdceoijaaDoorToksQ
set_option linter.unusedSimpArgs false
set_option linter.unusedVariables false
namespace Go.Abs.Tk
open Go

/-! ### the first byte of a token's text -/

theorem itoa_head (n : Int) : digit (at0 (Lib.itoa n)) = true ∨ at0 (Lib.itoa n) = 45 := by
  unfold Lib.itoa
  split
  · exact .inr rfl
  · left
    cases hl : Lib.decDigits n.toNat with
    | nil => exact absurd hl (dec_ne _)
    | cons c r => exact dec_digits _ _ (Nat.le_refl _) c (by rw [hl]; simp)
theorem itoa_ne (n : Int) : Lib.itoa n ≠ [] := fun h => by
  unfold Lib.itoa at h
  split at h
  · cases h
  · exact dec_ne _ h

theorem one_ne {t : Tok} (h : Good t) : oneS t ≠ [] := by
  cases h with
  | ident x hx => exact isName_ne hx
  | func x hx => show x ++ [40] ≠ []; simp
  | word x hx => show 64 :: x ≠ []; simp
  | hash x hne hx => show 35 :: x ≠ []; simp
  | num x n h1 h2 hx => rw [one_num]; intro e; exact itoa_ne n (List.append_eq_nil_iff.1 e).1
  | str x q hq hx => rcases hq with rfl | rfl <;> (intro e; cases e)
  | delim c h1 h2 h3 => 
    show (if [c] = [34] ∨ [c] = [39] then [c] ++ [47, 42, 10, 42, 47] else [c]) ≠ []
    split <;> simp
  | white => intro e; cases e

theorem delim_head (c : UInt8) : at0 (oneS ⟨7, [c], 0⟩) = c := by
  show at0 (if [c] = [34] ∨ [c] = [39] then [c] ++ [47, 42, 10, 42, 47] else [c]) = c
  split <;> rfl

/-- the first byte tells the kind -/
theorem head_digit {t : Tok} (h : Good t) (hd : digit (at0 (oneS t)) = true) : ∃ x n, t = ⟨5, x, n⟩ ∧ 0 ≤ n ∧ n ≤ 999999999 ∧ (x = [] ∨ x = [37] ∨ isName x) := by
  cases h with
  | ident x hx => have := name_nodigit hx.1; rw [show oneS ⟨1, x, 0⟩ = x from rfl, this] at hd; cases hd
  | func x hx => have := name_nodigit hx.1; rw [show oneS ⟨2, x, 0⟩ = x ++ [40] from rfl, at0_app (isName_ne hx), this] at hd; cases hd
  | word x hx => exact absurd (show digit 64 = true from hd) (by decide)
  | hash x hne hx => exact absurd (show digit 35 = true from hd) (by decide)
  | num x n h1 h2 hx =>
    refine ⟨x, n, rfl, ?_, h2, hx⟩
    apply Classical.byContradiction
    intro hn
    have e : Lib.itoa n = 45 :: Lib.decDigits n.natAbs := by unfold Lib.itoa; rw [if_pos (by omega)]
    rw [one_num, e] at hd
    exact absurd (show digit 45 = true from hd) (by decide)
  | str x q hq hx => rcases hq with rfl | rfl
                     · exact absurd (show digit 34 = true from hd) (by decide)
                     · exact absurd (show digit 39 = true from hd) (by decide)
  | delim c h1 h2 h3 => rw [delim_head, h2] at hd; cases hd
  | white => exact absurd (show digit 10 = true from hd) (by decide)
theorem head_blank {t : Tok} (h : Good t) (hd : blank (at0 (oneS t)) = true) : t = ⟨8, [10], 0⟩ := by
  cases h with
  | ident x hx => have := within_blank (nameB_within hx.1); rw [show oneS ⟨1, x, 0⟩ = x from rfl, this] at hd; cases hd
  | func x hx => have := within_blank (nameB_within hx.1); rw [show oneS ⟨2, x, 0⟩ = x ++ [40] from rfl, at0_app (isName_ne hx), this] at hd; cases hd
  | word x hx => exact absurd (show blank 64 = true from hd) (by decide)
  | hash x hne hx => exact absurd (show blank 35 = true from hd) (by decide)
  | num x n h1 h2 hx =>
    rw [one_num, at0_app (itoa_ne n)] at hd
    rcases itoa_head n with h | h
    · rw [digit_blank h] at hd; cases hd
    · rw [h] at hd; exact absurd hd (by decide)
  | str x q hq hx => rcases hq with rfl | rfl
                     · exact absurd (show blank 34 = true from hd) (by decide)
                     · exact absurd (show blank 39 = true from hd) (by decide)
  | delim c h1 h2 h3 => rw [delim_head, h3] at hd; cases hd
  | white => rfl
theorem head_sign {t : Tok} {c : UInt8} (h : Good t) (hc : at0 (oneS t) = c) (hw : within c = false) (hb : blank c = false) (h34 : c ≠ 34) (h39 : c ≠ 39) (h35 : c ≠ 35) (h64 : c ≠ 64) : t = ⟨7, [c], 0⟩ := by
  cases h with
  | ident x hx => have := nameB_within hx.1; rw [show at0 x = c from hc, hw] at this; cases this
  | func x hx => have := nameB_within hx.1; rw [show oneS ⟨2, x, 0⟩ = x ++ [40] from rfl, at0_app (isName_ne hx)] at hc; rw [hc, hw] at this; cases this
  | word x hx => exact absurd (show 64 = c from hc).symm h64
  | hash x hne hx => exact absurd (show 35 = c from hc).symm h35
  | num x n h1 h2 hx =>
    rw [one_num, at0_app (itoa_ne n)] at hc
    rcases itoa_head n with h | h
    · rw [hc] at h; rw [digit_within h] at hw; cases hw
    · rw [hc] at h; rw [h] at hw; exact absurd hw (by decide)
  | str x q hq hx => rcases hq with rfl | rfl
                     · exact absurd (show 34 = c from hc).symm h34
                     · exact absurd (show 39 = c from hc).symm h39
  | delim d h1 h2 h3 => rw [delim_head] at hc; rw [hc]
  | white => rw [← show 10 = c from hc] at hb; exact absurd hb (by decide)
/-- a text of one byte, '-' -/
theorem head_dash {t : Tok} (h : Good t) (hc : oneS t = [45]) : t = ⟨7, [45], 0⟩ := by
  cases h with
  | ident x hx =>
    have := hx.1
    rw [show x = [45] from hc] at this
    exact absurd this (by decide)
  | func x hx =>
    have h2 := congrArg List.length (show x ++ [40] = [45] from hc)
    have h3 := isName_len hx
    simp only [List.length_append, List.length_cons, List.length_nil] at h2
    omega
  | word x hx => exact absurd (congrArg at0 hc) (show (64 : UInt8) ≠ 45 by decide)
  | hash x hne hx => exact absurd (congrArg at0 hc) (show (35 : UInt8) ≠ 45 by decide)
  | num x n h1 h2 hx =>
    rw [one_num] at hc
    unfold Lib.itoa at hc
    split at hc
    · rw [List.cons_append] at hc
      injection hc with _ hc
      exact absurd (List.append_eq_nil_iff.1 hc).1 (dec_ne _)
    · cases hl : Lib.decDigits n.toNat with
      | nil => exact absurd hl (dec_ne _)
      | cons c r =>
        have hd : digit c = true := dec_digits _ _ (Nat.le_refl _) c (by rw [hl]; simp)
        rw [hl] at hc
        have : c = 45 := congrArg at0 hc
        rw [this] at hd
        exact absurd hd (by decide)
  | str x q hq hx => rcases hq with rfl | rfl
                     · exact absurd (congrArg at0 hc) (show (34 : UInt8) ≠ 45 by decide)
                     · exact absurd (congrArg at0 hc) (show (39 : UInt8) ≠ 45 by decide)
  | delim d h1 h2 h3 =>
    have := congrArg at0 hc
    rw [delim_head] at this
    rw [show d = 45 from this]
  | white => exact absurd (congrArg at0 hc) (show (10 : UInt8) ≠ 45 by decide)

/-! ### what is not read as two stands not apart -/

theorem run_more {p : UInt8 → Bool} {x y : List UInt8} (h0 : p 0 = false) (h : ∀ b ∈ x, p b = true) (hy : p (at0 y) = true) : x.length < run p (x ++ y) := by
  rw [run_app h]
  have := (run_pos_iff h0).2 hy
  omega

theorem take_ne {l x : List UInt8} {n : Nat} (h1 : x.length < n) (h2 : n ≤ l.length) : l.take n ≠ x := fun e => by
  have := congrArg List.length e
  rw [List.length_take] at this
  omega

theorem sep_of {a b : Tok} (ha : Good a) (hb : Good b) (h : all (oneS a ++ oneS b) = [a, b]) : sep a (oneS b) := by
  have hbn := one_ne hb
  generalize hy : oneS b = y at h hbn
  cases ha with
  | ident x hx =>
    refine ⟨fun _ => ?_, fun e => absurd e (by simp), fun e => absurd e (by simp), fun e => absurd e (by simp), fun e => absurd e (by simp)⟩
    have e1 : oneS ⟨1, x, 0⟩ = x := rfl
    rw [e1] at h
    have hb := nameB_app (y := y) hx.1
    have hxn := isName_ne hx
    have hle := name_le (x ++ y)
    have hnm : name (x ++ y) = run within (x ++ y) := by rw [name, if_pos hb]
    have h1 : within (at0 y) = false := by
      cases hw : within (at0 y)
      · rfl
      · have hm := run_more within_zero hx.2 hw
        rw [← hnm] at hm
        have hne := take_ne hm hle
        cases x with
        | nil => exact absurd rfl hxn
        | cons c r =>
          rw [List.cons_append] at h hb
          rw [all_cons, step_name hb] at h
          split at h
          · injection h with h _
            injection h with h _
            exact absurd h (by decide)
          · injection h with h _
            injection h with _ h _
            exact absurd h hne
    refine ⟨h1, fun h40 => ?_⟩
    have hn := name_app hx h1
    cases x with
    | nil => exact absurd rfl hxn
    | cons c r =>
      rw [List.cons_append] at h hb hn
      rw [all_cons, step_name hb, hn, ← List.cons_append, List.drop_left, if_pos h40] at h
      injection h with h _
      injection h with h _
      exact absurd h (by decide)
  | func x hx => exact ⟨fun e => absurd e (by simp), fun e => absurd e (by simp), fun e => absurd e (by simp), fun e => absurd e (by simp), fun e => absurd e (by simp)⟩
  | word x hx =>
    refine ⟨fun e => absurd e (by simp), fun _ => ?_, fun e => absurd e (by simp), fun e => absurd e (by simp), fun e => absurd e (by simp)⟩
    have e1 : oneS ⟨3, x, 0⟩ = 64 :: x := rfl
    rw [e1, List.cons_append] at h
    have hb := nameB_app (y := y) hx.1
    have hle := name_le (x ++ y)
    have hnm : name (x ++ y) = run within (x ++ y) := by rw [name, if_pos hb]
    cases hw : within (at0 y)
    · rfl
    · have hm := run_more within_zero hx.2 hw
      rw [← hnm] at hm
      have hne := take_ne hm hle
      have e : step 64 (x ++ y) = (some ⟨3, (x ++ y).take (name (x ++ y)), 0⟩, name (x ++ y) + 1) := by
        unfold step
        rw [if_neg (fun e => absurd e.1 (by decide)), if_neg (by decide), if_neg (by simp), if_neg (by simp), if_pos ⟨rfl, by omega⟩]
      rw [all_cons, e] at h
      injection h with h _
      injection h with _ h _
      exact absurd h hne
  | hash x hne0 hx =>
    refine ⟨fun e => absurd e (by simp), fun _ => ?_, fun e => absurd e (by simp), fun e => absurd e (by simp), fun e => absurd e (by simp)⟩
    have e1 : oneS ⟨4, x, 0⟩ = 35 :: x := rfl
    rw [e1, List.cons_append] at h
    cases hw : within (at0 y)
    · rfl
    · have hm := run_more within_zero hx hw
      have hne := take_ne hm (run_le _)
      have e : step 35 (x ++ y) = (some ⟨4, (x ++ y).take (run within (x ++ y)), 0⟩, run within (x ++ y) + 1) := by
        unfold step
        rw [if_neg (fun e => absurd e.1 (by decide)), if_neg (by decide), if_neg (by simp), if_pos ⟨rfl, by omega⟩]
      rw [all_cons, e] at h
      injection h with h _
      injection h with _ h _
      exact absurd h hne
  | num x n h1 h2 hx =>
    refine ⟨fun e => absurd e (by simp), fun e => absurd e (by simp), fun _ => ?_, fun e => absurd e (by simp), fun e => absurd e (by simp)⟩
    rw [one_num, List.append_assoc] at h
    refine ⟨fun ex => ?_, fun hxn => ?_⟩
    · have ex' : x = [] := ex
      subst ex'
      rw [List.nil_append] at h
      have hdig : digit (at0 y) = false := by
        cases hd : digit (at0 y)
        · rfl
        · exfalso
          subst hy
          obtain ⟨x2, m, rfl, hm0, hm1, hx2⟩ := head_digit hb hd
          have hu := unit_sep (y := []) (n := m) hx2 (sep_nil _)
          rw [List.append_nil] at hu
          rw [one_num] at h
          have em : Lib.itoa m = Lib.decDigits m.toNat := by unfold Lib.itoa; rw [if_neg (by omega)]
          rw [em] at h
          have hd2 := dec_digits m.toNat m.toNat (Nat.le_refl _)
          have key : ∀ (neg : Bool) (u : Nat), (number neg (Lib.decDigits u ++ (Lib.decDigits m.toNat ++ x2))).2 = (Lib.decDigits u ++ (Lib.decDigits m.toNat ++ x2)).length := by
            intro neg u
            have hd1 := dec_digits u u (Nat.le_refl _)
            have hd3 : ∀ b ∈ Lib.decDigits u ++ Lib.decDigits m.toNat, digit b = true := fun b hb => by
              rcases List.mem_append.1 hb with hb | hb
              · exact hd1 b hb
              · exact hd2 b hb
            rw [← List.append_assoc]
            unfold number
            simp only
            rw [run_word hd3 hu.1, List.drop_left, hu.2]; simp only [List.length_append]
          by_cases hn : n < 0
          · have e : Lib.itoa n = 45 :: Lib.decDigits n.natAbs := by unfold Lib.itoa; rw [if_pos hn]
            have hh : digit (at0 (Lib.decDigits n.natAbs ++ (Lib.decDigits m.toNat ++ x2))) = true := by
              rw [at0_app (dec_ne _)]
              cases hl : Lib.decDigits n.natAbs with
              | nil => exact absurd hl (dec_ne _)
              | cons c r => exact dec_digits _ _ (Nat.le_refl _) c (by rw [hl]; simp)
            rw [e, List.cons_append, all_cons, step_minus hh] at h
            simp only [Option.toList_some, List.drop_succ_cons, List.cons_append, List.nil_append] at h
            rw [key, List.drop_length, all_nil] at h
            injection h with _ h
            cases h
          · have e : Lib.itoa n = Lib.decDigits n.toNat := by unfold Lib.itoa; rw [if_neg hn]
            rw [e] at h
            have k := key false n.toNat
            cases hl : Lib.decDigits n.toNat with
            | nil => exact absurd hl (dec_ne _)
            | cons c r =>
              have hc : digit c = true := dec_digits _ _ (Nat.le_refl _) c (by rw [hl]; simp)
              rw [hl] at h k
              rw [List.cons_append, all_cons, step_number hc] at h
              simp only [Option.toList_some, List.cons_append, List.nil_append] at h k
              rw [k, List.drop_length, all_nil] at h
              injection h with _ h
              cases h
      have hunit : y.take (unit y) = [] := by
        by_cases hn : n < 0
        · have e : Lib.itoa n = 45 :: Lib.decDigits n.natAbs := by unfold Lib.itoa; rw [if_pos hn]
          have hh : digit (at0 (Lib.decDigits n.natAbs ++ y)) = true := by
            rw [at0_app (dec_ne _)]
            cases hl : Lib.decDigits n.natAbs with
            | nil => exact absurd hl (dec_ne _)
            | cons c r => exact dec_digits _ _ (Nat.le_refl _) c (by rw [hl]; simp)
          rw [e, List.cons_append, all_cons, step_minus hh, number_app true (by omega) hdig] at h
          injection h with h _
          injection h with _ h _
        · have e : Lib.itoa n = Lib.decDigits n.toNat := by unfold Lib.itoa; rw [if_neg hn]
          rw [e] at h
          have k := number_app (u := n.toNat) false (by omega) hdig
          cases hl : Lib.decDigits n.toNat with
          | nil => exact absurd hl (dec_ne _)
          | cons c r =>
            have hc : digit c = true := dec_digits _ _ (Nat.le_refl _) c (by rw [hl]; simp)
            rw [hl] at h k
            rw [List.cons_append, all_cons, step_number hc, ← List.cons_append, k] at h
            injection h with h _
            injection h with _ h _
      have hu0 : unit y = 0 := by
        have := congrArg List.length hunit
        rw [List.length_take] at this
        have h3 := unit_le y
        simp only [List.length_nil] at this
        omega
      have h37 : at0 y ≠ 37 := fun e => by rw [unit, if_pos e] at hu0; cases hu0
      refine ⟨hdig, h37, ?_⟩
      rw [unit, if_neg h37] at hu0
      cases hnb : nameB y
      · rfl
      · have := name_pos_iff.2 hnb; omega
    · cases hw : within (at0 y)
      · rfl
      · exfalso
        have hxn : isName x := hxn
        have hdz : digit (at0 (x ++ y)) = false := by rw [at0_app (isName_ne hxn)]; exact name_nodigit hxn.1
        have h37 : at0 (x ++ y) ≠ 37 := by
          rw [at0_app (isName_ne hxn)]
          exact within_ne (nameB_within hxn.1) (by decide)
        have hun : unit (x ++ y) = run within (x ++ y) := by rw [unit, if_neg h37, name, if_pos (nameB_app hxn.1)]
        have hm := run_more within_zero hxn.2 hw
        rw [← hun] at hm
        have hne := take_ne hm (unit_le _)
        by_cases hn : n < 0
        · have e : Lib.itoa n = 45 :: Lib.decDigits n.natAbs := by unfold Lib.itoa; rw [if_pos hn]
          have hh : digit (at0 (Lib.decDigits n.natAbs ++ (x ++ y))) = true := by
            rw [at0_app (dec_ne _)]
            cases hl : Lib.decDigits n.natAbs with
            | nil => exact absurd hl (dec_ne _)
            | cons c r => exact dec_digits _ _ (Nat.le_refl _) c (by rw [hl]; simp)
          rw [e, List.cons_append, all_cons, step_minus hh, number_app true (by omega) hdz] at h
          injection h with h _
          injection h with _ h _
          exact hne h
        · have e : Lib.itoa n = Lib.decDigits n.toNat := by unfold Lib.itoa; rw [if_neg hn]
          rw [e] at h
          have k := number_app (u := n.toNat) false (by omega) hdz
          cases hl : Lib.decDigits n.toNat with
          | nil => exact absurd hl (dec_ne _)
          | cons c r =>
            have hc : digit c = true := dec_digits _ _ (Nat.le_refl _) c (by rw [hl]; simp)
            rw [hl] at h k
            rw [List.cons_append, all_cons, step_number hc, ← List.cons_append, k] at h
            injection h with h _
            injection h with _ h _
            exact hne h
  | str x q hq hx => exact ⟨fun e => absurd e (by simp), fun e => absurd e (by simp), fun e => absurd e (by simp), fun e => absurd e (by simp), fun e => absurd e (by simp)⟩
  | delim c h1 h2 h3 =>
    refine ⟨fun e => absurd e (by simp), fun e => absurd e (by simp), fun e => absurd e (by simp), fun e => absurd e (by simp), fun _ => ⟨fun e => ?_, fun e => ?_, fun e => ?_, fun e => ?_⟩⟩
    · obtain rfl : c = 47 := by simpa using e
      intro h42
      rw [← hy] at h42
      have := head_sign hb h42 (by decide) (by decide) (by decide) (by decide) (by decide) (by decide)
      subst this
      subst hy
      exact absurd h (by decide)
    · obtain rfl : c = 35 := by simpa using e
      rw [one_delim (by decide) (by decide), List.cons_append, List.nil_append] at h
      cases hw : within (at0 y)
      · rfl
      · have hp := (run_pos_iff within_zero).2 hw
        have e : step 35 y = (some ⟨4, y.take (run within y), 0⟩, run within y + 1) := by
          unfold step
          rw [if_neg (fun e => absurd e.1 (by decide)), if_neg (by decide), if_neg (by simp), if_pos ⟨rfl, hp⟩]
        rw [all_cons, e] at h
        injection h with h _
        injection h with h _
        exact absurd h (by decide)
    · obtain rfl : c = 64 := by simpa using e
      rw [one_delim (by decide) (by decide), List.cons_append, List.nil_append] at h
      cases hw : nameB y
      · rfl
      · have hp := name_pos_iff.2 hw
        have e : step 64 y = (some ⟨3, y.take (name y), 0⟩, name y + 1) := by
          unfold step
          rw [if_neg (fun e => absurd e.1 (by decide)), if_neg (by decide), if_neg (by simp), if_neg (by simp), if_pos ⟨rfl, hp⟩]
        rw [all_cons, e] at h
        injection h with h _
        injection h with h _
        exact absurd h (by decide)
    · obtain rfl : c = 45 := by simpa using e
      rw [one_delim (by decide) (by decide), List.cons_append, List.nil_append] at h
      constructor
      · cases hd : digit (at0 y)
        · rfl
        · rw [all_cons, step_minus hd] at h
          injection h with h _
          injection h with h _
          exact absurd h (by decide)
      · cases hw : nameB (45 :: y)
        · rfl
        · rw [all_cons, step_name hw] at h
          split at h
          · injection h with h _
            injection h with h _
            exact absurd h (by decide)
          · injection h with h _
            injection h with h _
            exact absurd h (by decide)
  | white =>
    refine ⟨fun e => absurd e (by simp), fun e => absurd e (by simp), fun e => absurd e (by simp), fun _ => ?_, fun e => absurd e (by simp)⟩
    cases hw : blank (at0 y)
    · rfl
    · rw [← hy] at hw
      have := head_blank hb hw
      subst this
      subst hy
      exact absurd h (by decide)

/-- what may stand behind a token may be followed by what may stand behind that -/
theorem sep_app {a b : Tok} {z : List UInt8} (hb : Good b) (h : sep a (oneS b)) (hz : sep b z) : sep a (oneS b ++ z) := by
  have hn := one_ne hb
  have h0 : at0 (oneS b ++ z) = at0 (oneS b) := at0_app hn
  have hdash : nameB (45 :: (oneS b ++ z)) = nameB (45 :: oneS b) := by
    have e : ∀ w, nameB (45 :: w) = (begins 45 || ((45 : UInt8) == 45 && (begins (at0 w) || at0 w == 45))) := fun _ => rfl
    rw [e, e, h0]
  have hname : nameB (oneS b) = false → nameB (oneS b ++ z) = false := by
    intro hf
    generalize ho : oneS b = o at *
    match o, hn with
    | [c], _ =>
      cases hc : nameB ([c] ++ z)
      · rfl
      · rcases nameB_cases hc with hcb | ⟨rfl, _⟩
        · have : nameB [c] = true := by simp [nameB, at0, hcb]
          rw [this] at hf; cases hf
        · have := head_dash hb ho
          subst this
          have h7 := (hz.2.2.2.2 rfl).2.2.2 rfl
          rw [show nameB ([45] ++ z) = nameB (45 :: z) from rfl, h7.2] at hc
          cases hc
    | c :: d :: r, _ => exact hf
  obtain ⟨s1, s2, s3, s4, s5⟩ := h
  unfold sep
  rw [h0, hdash]
  refine ⟨s1, s2, fun e => ⟨fun ex => ?_, (s3 e).2⟩, s4, fun e => ⟨(s5 e).1, (s5 e).2.1, fun ex => hname ((s5 e).2.2.1 ex), (s5 e).2.2.2⟩⟩
  obtain ⟨x1, x2, x3⟩ := (s3 e).1 ex
  exact ⟨x1, x2, hname x3⟩

/-! ### the statements -/

theorem rest_read : ∀ (l : List Tok) (a : Tok), Good a → (∀ t ∈ l, Good t) → sep a (rest a l) ∧ all (rest a l) = l
  | [], a, _, _ => ⟨sep_nil a, all_nil⟩
  | b :: l, a, ha, hl => by
    have hb := hl b (by simp)
    obtain ⟨h1, h2⟩ := rest_read l b hb (fun t ht => hl t (by simp [ht]))
    have h3 := all_one hb h1
    rw [h2] at h3
    rw [rest]
    cases hap : apart a b
    · simp only [Bool.false_eq_true, if_false, List.nil_append]
      have : all (oneS a ++ oneS b) = [a, b] := by
        simp only [apart, Bool.or_eq_false_iff, decide_eq_false_iff_not, Decidable.not_not] at hap
        exact hap.1
      exact ⟨sep_app hb (sep_of ha hb this) h1, h3⟩
    · simp only [if_true, List.cons_append, List.nil_append]
      exact ⟨sep_slash a _, by rw [all_between]; exact h3⟩

/-- THE STAGE'S THEOREM -/
theorem back {l : List Tok} (h : ∀ t ∈ l, Good t) : all (text l) = l := by
  cases l with
  | nil => rfl
  | cons a l =>
    obtain ⟨h1, h2⟩ := rest_read l a (h a (by simp)) (fun t ht => h t (by simp [ht]))
    rw [text, all_one (h a (by simp)) h1, h2]

theorem rest_snoc (b : Tok) : ∀ (l : List Tok) (a : Tok), ∃ s, rest a (l ++ [b]) = rest a l ++ (s ++ oneS b)
  | [], a => ⟨if apart a b then [47, 42, 42, 47] else [], by simp [rest]⟩
  | c :: l, a => by
    obtain ⟨s, e⟩ := rest_snoc b l c
    exact ⟨s, by rw [List.cons_append, rest, rest, e]; simp only [List.append_assoc]⟩
theorem text_snoc (b : Tok) (l : List Tok) : ∃ s, text (l ++ [b]) = text l ++ (s ++ oneS b) := by
  cases l with
  | nil => exact ⟨[], by simp [text, rest]⟩
  | cons a l =>
    obtain ⟨s, e⟩ := rest_snoc b l a
    exact ⟨s, by rw [List.cons_append, text, text, e]; simp only [List.append_assoc]⟩
theorem text_more {b : Tok} (hb : Good b) (l : List Tok) : (text l).length < (text (l ++ [b])).length := by
  obtain ⟨s, e⟩ := text_snoc b l
  have := List.length_pos_iff.2 (one_ne hb)
  rw [e]; simp only [List.length_append]; omega

/-! ### blanks, and comments -/

/-- each with a comment behind it, blanks in place of blanks -/
def spread (w c : List UInt8) : List Tok → List UInt8
  | [] => []
  | t :: l => (if t.kind = 8 then w else oneS t) ++ (47 :: 42 :: (c ++ spread w c l))

theorem blanks_read {w y : List UInt8} (hne : w ≠ []) (hw : ∀ b ∈ w, blank b = true) (hy : blank (at0 y) = false) : all (w ++ y) = ⟨8, [10], 0⟩ :: all y := by
  cases w with
  | nil => exact absurd rfl hne
  | cons c r =>
    have hr := run_word hw hy
    have hc := hw c (by simp)
    rw [List.cons_append] at hr ⊢
    have e : step c (r ++ y) = (some ⟨8, [10], 0⟩, (c :: r).length) := by
      unfold step
      rw [if_neg (fun e => by rw [e.1] at hc; exact absurd hc (by decide)), if_pos hc, hr]
    rw [all_cons, e, ← List.cons_append, List.drop_left]
    rfl

theorem spread_read {w c : List UInt8} (hne : w ≠ []) (hw : ∀ b ∈ w, blank b = true) (hc : ∀ z, all (47 :: 42 :: (c ++ z)) = all z) : ∀ {l : List Tok}, (∀ t ∈ l, Good t) → all (spread w c l) = l
  | [], _ => rfl
  | t :: l, h => by
    have ih := spread_read hne hw hc (l := l) (fun t ht => h t (by simp [ht]))
    rw [spread]
    split
    · rename_i hk
      rw [blanks_read hne hw (by rw [at0_cons]; decide), hc, ih]
      have := h t (by simp)
      cases this with
      | white => rfl
      | _ => exact absurd hk (by simp)
    · rw [all_one (h t (by simp)) (sep_slash _ _), hc, ih]
end Go.Abs.Tk
