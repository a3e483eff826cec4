/-
  TOKENS, in plain Lean: what each token has (ToksParts); two texts, and a comment between (ToksBoth). No program stands here.
-/
import Derived.Test.YtcnodcgdceoijaaDoorToksR
set_option linter.unusedSimpArgs false
set_option linter.unusedVariables false
namespace Go.Abs.Tk
open Go

/-! ### what each token has -/

theorem all_len (l : List UInt8) : (all l).length ≤ l.length := by
  refine all_ind (Q := fun l => (all l).length ≤ l.length) (Nat.le_refl _) (fun c r ih => ?_) l
  rw [all_cons, List.length_append]
  have h1 := step_pos c r
  have h2 := step_le c r
  have h3 : (step c r).1.toList.length ≤ 1 := by cases (step c r).1 <;> simp
  rw [List.length_drop] at ih
  simp only [List.length_cons] at *
  omega

theorem all_head_none {c : UInt8} {r : List UInt8} (h : (step c r).1 = none) : c = 47 ∧ at0 r = 42 ∧ (step c r).2 = comment r.tail := by
  unfold step at h ⊢
  split at h
  · rename_i hc
    rw [if_pos hc]
    exact ⟨hc.1, hc.2, rfl⟩
  · split at h
    · cases h
    split at h
    · cases h
    split at h
    · cases h
    split at h
    · cases h
    split at h
    · cases h
    split at h
    · cases h
    split at h
    · split at h <;> cases h
    · cases h

theorem step_white {c : UInt8} {r : List UInt8} {n : Int} {x : List UInt8} (h : (step c r).1 = some ⟨8, x, n⟩) : blank c = true ∧ (step c r).2 = run blank (c :: r) := by
  unfold step at h ⊢
  split at h
  · cases h
  rename_i h1
  rw [if_neg h1]
  split at h
  · rename_i h2
    rw [if_pos h2]
    exact ⟨h2, rfl⟩
  · split at h
    · exact absurd (congrArg Tok.kind (Option.some.inj h)) (by simp)
    split at h
    · exact absurd (congrArg Tok.kind (Option.some.inj h)) (by simp)
    split at h
    · exact absurd (congrArg Tok.kind (Option.some.inj h)) (by simp)
    split at h
    · exact absurd (congrArg Tok.kind (Option.some.inj h)) (by simp [number])
    split at h
    · exact absurd (congrArg Tok.kind (Option.some.inj h)) (by simp [number])
    split at h
    · split at h <;> exact absurd (congrArg Tok.kind (Option.some.inj h)) (by simp)
    · exact absurd (congrArg Tok.kind (Option.some.inj h)) (by simp)

/-- blanks in front, and no byte of theirs: a comment stands ahead -/
theorem white_far (l : List UInt8) : blank (at0 l) = false → ∀ t u, all l = t :: u → t.kind = 8 → 5 ≤ l.length := by
  intro hb t u h hk
  cases l with
  | nil => cases h
  | cons c r =>
    rw [all_cons] at h
    cases hs : (step c r).1 with
    | none =>
      obtain ⟨_, _, h3⟩ := all_head_none hs
      rw [hs, h3] at h
      simp only [Option.toList_none, List.nil_append] at h
      cases hl : (c :: r).drop (comment r.tail) with
      | nil => rw [hl] at h; cases h
      | cons d q =>
        have hlen := congrArg List.length hl
        rw [List.length_drop] at hlen
        simp only [List.length_cons] at hlen
        have h4 : 4 ≤ comment r.tail := by
          unfold comment at hlen ⊢
          split
          · rename_i n hn
            have := shut_le hn; omega
          · rename_i hn
            rw [hn] at hlen
            have : r.tail.length = r.length - 1 := List.length_tail
            simp only at hlen
            omega
        simp only [List.length_cons]; omega
    | some x =>
      rw [hs] at h
      simp only [Option.toList_some, List.cons_append, List.nil_append] at h
      injection h with h _
      subst h
      obtain ⟨k, y, n⟩ := x
      have hk : k = 8 := hk
      subst hk
      have := (step_white hs).1
      rw [at0_cons, this] at hb
      cases hb

/-- two blanks, one behind the other -/
theorem white_white (l : List UInt8) : ∀ (i : Nat) (a b : Tok), (all l)[i]? = some a → (all l)[i + 1]? = some b → a.kind = 8 → b.kind = 8 → 6 ≤ l.length := by
  refine all_ind (Q := fun l => ∀ (i : Nat) (a b : Tok), (all l)[i]? = some a → (all l)[i + 1]? = some b → a.kind = 8 → b.kind = 8 → 6 ≤ l.length) (fun i a b h => by simp [all_nil] at h) (fun c r ih i a b h1 h2 ha hb => ?_) l
  rw [all_cons] at h1 h2
  have hp := step_pos c r
  cases hs : (step c r).1 with
  | none =>
    rw [hs] at h1 h2
    have := ih i a b (by simpa using h1) (by simpa using h2) ha hb
    rw [List.length_drop] at this
    omega
  | some x =>
    rw [hs] at h1 h2
    simp only [Option.toList_some, List.cons_append, List.nil_append] at h1 h2
    cases i with
    | succ i =>
      simp only [List.getElem?_cons_succ] at h1 h2
      have := ih i a b h1 h2 ha hb
      rw [List.length_drop] at this
      omega
    | zero =>
      simp only [List.getElem?_cons_zero, List.getElem?_cons_succ, Option.some.injEq] at h1 h2
      subst h1
      obtain ⟨k, y, n⟩ := x
      have hk : k = 8 := ha
      subst hk
      obtain ⟨_, hn⟩ := step_white hs
      rw [hn] at h2 hp
      cases hl : all ((c :: r).drop (run blank (c :: r))) with
      | nil => rw [hl] at h2; cases h2
      | cons d q =>
        rw [hl] at h2
        simp only [List.getElem?_cons_zero, Option.some.injEq] at h2
        subst h2
        have := white_far _ (run_stop blank_zero (c :: r)) d q hl hb
        rw [List.length_drop] at this
        omega

/-! ### two texts, a comment between -/

section both
variable {R R' : List UInt8}

theorem at0_end (s : List UInt8) : at0 (s ++ 10 :: R) = at0 (s ++ 10 :: R') := by cases s <;> rfl
theorem tail_end {s : List UInt8} (h : s ≠ []) : (s ++ 10 :: R).tail = s.tail ++ 10 :: R := by
  cases s with
  | nil => exact absurd rfl h
  | cons c s => rfl
theorem run_end {p : UInt8 → Bool} (h : p 10 = false) : ∀ s : List UInt8, run p (s ++ 10 :: R) = run p s
  | [] => by rw [List.nil_append, run_zero (by rw [at0_cons]; exact h)]; rfl
  | c :: s => by
    rw [List.cons_append, run, run, run_end h s]
theorem nameB_end (s : List UInt8) : nameB (s ++ 10 :: R) = nameB s := by
  match s with
  | [] => exact nameB_head (c := 10) rfl (by decide)
  | [c] =>
    have e : ∀ (c d : UInt8) (w : List UInt8), nameB (c :: d :: w) = (begins c || (c == 45 && (begins d || d == 45))) := fun _ _ _ => rfl
    have e1 : ∀ (c : UInt8), nameB [c] = (begins c || (c == 45 && (begins 0 || (0 : UInt8) == 45))) := fun _ => rfl
    rw [List.cons_append, List.nil_append, e, e1]
    have h1 : (begins 10 || (10 : UInt8) == 45) = false := by decide
    have h2 : (begins 0 || (0 : UInt8) == 45) = false := by decide
    rw [h1, h2]
  | c :: d :: s => rfl
theorem name_end (s : List UInt8) : name (s ++ 10 :: R) = name s := by
  rw [name, name, nameB_end, run_end (by decide)]
theorem at0_drop_end (s : List UInt8) : ∀ n, n ≤ s.length → at0 ((s ++ 10 :: R).drop n) = at0 (s.drop n ++ [10]) := by
  intro n hn
  rw [List.drop_append_of_le_length hn]
  exact at0_end (R := R) (R' := []) _
theorem at0_ten (s : List UInt8) {d : UInt8} (h0 : d ≠ 0) (h10 : d ≠ 10) : (at0 (s ++ 10 :: R) = d) = (at0 s = d) := by
  cases s with
  | nil => exact propext ⟨fun h => absurd (show 10 = d from h).symm h10, fun h => absurd (show 0 = d from h).symm h0⟩
  | cons c s => rfl
theorem unit_end (s : List UInt8) : unit (s ++ 10 :: R) = unit s := by
  unfold unit
  simp only [name_end, at0_ten s (d := 37) (by decide) (by decide)]
theorem num_end : ∀ (s : List UInt8) (n : Int), num n (s ++ 10 :: R) = num n s
  | [], n => by rw [List.nil_append, num_stop (by rw [at0_cons]; decide)]; rfl
  | c :: s, n => by rw [List.cons_append, num, num, num_end s]
theorem number_end (neg : Bool) (s : List UInt8) : number neg (s ++ 10 :: R) = number neg s := by
  have h1 := run_le (p := digit) s
  unfold number
  simp only
  rw [run_end (by decide), num_end, List.drop_append_of_le_length h1, unit_end]
  rw [List.take_append_of_le_length (unit_le _)]
theorem inner_end {q : UInt8} (h : q ≠ 10) : ∀ s : List UInt8, inner q (s ++ 10 :: R) = inner q s
  | [] => by
    have : ending 10 = true := by decide
    rw [show inner q [] = none from rfl, List.nil_append, inner, if_neg (fun e => h e.symm), if_pos this]
  | c :: s => by rw [List.cons_append, inner, inner, inner_end h s]

/-- "\n*/\n" ends a comment, if one is open -/
theorem shut_end : ∀ s : List UInt8, ∃ n, (∀ R, shut (s ++ 10 :: 42 :: 47 :: 10 :: R) = some n) ∧ (n ≤ s.length ∨ n = s.length + 3)
  | [] => ⟨3, fun _ => rfl, .inr rfl⟩
  | c :: s => by
    obtain ⟨n, h2, h3⟩ := shut_end s
    by_cases hc : c = 42 ∧ at0 s = 47
    · refine ⟨2, fun R => ?_, .inl ?_⟩
      · rw [List.cons_append, shut, if_pos ⟨hc.1, by rw [at0_ten s (by decide) (by decide)]; exact hc.2⟩]
      · cases s with
        | nil => exact absurd hc.2 (by decide)
        | cons d s => simp
    · refine ⟨n + 1, fun R => ?_, by simp only [List.length_cons]; omega⟩
      rw [List.cons_append, shut, if_neg (fun e => hc ⟨e.1, by have := e.2; rwa [at0_ten s (by decide) (by decide)] at this⟩), h2]
      rfl

theorem blank_end : ∀ s : List UInt8, ∃ n, (∀ R, run blank (s ++ 10 :: 42 :: R) = n) ∧ (n ≤ s.length ∨ n = s.length + 1)
  | [] => ⟨1, fun R => by rw [List.nil_append, run, if_pos (by decide), run_zero (by rw [at0_cons]; decide)], .inr rfl⟩
  | c :: s => by
    obtain ⟨n, h1, h2⟩ := blank_end s
    cases hc : blank c
    · exact ⟨0, fun R => by rw [List.cons_append, run, if_neg (by simp [hc])], .inl (Nat.zero_le _)⟩
    · exact ⟨n + 1, fun R => by rw [List.cons_append, run, if_pos hc, h1], by simp only [List.length_cons]; omega⟩

/-- the step of a text that ends so, whatever stands behind; and how much of it is left -/
theorem step_end (c : UInt8) (s : List UInt8) : ∃ o n, (∀ R : List UInt8, step c (s ++ 10 :: 42 :: 47 :: 10 :: R) = (o, n)) ∧ (n ≤ s.length + 1 ∨ n = s.length + 2 ∨ n = s.length + 4) := by
  have dg : ∀ R, digit (at0 (s ++ 10 :: R)) = digit (at0 s) := fun R => by
    cases s with
    | nil => rfl
    | cons d s => rfl
  by_cases h1 : c = 47 ∧ at0 s = 42
  · cases s with
    | nil => exact absurd h1.2 (by decide)
    | cons d s =>
      obtain ⟨n, h2, h3⟩ := shut_end s
      refine ⟨none, n + 2, fun R => ?_, by simp only [List.length_cons]; omega⟩
      unfold step
      rw [if_pos ⟨h1.1, h1.2⟩]
      simp only [List.cons_append, List.tail_cons, comment, h2]
  have c1 : ∀ R, ¬ (c = 47 ∧ at0 (s ++ 10 :: R) = 42) := fun R e => h1 ⟨e.1, by have := e.2; rwa [at0_ten s (by decide) (by decide)] at this⟩
  by_cases h2 : blank c = true
  · obtain ⟨n, h3, h4⟩ := blank_end (c :: s)
    refine ⟨some ⟨8, [10], 0⟩, n, fun R => ?_, by simp only [List.length_cons] at h4; omega⟩
    unfold step
    rw [if_neg (c1 _), if_pos h2, ← List.cons_append, h3]
  have c10 : c ≠ 10 := fun e => h2 (by rw [e]; decide)
  by_cases h3 : (c = 34 ∨ c = 39) ∧ (inner c s).isSome = true
  · obtain ⟨n, hn⟩ := Option.isSome_iff_exists.1 h3.2
    have hl := inner_le hn
    refine ⟨some ⟨6, s.take n, c.toNat⟩, n + 2, fun R => ?_, .inl (by omega)⟩
    unfold step
    rw [if_neg (c1 _), if_neg h2, if_pos ⟨h3.1, by rw [inner_end c10]; exact h3.2⟩, inner_end c10, hn]
    simp only [Option.getD_some]
    rw [List.take_append_of_le_length (by omega)]
  by_cases h4 : c = 35 ∧ 0 < run within s
  · have hl := run_le (p := within) s
    refine ⟨some ⟨4, s.take (run within s), 0⟩, run within s + 1, fun R => ?_, .inl (by omega)⟩
    unfold step
    rw [if_neg (c1 _), if_neg h2, if_neg (by rw [inner_end c10]; exact h3), if_pos (by rw [run_end (by decide)]; exact h4), run_end (by decide), List.take_append_of_le_length hl]
  by_cases h5 : c = 64 ∧ 0 < name s
  · have hl := name_le s
    refine ⟨some ⟨3, s.take (name s), 0⟩, name s + 1, fun R => ?_, .inl (by omega)⟩
    unfold step
    rw [if_neg (c1 _), if_neg h2, if_neg (by rw [inner_end c10]; exact h3), if_neg (by rw [run_end (by decide)]; exact h4), if_pos (by rw [name_end]; exact h5), name_end, List.take_append_of_le_length hl]
  by_cases h6 : digit c = true
  · have hl := number_le false (c :: s)
    refine ⟨some (number false (c :: s)).1, (number false (c :: s)).2, fun R => ?_, .inl (by simpa using hl)⟩
    unfold step
    rw [if_neg (c1 _), if_neg h2, if_neg (by rw [inner_end c10]; exact h3), if_neg (by rw [run_end (by decide)]; exact h4), if_neg (by rw [name_end]; exact h5), if_pos h6, ← List.cons_append, number_end]
  by_cases h7 : c = 45 ∧ digit (at0 s) = true
  · have hl := number_le true s
    refine ⟨some (number true s).1, (number true s).2 + 1, fun R => ?_, .inl (by omega)⟩
    unfold step
    rw [if_neg (c1 _), if_neg h2, if_neg (by rw [inner_end c10]; exact h3), if_neg (by rw [run_end (by decide)]; exact h4), if_neg (by rw [name_end]; exact h5), if_neg h6, if_pos (by rw [dg]; exact h7), number_end]
  by_cases h8 : 0 < name (c :: s)
  · have hl := name_le (c :: s)
    have hd : ∀ R, (at0 ((c :: s ++ 10 :: R).drop (name (c :: s))) = 40) = (at0 ((c :: s).drop (name (c :: s))) = 40) := fun R => by
      rw [List.drop_append_of_le_length hl, at0_ten _ (by decide) (by decide)]
    have ht : ∀ R, (c :: s ++ 10 :: R).take (name (c :: s)) = (c :: s).take (name (c :: s)) := fun R => List.take_append_of_le_length hl
    by_cases h40 : at0 ((c :: s).drop (name (c :: s))) = 40
    · have hl2 : name (c :: s) ≠ (c :: s).length := fun e => by
        rw [e, List.drop_length] at h40; exact absurd h40 (by decide)
      simp only [List.length_cons] at hl hl2
      refine ⟨some ⟨2, (c :: s).take (name (c :: s)), 0⟩, name (c :: s) + 1, fun R => ?_, .inl (by omega)⟩
      unfold step
      rw [if_neg (c1 _), if_neg h2, if_neg (by rw [inner_end c10]; exact h3), if_neg (by rw [run_end (by decide)]; exact h4), if_neg (by rw [name_end]; exact h5), if_neg h6, if_neg (by rw [dg]; exact h7), ← List.cons_append, name_end, if_pos h8, if_pos (by rw [hd]; exact h40), ht]
    · refine ⟨some ⟨1, (c :: s).take (name (c :: s)), 0⟩, name (c :: s), fun R => ?_, .inl (by simpa using hl)⟩
      unfold step
      rw [if_neg (c1 _), if_neg h2, if_neg (by rw [inner_end c10]; exact h3), if_neg (by rw [run_end (by decide)]; exact h4), if_neg (by rw [name_end]; exact h5), if_neg h6, if_neg (by rw [dg]; exact h7), ← List.cons_append, name_end, if_pos h8, if_neg (by rw [hd]; exact h40), ht]
  · refine ⟨some ⟨7, [c], 0⟩, 1, fun R => ?_, .inl (by omega)⟩
    unfold step
    rw [if_neg (c1 _), if_neg h2, if_neg (by rw [inner_end c10]; exact h3), if_neg (by rw [run_end (by decide)]; exact h4), if_neg (by rw [name_end]; exact h5), if_neg h6, if_neg (by rw [dg]; exact h7), ← List.cons_append, name_end, if_neg h8]

theorem end1 (t : List UInt8) : all (10 :: 47 :: 42 :: 120 :: 42 :: 47 :: t) = ⟨8, [10], 0⟩ :: all t := by
  have h := all_one (y := 47 :: 42 :: 120 :: 42 :: 47 :: t) .white (sep_slash _ _)
  have e : all (47 :: 42 :: 120 :: 42 :: 47 :: t) = all t := by rw [all_cons]; rfl
  rw [e] at h
  exact h
theorem end0 : all [10] = [⟨8, [10], 0⟩] := good_all .white
theorem end3 (R : List UInt8) : all (42 :: 47 :: 10 :: R) = ⟨7, [42], 0⟩ :: ⟨7, [47], 0⟩ :: all (10 :: R) := by
  rw [all_cons, step_delim (by decide) (by decide) (by decide) (by decide) (by decide) (sep_sign (c := 47) rfl _ (by decide) (by decide) (by decide) (by decide) (by decide))]
  simp only [Option.toList_some, List.drop_succ_cons, List.drop_zero, List.cons_append, List.nil_append]
  rw [all_cons, step_delim (by decide) (by decide) (by decide) (by decide) (by decide) ⟨fun e => absurd e (by simp), fun e => absurd e (by simp), fun e => absurd e (by simp), fun e => absurd e (by simp), fun _ => ⟨fun _ => by rw [at0_cons]; decide, fun e => absurd e (by simp), fun e => absurd e (by simp), fun e => absurd e (by simp)⟩⟩]
  simp only [Option.toList_some, List.drop_succ_cons, List.drop_zero, List.cons_append, List.nil_append]
theorem end4 (R : List UInt8) : all (10 :: 42 :: 47 :: 10 :: R) = ⟨8, [10], 0⟩ :: all (42 :: 47 :: 10 :: R) :=
  all_one (y := 42 :: 47 :: 10 :: R) .white (by
    unfold sep
    refine ⟨fun e => absurd e (by simp), fun e => absurd e (by simp), fun e => absurd e (by simp), fun _ => by rw [at0_cons]; decide, fun e => absurd e (by simp)⟩)

/-- the tokens of a text that ends so, and of what stands behind it -/
theorem both (t : List UInt8) : ∀ (k : Nat) (s : List UInt8), s.length ≤ k → all (s ++ 10 :: 42 :: 47 :: 10 :: 47 :: 42 :: 120 :: 42 :: 47 :: t) = all (s ++ [10, 42, 47, 10]) ++ all t := by
  have z : all (10 :: 42 :: 47 :: 10 :: 47 :: 42 :: 120 :: 42 :: 47 :: t) = all [10, 42, 47, 10] ++ all t := by
    rw [end4, end4, end3, end3, end1, end0]; rfl
  intro k
  induction k with
  | zero =>
    intro s hs
    obtain rfl : s = [] := List.length_eq_zero_iff.1 (by omega)
    exact z
  | succ k ih =>
    intro s hs
    cases s with
    | nil => exact z
    | cons c s =>
      obtain ⟨o, n, h1, h2⟩ := step_end c s
      have hp := step_pos c (s ++ 10 :: 42 :: 47 :: 10 :: [])
      rw [h1] at hp
      simp only [List.length_cons] at hs hp
      rw [List.cons_append, List.cons_append, all_cons, all_cons, h1, h1, List.append_assoc]
      congr 1
      simp only
      rw [← List.cons_append, ← List.cons_append]
      rcases h2 with h2 | h2 | h2
      · rw [List.drop_append_of_le_length (by simpa using h2), List.drop_append_of_le_length (by simpa using h2)]
        exact ih _ (by rw [List.length_drop, List.length_cons]; omega)
      · have e : n = (c :: s).length + 1 := by simp [h2]
        rw [e, ← List.drop_drop, ← List.drop_drop, List.drop_left, List.drop_left]
        simp only [List.drop_succ_cons, List.drop_zero]
        rw [end3, end3, end1, end0]; rfl
      · have e : n = (c :: s).length + 3 := by simp [h2]
        rw [e, ← List.drop_drop, ← List.drop_drop, List.drop_left, List.drop_left]
        simp only [List.drop_succ_cons, List.drop_zero]
        rw [end1, end0]; rfl
end both
end Go.Abs.Tk
