/-
  TOKENS, in plain Lean: how long their texts are. No program stands here.
-/
import Derived.Test.YtcnodcgdceoijaaDoorToksS
set_option linter.unusedSimpArgs false
set_option linter.unusedVariables false
namespace Go.Abs.Tk
open Go

theorem good_num {t : Tok} (h : Good t) : -999999999 ≤ t.n ∧ t.n ≤ 999999999 := by
  cases h with
  | num x n h1 h2 hx => exact ⟨h1, h2⟩
  | str x q hq hx =>
    have := q.toNat_lt
    simp only; omega
  | _ => simp

theorem unit_len (l : List UInt8) : (l.take (unit l)).length ≤ l.length := by rw [List.length_take]; omega

theorem step_text {c : UInt8} {r : List UInt8} {t : Tok} (h : (step c r).1 = some t) : t.text.length ≤ r.length + 1 := by
  unfold step at h
  split at h
  · cases h
  split at h
  · cases h; simp
  split at h
  · cases h; simp only [List.length_take]; omega
  split at h
  · cases h; simp only [List.length_take]; omega
  split at h
  · cases h; simp only [List.length_take]; omega
  split at h
  · cases h
    have := unit_len ((c :: r).drop (run digit (c :: r)))
    simp only [List.length_drop, List.length_cons] at this
    simp only [number]; omega
  split at h
  · cases h
    have := unit_len (r.drop (run digit r))
    simp only [List.length_drop] at this
    simp only [number]; omega
  split at h
  · split at h
    · cases h; simp only [List.length_take, List.length_cons]; omega
    · cases h; simp only [List.length_take, List.length_cons]; omega
  · cases h; simp

theorem all_text (l : List UInt8) : ∀ t ∈ all l, t.text.length ≤ l.length := by
  refine all_ind (Q := fun l => ∀ t ∈ all l, t.text.length ≤ l.length) (fun t h => by simp [all_nil] at h) (fun c r ih t ht => ?_) l
  rw [all_cons] at ht
  rcases List.mem_append.1 ht with ht | ht
  · have := step_text (by simpa [Option.mem_toList] using ht)
    simpa using this
  · have := ih t ht
    rw [List.length_drop] at this
    omega

theorem rest_len {m : Nat} : ∀ (l : List Tok) (a : Tok), (∀ t ∈ l, (oneS t).length ≤ m) → (rest a l).length ≤ l.length * (m + 4)
  | [], _, _ => by simp [rest]
  | b :: l, a, h => by
    have h1 := rest_len l b fun t ht => h t (by simp [ht])
    have h2 := h b (by simp)
    have h3 : (if apart a b then ([47, 42, 42, 47] : List UInt8) else []).length ≤ 4 := by split <;> simp
    rw [rest]
    simp only [List.length_append, List.length_cons]
    rw [Nat.add_mul, Nat.one_mul]
    omega
theorem text_len {m : Nat} (l : List Tok) (h : ∀ t ∈ l, (oneS t).length ≤ m) : (text l).length ≤ l.length * (m + 4) := by
  cases l with
  | nil => simp [text]
  | cons a l =>
    have h1 := rest_len l a fun t ht => h t (by simp [ht])
    have h2 := h a (by simp)
    rw [text]
    simp only [List.length_append, List.length_cons]
    rw [Nat.add_mul, Nat.one_mul]
    omega
end Go.Abs.Tk
