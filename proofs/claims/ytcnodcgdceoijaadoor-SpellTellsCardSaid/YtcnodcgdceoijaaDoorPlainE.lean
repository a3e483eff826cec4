/-
  PLAIN LAWS OF LAYER 5: how long the texts of few selectors are; the text of parts, of lists.
-/
import Derived.Test.YtcnodcgdceoijaaDoorSpecF
set_option linter.unusedSimpArgs false
set_option linter.unusedVariables false
namespace Go.Abs
open Go Go.Proofs

theorem nthS_len {a b : Int} (ha : I64 a) (hb : I64 b) : (nthS a b).length ≤ 50 := by
  have h1 := itoa_len ha
  have h2 := itoa_len hb
  unfold nthS
  split <;> split <;> (try split) <;> simp <;> omega

theorem valueS_len (s : List UInt8) : (valueS s).length = s.length + 2 := by
  unfold valueS; split <;> simp

theorem ite_len {c : Prop} [Decidable c] {x y : List UInt8} {n : Nat} (h1 : x.length ≤ n) (h2 : y.length ≤ n) : (if c then x else y).length ≤ n := by
  split <;> assumption

/-- the text of one, by what it has within -/
theorem simS_len (k : Int) (n v : List UInt8) (a b : Int) (l : List Sim) (ha : I64 a) (hb : I64 b) (hn : n.length ≤ 100) (hv : v.length ≤ 100) : (simS (.mk k n v a b l)).length ≤ 250 + (simsS l).length := by
  have h1 := nthS_len ha hb
  have h2 := valueS_len v
  rw [simS]
  repeat' apply ite_len
  all_goals ((try simp only [List.length_append, List.length_cons, List.length_nil]); omega)

theorem sims_len (l : List Sim) (m : Int) (hx : ∀ x ∈ l, ∀ k : Int, k ≤ m → x.big = false → cntX x (k + 1) m ≤ m → k ≤ cntX x (k + 1) m ∧ (simS x).length ≤ 300 * (cntX x (k + 1) m - k)) : ∀ k : Int, cntL l k m ≤ m → k ≤ cntL l k m ∧ (simsS l).length ≤ 300 * (cntL l k m - k) := by
  induction l with
  | nil => intro k _; rw [cntL, simsS]; simp
  | cons x l ih =>
    intro k h
    rw [cntL] at h ⊢
    by_cases hk : k ≤ m
    · rw [if_pos hk] at h ⊢
      by_cases hb : x.big = true
      · rw [if_pos hb] at h; omega
      · rw [if_neg hb] at h ⊢
        have hc : cntX x (k + 1) m ≤ m := by
          rcases Int.lt_or_le m (cntX x (k + 1) m) with h' | h'
          · rw [cntL_over l h'] at h; omega
          · exact h'
        obtain ⟨h1, h2⟩ := hx x (by simp) k hk (by simpa using hb) hc
        obtain ⟨h3, h4⟩ := ih (fun y hy => hx y (by simp [hy])) _ h
        rw [simsS, List.length_append]
        refine ⟨by omega, by push_cast; omega⟩
    · rw [if_neg hk] at h; omega

theorem sim_len (x : Sim) (hx : x.Ok) : ∀ k m : Int, k ≤ m → x.big = false → cntX x (k + 1) m ≤ m → k ≤ cntX x (k + 1) m ∧ (simS x).length ≤ 300 * (cntX x (k + 1) m - k) := by
  induction hx with
  | @mk q n v a b l ha hb hn hv hll hl ih =>
    intro k m hk hbig hc
    rw [cntX] at hc ⊢
    simp only [Sim.big, Bool.or_eq_false_iff, decide_eq_false_iff_not] at hbig
    obtain ⟨h1, h2⟩ := sims_len l m (fun x hx k hk => ih x hx k m hk) (k + 1) hc
    have := simS_len q n v a b l ha hb (by omega) (by omega)
    exact ⟨by omega, by omega⟩

theorem simsS_len (l : List Sim) (hl : ∀ x ∈ l, x.Ok) (k m : Int) (h : cntL l k m ≤ m) : k ≤ cntL l k m ∧ (simsS l).length ≤ 300 * (cntL l k m - k) :=
  sims_len l m (fun x hx k hk => sim_len x (hl x hx) k m hk) k h

theorem combS_len (n : Int) : (combS n).length ≤ 1 := by
  unfold combS
  repeat' split
  all_goals simp

theorem prts_len : ∀ (ps : List Prt), (∀ p ∈ ps, p.Ok) → ∀ n m : Int, prtsC ps n m ≤ m → n ≤ prtsC ps n m ∧ (ps.flatMap prtS).length ≤ ps.length + 300 * (prtsC ps n m - n)
  | [], _, n, m, h => by rw [prtsC] at h ⊢; simp
  | p :: ps, hp, n, m, h => by
    rw [prtsC] at h ⊢
    by_cases hn : n ≤ m
    · rw [if_pos hn] at h ⊢
      have hge := prtsC_ge ps (fun q hq => hp q (by simp [hq])) (cntL p.l n m) m
      obtain ⟨h1, h2⟩ := simsS_len p.l (hp p (by simp)).all n m (by omega)
      obtain ⟨h3, h4⟩ := prts_len ps (fun q hq => hp q (by simp [hq])) _ m h
      have hc := combS_len p.comb
      rw [List.flatMap_cons, List.length_append, List.length_cons]
      have : (prtS p).length = (combS p.comb).length + (simsS p.l).length := by rw [prtS, List.length_append]
      exact ⟨by omega, by push_cast; omega⟩
    · rw [if_neg hn] at h; omega

theorem pseS_len (s : List UInt8) : (pseS s).length ≤ s.length + 2 := by
  unfold pseS; split <;> simp

/-- what 'Small' gives -/
theorem cpxs_small : ∀ (l : List Cpx), (∀ c ∈ l, c.Ok) → ∀ (n m k : Int), cpxsC l n m = some k → k ≤ m → n ≤ k ∧ (((l.map fun c => (cpxS c).length).sum : Nat) : Int) ≤ 300 * (k - n) + 102 * l.length ∧ ∀ c ∈ l, c.pseudo.length ≤ 100 ∧ (c.parts.length : Int) ≤ k - n
  | [], _, n, m, k, h, hk => by rw [cpxsC] at h; cases h; simp
  | c :: l, hc, n, m, k, h, hk => by
    rw [cpxsC] at h
    by_cases hn : n ≤ m
    · rw [if_pos hn] at h
      split at h
      · cases h
      · rename_i hp
        have hcl := hc c (by simp)
        obtain ⟨h1, h2, h3⟩ := cpxs_small l (fun d hd => hc d (by simp [hd])) _ m k h hk
        obtain ⟨h4, h5⟩ := prts_len c.parts hcl.all (n + c.parts.length) m (by omega)
        have h6 := pseS_len c.pseudo
        have h7 : (cpxS c).length = (c.parts.flatMap prtS).length + (pseS c.pseudo).length := by rw [cpxS, List.length_append]
        refine ⟨by omega, ?_, fun d hd => ?_⟩
        · simp only [List.map_cons, List.sum_cons, List.length_cons]
          push_cast
          omega
        · rcases List.mem_cons.1 hd with rfl | hd
          · exact ⟨by omega, by omega⟩
          · obtain ⟨h8, h9⟩ := h3 d hd
            exact ⟨h8, by omega⟩
    · rw [if_neg hn] at h
      cases h; omega

theorem sum_mem {α : Type} (f : α → Nat) : ∀ {l : List α} {x : α}, x ∈ l → f x ≤ (l.map f).sum
  | y :: l, x, h => by
    rw [List.map_cons, List.sum_cons]
    rcases List.mem_cons.1 h with rfl | h
    · omega
    · have := sum_mem f h; omega

theorem join_cons (x : List UInt8) : ∀ (y : List UInt8) (l : List (List UInt8)), Lib.join (x :: y :: l) [44] = x ++ 44 :: Lib.join (y :: l) [44] := fun y l => by
  simp [Lib.join, List.intercalate]

theorem join_one (x : List UInt8) : Lib.join [x] [44] = x := by simp [Lib.join, List.intercalate]

theorem join_len : ∀ (l : List (List UInt8)), (Lib.join l [44]).length ≤ (l.map List.length).sum + l.length
  | [] => by simp [Lib.join, List.intercalate]
  | [x] => by rw [join_one]; simp
  | x :: y :: l => by
    rw [join_cons]
    have := join_len (y :: l)
    simp only [List.length_append, List.length_cons, List.map_cons, List.sum_cons] at this ⊢
    omega

theorem join_snoc (a : List UInt8) : ∀ (l : List (List UInt8)), l ≠ [] → Lib.join (l ++ [a]) [44] = Lib.join l [44] ++ 44 :: a
  | [], h => absurd rfl h
  | [x], _ => by rw [List.singleton_append, join_cons, join_one, join_one]
  | x :: y :: l, _ => by
    have := join_snoc a (y :: l) (by simp)
    rw [List.cons_append, List.cons_append, join_cons, join_cons, ← List.cons_append, this]
    simp

theorem small_lens {l : List Cpx} (hok : ∀ c ∈ l, c.Ok) {m : Int} (h : smallS l m = true) : (l.length : Int) ≤ m ∧ (listS l).length ≤ 1000 * m.toNat ∧ ∀ c ∈ l, (cpxS c).length ≤ 1000 * m.toNat ∧ c.pseudo.length ≤ 100 ∧ (c.parts.length : Int) ≤ m := by
  unfold smallS at h
  split at h
  · cases h
  · rename_i k hk
    have hkm : k ≤ m := by simpa using h
    obtain ⟨h1, h2, h3⟩ := cpxs_small l hok _ m k hk hkm
    have hj := join_len (l.map cpxS)
    rw [List.map_map, List.length_map] at hj
    have hj' : (listS l).length ≤ (l.map fun c => (cpxS c).length).sum + l.length := hj
    refine ⟨by omega, by omega, fun c hc => ?_⟩
    have h4 := sum_mem (fun c => (cpxS c).length) hc
    obtain ⟨h5, h6⟩ := h3 c hc
    refine ⟨by omega, h5, by omega⟩

/-! ### What the statements say -/

theorem cpx_parts (ps qs : List Prt) (s : List UInt8) : cpxS ⟨ps ++ qs, s⟩ = cpxS ⟨ps, []⟩ ++ cpxS ⟨qs, s⟩ := by
  simp [cpxS, pseS]

theorem list_snoc (l : List Cpx) (a : Cpx) (h : l ≠ []) : listS (l ++ [a]) = listS l ++ 44 :: cpxS a := by
  unfold listS
  rw [List.map_append, List.map_cons, List.map_nil, join_snoc _ _ (by simpa using h)]
end Go.Abs
