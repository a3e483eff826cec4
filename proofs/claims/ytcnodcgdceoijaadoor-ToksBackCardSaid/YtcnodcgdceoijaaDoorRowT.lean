/-
  WHAT READS AS TOKENS are tokens.
-/
import Derived.Test.YtcnodcgdceoijaaDoorTyP
set_option linter.unusedSimpArgs false
set_option linter.unusedVariables false
namespace Go.Abs
open Go Go.Proofs
set_option maxRecDepth 100000

theorem ft_tok : fieldTys Tryd.prog 46 = some [(3, 0, 1), (9, 1, 1), (3, 2, 1)] := by kernel_rfl

/-- a token of a sheet that is read -/
def Tok.Ok (t : Tok) : Prop := I64 t.kind ∧ I64 t.n ∧ t.text.length ≤ reachBytes

theorem ty_tok {n : Nat} {ps : List PV} (hp : TyP Tryd.prog n 46 ps) : ∃ x : Tok, ps = x.enc ∧ x.Ok := by
  obtain ⟨m, rfl, hl, hf⟩ := TyP_struct (sz := 3) ft_tok (by kernel_rfl) hp
  obtain ⟨p0, p1, p2, rfl⟩ := len3 hl
  obtain ⟨k, hk, hkw⟩ := TyP_int ty_descOf_3 (hf 0 _ rfl)
  obtain ⟨s, hs, hsl⟩ := TyP_str ty_descOf_9 (hf 1 _ rfl)
  obtain ⟨a, ha, haw⟩ := TyP_int ty_descOf_3 (hf 2 _ rfl)
  simp at hk hs ha
  subst hk; subst hs; subst ha
  exact ⟨⟨k, s, a⟩, rfl, wf_I64 hkw, wf_I64 haw, hsl⟩

theorem ty_toks {n : Nat} {ps : List PV} (hp : TyP Tryd.prog n 44 ps) : ∃ l : List Tok, ps = [.sl (l.map Tok.enc)] ∧ l.length ≤ reachBytes ∧ ∀ x ∈ l, x.Ok := by
  obtain ⟨j, c, rfl, rfl, hcl, hce⟩ := TyP_sl ty_descOf_44 hp
  obtain ⟨l, rfl, hlo⟩ := list_of (f := Tok.enc) (Q := Tok.Ok) fun el hel => ty_tok (hce el hel)
  exact ⟨l, rfl, by simpa using hcl, hlo⟩

def flatT : List TypeId := [4, 3, 9, 46, 44]
theorem flatT_ok : flatSet Tryd.prog flatT = true := by kernel_rfl
theorem argOf_tok (ps : List PV) : argOf Tryd.prog 46 ps = .agg (ps.map CV.pv) := by
  unfold argOf; rw [Tryd.underlying46]
theorem argOf_toks (p : PV) : argOf Tryd.prog 44 [p] = .c (.pv p) := by
  unfold argOf; rw [Tryd.underlying44]
theorem argOf_str (p : PV) : argOf Tryd.prog 9 [p] = .c (.pv p) := by
  unfold argOf; rw [Tryd.underlying9]
theorem argOf_num (p : PV) : argOf Tryd.prog 3 [p] = .c (.pv p) := by
  unfold argOf; rw [Tryd.underlying3]

theorem args1 {t : TypeId} {pss : List (List PV)} {Q : Prop} (h : All2 (fun t p => ∃ n, TyP Tryd.prog n t p) [t] pss) (hq : ∀ n p, TyP Tryd.prog n t p → pss = [p] → Q) : Q := by
  cases h with
  | cons h1 h =>
  cases h
  obtain ⟨n, h1⟩ := h1
  exact hq n _ h1 rfl
theorem args2 {t u : TypeId} {pss : List (List PV)} {Q : Prop} (h : All2 (fun t p => ∃ n, TyP Tryd.prog n t p) [t, u] pss) (hq : ∀ n m p q, TyP Tryd.prog n t p → TyP Tryd.prog m u q → pss = [p, q] → Q) : Q := by
  cases h with
  | cons h1 h =>
  cases h with
  | cons h2 h =>
  cases h
  obtain ⟨n, h1⟩ := h1
  obtain ⟨m, h2⟩ := h2
  exact hq n m _ _ h1 h2 rfl
theorem args3 {t u v : TypeId} {pss : List (List PV)} {Q : Prop} (h : All2 (fun t p => ∃ n, TyP Tryd.prog n t p) [t, u, v] pss) (hq : ∀ n m k p q r, TyP Tryd.prog n t p → TyP Tryd.prog m u q → TyP Tryd.prog k v r → pss = [p, q, r] → Q) : Q := by
  cases h with
  | cons h1 h =>
  cases h with
  | cons h2 h =>
  cases h with
  | cons h3 h =>
  cases h
  obtain ⟨n, h1⟩ := h1
  obtain ⟨m, h2⟩ := h2
  obtain ⟨k, h3⟩ := h3
  exact hq n m k _ _ _ h1 h2 h3 rfl
end Go.Abs
