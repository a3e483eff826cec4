/-
  DATA OF A TYPE: what reads as a value of a struct, of a slice.
-/
import Derived.Test.YtcnodcgdceoijaaDoorBridge
import Derived.Test.YtcnodcgdceoijaaDoorSpecC
set_option linter.unusedSimpArgs false
set_option linter.unusedVariables false
namespace Go.Abs
open Go Go.Proofs

/-! ### Data of a type -/

def fieldTys (P : Program) (t : TypeId) : Option (List (TypeId × Nat × Nat)) :=
  match P.underlying t with
  | some (.struct fs) => some (fs.toList.map fun f => (f.type, f.offset, P.cellsOf f.type))
  | _ => none

section
variable {P : Program} {t e : TypeId} {n : Nat} {ps : List PV}

theorem TyP_int {k : IntKind} (h : descOf P t = some (.int k)) (hp : TyP P n t ps) : ∃ z, ps = [.int k z] ∧ (Lit.int k z).wf = true := by
  cases n with
  | zero => exact hp.elim
  | succ n => unfold TyP at hp; rw [desc_int h] at hp; exact hp

theorem TyP_str (h : descOf P t = some .str) (hp : TyP P n t ps) : ∃ s, ps = [.str s] ∧ s.length ≤ reachBytes := by
  cases n with
  | zero => exact hp.elim
  | succ n => unfold TyP at hp; rw [desc_str h] at hp; exact hp

theorem TyP_sl {b : Bool} (h : descOf P t = some (.sl e b)) (hp : TyP P n t ps) : ∃ m c, n = m + 1 ∧ ps = [.sl c] ∧ c.length ≤ reachBytes ∧ ∀ el ∈ c, TyP P m e el := by
  cases n with
  | zero => exact hp.elim
  | succ n =>
    unfold TyP at hp
    rw [(desc_sl h).1] at hp
    obtain ⟨c, h1, h2, h3⟩ := hp
    exact ⟨n, c, rfl, h1, h2, h3⟩

theorem TyP_struct {l : List (TypeId × Nat × Nat)} {sz : Nat} (h : fieldTys P t = some l) (hs : P.cellsOf t = sz) (hp : TyP P n t ps) : ∃ m, n = m + 1 ∧ ps.length = sz ∧ ∀ (i : Nat) (x : TypeId × Nat × Nat), l[i]? = some x → TyP P m x.1 ((ps.drop x.2.1).take x.2.2) := by
  cases n with
  | zero => exact hp.elim
  | succ n =>
    unfold fieldTys at h
    split at h
    case h_2 => cases h
    rename_i fs hu
    cases h
    unfold TyP at hp
    rw [hu] at hp
    obtain ⟨h1, h2⟩ := hp
    refine ⟨n, rfl, by rw [h1, hs], fun i x hx => ?_⟩
    rw [List.getElem?_map, Option.map_eq_some_iff] at hx
    obtain ⟨f, hf, rfl⟩ := hx
    exact h2 i f (by simpa using hf)

theorem list_of {α : Type} {f : α → List PV} {Q : α → Prop} : ∀ {c : List (List PV)}, (∀ el ∈ c, ∃ x, el = f x ∧ Q x) → ∃ l : List α, c = l.map f ∧ ∀ x ∈ l, Q x
  | [], _ => ⟨[], rfl, by simp⟩
  | el :: c, h => by
    obtain ⟨x, rfl, hx⟩ := h el (by simp)
    obtain ⟨l, rfl, hl⟩ := list_of (c := c) fun y hy => h y (by simp [hy])
    exact ⟨x :: l, rfl, fun y hy => by
      rcases List.mem_cons.1 hy with rfl | hy
      · exact hx
      · exact hl y hy⟩

theorem wf_I64 {z : Int} (h : (Lit.int .i64 z).wf = true) : I64 z := by
  simp only [Lit.wf, Bool.and_eq_true, decide_eq_true_eq] at h
  exact h
end

theorem len2 {α : Type} {l : List α} (h : l.length = 2) : ∃ a b, l = [a, b] := by
  match l, h with
  | [a, b], _ => exact ⟨a, b, rfl⟩
theorem len3 {α : Type} {l : List α} (h : l.length = 3) : ∃ a b c, l = [a, b, c] := by
  match l, h with
  | [a, b, c], _ => exact ⟨a, b, c, rfl⟩
theorem len6 {α : Type} {l : List α} (h : l.length = 6) : ∃ a b c d e f, l = [a, b, c, d, e, f] := by
  match l, h with
  | [a, b, c, d, e, f], _ => exact ⟨a, b, c, d, e, f, rfl⟩
end Go.Abs
