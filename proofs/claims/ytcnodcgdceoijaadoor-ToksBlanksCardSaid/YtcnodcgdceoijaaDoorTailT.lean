/-
  TOKENS: how long their texts are; the fixed calls of layer 1; what reads as tokens (the texts ToksU, FixT, TyP, RowT in one).
-/
import Derived.Test.YtcnodcgdceoijaaDoorToksS
import Derived.Test.YtcnodcgdceoijaaDoorSpecC
import Derived.Test.YtcnodcgdceoijaaDoorBridge
set_option linter.unusedSimpArgs false
set_option linter.unusedVariables false
namespace Go.Abs.Tk
open Go

theorem good_num {t : Tok} (h : Good t) : -999999999 ≤ t.n ∧ t.n ≤ 999999999 := by
  cases h with
  | num x n h1 h2 hx => exact ⟨h1, h2⟩
  | str x q hq hx =>
    have := q.toNat_lt
    simp only; omega
  | _ => simp

theorem unit_len (l : List UInt8) : (l.take (unit l)).length ≤ l.length := by rw [List.length_take]; omega

theorem step_text {c : UInt8} {r : List UInt8} {t : Tok} (h : (step c r).1 = some t) : t.text.length ≤ r.length + 1 := by
  unfold step at h
  split at h
  · cases h
  split at h
  · cases h; simp
  split at h
  · cases h; simp only [List.length_take]; omega
  split at h
  · cases h; simp only [List.length_take]; omega
  split at h
  · cases h; simp only [List.length_take]; omega
  split at h
  · cases h
    have := unit_len ((c :: r).drop (run digit (c :: r)))
    simp only [List.length_drop, List.length_cons] at this
    simp only [number]; omega
  split at h
  · cases h
    have := unit_len (r.drop (run digit r))
    simp only [List.length_drop] at this
    simp only [number]; omega
  split at h
  · split at h
    · cases h; simp only [List.length_take, List.length_cons]; omega
    · cases h; simp only [List.length_take, List.length_cons]; omega
  · cases h; simp

theorem all_text (l : List UInt8) : ∀ t ∈ all l, t.text.length ≤ l.length := by
  refine all_ind (Q := fun l => ∀ t ∈ all l, t.text.length ≤ l.length) (fun t h => by simp [all_nil] at h) (fun c r ih t ht => ?_) l
  rw [all_cons] at ht
  rcases List.mem_append.1 ht with ht | ht
  · have := step_text (by simpa [Option.mem_toList] using ht)
    simpa using this
  · have := ih t ht
    rw [List.length_drop] at this
    omega

theorem rest_len {m : Nat} : ∀ (l : List Tok) (a : Tok), (∀ t ∈ l, (oneS t).length ≤ m) → (rest a l).length ≤ l.length * (m + 4)
  | [], _, _ => by simp [rest]
  | b :: l, a, h => by
    have h1 := rest_len l b fun t ht => h t (by simp [ht])
    have h2 := h b (by simp)
    have h3 : (if apart a b then ([47, 42, 42, 47] : List UInt8) else []).length ≤ 4 := by split <;> simp
    rw [rest]
    simp only [List.length_append, List.length_cons]
    rw [Nat.add_mul, Nat.one_mul]
    omega
theorem text_len {m : Nat} (l : List Tok) (h : ∀ t ∈ l, (oneS t).length ≤ m) : (text l).length ≤ l.length * (m + 4) := by
  cases l with
  | nil => simp [text]
  | cons a l =>
    have h1 := rest_len l a fun t ht => h t (by simp [ht])
    have h2 := h a (by simp)
    rw [text]
    simp only [List.length_append, List.length_cons]
    rw [Nat.add_mul, Nat.one_mul]
    omega
end Go.Abs.Tk
namespace Go.Abs
open Go Go.Proofs
theorem fixed1_run : callN K 400 25 [] [] = some (.ret (B true) []) := by kernel_rfl
theorem fixed1_den : den K 25 [] [] = some (.ret (B true) []) := den_iff.2 ⟨400, fixed1_run⟩
end Go.Abs
namespace Go.Abs
open Go Go.Proofs

/-! ### Data of a type -/

def fieldTys (P : Program) (t : TypeId) : Option (List (TypeId × Nat × Nat)) :=
  match P.underlying t with
  | some (.struct fs) => some (fs.toList.map fun f => (f.type, f.offset, P.cellsOf f.type))
  | _ => none

section
variable {P : Program} {t e : TypeId} {n : Nat} {ps : List PV}

theorem TyP_int {k : IntKind} (h : descOf P t = some (.int k)) (hp : TyP P n t ps) : ∃ z, ps = [.int k z] ∧ (Lit.int k z).wf = true := by
  cases n with
  | zero => exact hp.elim
  | succ n => unfold TyP at hp; rw [desc_int h] at hp; exact hp

theorem TyP_str (h : descOf P t = some .str) (hp : TyP P n t ps) : ∃ s, ps = [.str s] ∧ s.length ≤ reachBytes := by
  cases n with
  | zero => exact hp.elim
  | succ n => unfold TyP at hp; rw [desc_str h] at hp; exact hp

theorem TyP_sl {b : Bool} (h : descOf P t = some (.sl e b)) (hp : TyP P n t ps) : ∃ m c, n = m + 1 ∧ ps = [.sl c] ∧ c.length ≤ reachBytes ∧ ∀ el ∈ c, TyP P m e el := by
  cases n with
  | zero => exact hp.elim
  | succ n =>
    unfold TyP at hp
    rw [(desc_sl h).1] at hp
    obtain ⟨c, h1, h2, h3⟩ := hp
    exact ⟨n, c, rfl, h1, h2, h3⟩

theorem TyP_struct {l : List (TypeId × Nat × Nat)} {sz : Nat} (h : fieldTys P t = some l) (hs : P.cellsOf t = sz) (hp : TyP P n t ps) : ∃ m, n = m + 1 ∧ ps.length = sz ∧ ∀ (i : Nat) (x : TypeId × Nat × Nat), l[i]? = some x → TyP P m x.1 ((ps.drop x.2.1).take x.2.2) := by
  cases n with
  | zero => exact hp.elim
  | succ n =>
    unfold fieldTys at h
    split at h
    case h_2 => cases h
    rename_i fs hu
    cases h
    unfold TyP at hp
    rw [hu] at hp
    obtain ⟨h1, h2⟩ := hp
    refine ⟨n, rfl, by rw [h1, hs], fun i x hx => ?_⟩
    rw [List.getElem?_map, Option.map_eq_some_iff] at hx
    obtain ⟨f, hf, rfl⟩ := hx
    exact h2 i f (by simpa using hf)

theorem list_of {α : Type} {f : α → List PV} {Q : α → Prop} : ∀ {c : List (List PV)}, (∀ el ∈ c, ∃ x, el = f x ∧ Q x) → ∃ l : List α, c = l.map f ∧ ∀ x ∈ l, Q x
  | [], _ => ⟨[], rfl, by simp⟩
  | el :: c, h => by
    obtain ⟨x, rfl, hx⟩ := h el (by simp)
    obtain ⟨l, rfl, hl⟩ := list_of (c := c) fun y hy => h y (by simp [hy])
    exact ⟨x :: l, rfl, fun y hy => by
      rcases List.mem_cons.1 hy with rfl | hy
      · exact hx
      · exact hl y hy⟩

theorem wf_I64 {z : Int} (h : (Lit.int .i64 z).wf = true) : I64 z := by
  simp only [Lit.wf, Bool.and_eq_true, decide_eq_true_eq] at h
  exact h
end

theorem len2 {α : Type} {l : List α} (h : l.length = 2) : ∃ a b, l = [a, b] := by
  match l, h with
  | [a, b], _ => exact ⟨a, b, rfl⟩
theorem len3 {α : Type} {l : List α} (h : l.length = 3) : ∃ a b c, l = [a, b, c] := by
  match l, h with
  | [a, b, c], _ => exact ⟨a, b, c, rfl⟩
theorem len6 {α : Type} {l : List α} (h : l.length = 6) : ∃ a b c d e f, l = [a, b, c, d, e, f] := by
  match l, h with
  | [a, b, c, d, e, f], _ => exact ⟨a, b, c, d, e, f, rfl⟩
end Go.Abs
namespace Go.Abs
open Go Go.Proofs
set_option maxRecDepth 100000

theorem ft_tok : fieldTys Tryd.prog 46 = some [(3, 0, 1), (9, 1, 1), (3, 2, 1)] := by kernel_rfl

/-- a token of a sheet that is read -/
def Tok.Ok (t : Tok) : Prop := I64 t.kind ∧ I64 t.n ∧ t.text.length ≤ reachBytes

theorem ty_tok {n : Nat} {ps : List PV} (hp : TyP Tryd.prog n 46 ps) : ∃ x : Tok, ps = x.enc ∧ x.Ok := by
  obtain ⟨m, rfl, hl, hf⟩ := TyP_struct (sz := 3) ft_tok (by kernel_rfl) hp
  obtain ⟨p0, p1, p2, rfl⟩ := len3 hl
  obtain ⟨k, hk, hkw⟩ := TyP_int ty_descOf_3 (hf 0 _ rfl)
  obtain ⟨s, hs, hsl⟩ := TyP_str ty_descOf_9 (hf 1 _ rfl)
  obtain ⟨a, ha, haw⟩ := TyP_int ty_descOf_3 (hf 2 _ rfl)
  simp at hk hs ha
  subst hk; subst hs; subst ha
  exact ⟨⟨k, s, a⟩, rfl, wf_I64 hkw, wf_I64 haw, hsl⟩

theorem ty_toks {n : Nat} {ps : List PV} (hp : TyP Tryd.prog n 44 ps) : ∃ l : List Tok, ps = [.sl (l.map Tok.enc)] ∧ l.length ≤ reachBytes ∧ ∀ x ∈ l, x.Ok := by
  obtain ⟨j, c, rfl, rfl, hcl, hce⟩ := TyP_sl ty_descOf_44 hp
  obtain ⟨l, rfl, hlo⟩ := list_of (f := Tok.enc) (Q := Tok.Ok) fun el hel => ty_tok (hce el hel)
  exact ⟨l, rfl, by simpa using hcl, hlo⟩

def flatT : List TypeId := [4, 3, 9, 46, 44]
theorem flatT_ok : flatSet Tryd.prog flatT = true := by kernel_rfl
theorem argOf_tok (ps : List PV) : argOf Tryd.prog 46 ps = .agg (ps.map CV.pv) := by
  unfold argOf; rw [Tryd.underlying46]
theorem argOf_toks (p : PV) : argOf Tryd.prog 44 [p] = .c (.pv p) := by
  unfold argOf; rw [Tryd.underlying44]
theorem argOf_str (p : PV) : argOf Tryd.prog 9 [p] = .c (.pv p) := by
  unfold argOf; rw [Tryd.underlying9]
theorem argOf_num (p : PV) : argOf Tryd.prog 3 [p] = .c (.pv p) := by
  unfold argOf; rw [Tryd.underlying3]

theorem args1 {t : TypeId} {pss : List (List PV)} {Q : Prop} (h : All2 (fun t p => ∃ n, TyP Tryd.prog n t p) [t] pss) (hq : ∀ n p, TyP Tryd.prog n t p → pss = [p] → Q) : Q := by
  cases h with
  | cons h1 h =>
  cases h
  obtain ⟨n, h1⟩ := h1
  exact hq n _ h1 rfl
theorem args2 {t u : TypeId} {pss : List (List PV)} {Q : Prop} (h : All2 (fun t p => ∃ n, TyP Tryd.prog n t p) [t, u] pss) (hq : ∀ n m p q, TyP Tryd.prog n t p → TyP Tryd.prog m u q → pss = [p, q] → Q) : Q := by
  cases h with
  | cons h1 h =>
  cases h with
  | cons h2 h =>
  cases h
  obtain ⟨n, h1⟩ := h1
  obtain ⟨m, h2⟩ := h2
  exact hq n m _ _ h1 h2 rfl
theorem args3 {t u v : TypeId} {pss : List (List PV)} {Q : Prop} (h : All2 (fun t p => ∃ n, TyP Tryd.prog n t p) [t, u, v] pss) (hq : ∀ n m k p q r, TyP Tryd.prog n t p → TyP Tryd.prog m u q → TyP Tryd.prog k v r → pss = [p, q, r] → Q) : Q := by
  cases h with
  | cons h1 h =>
  cases h with
  | cons h2 h =>
  cases h with
  | cons h3 h =>
  cases h
  obtain ⟨n, h1⟩ := h1
  obtain ⟨m, h2⟩ := h2
  obtain ⟨k, h3⟩ := h3
  exact hq n m k _ _ _ h1 h2 h3 rfl
end Go.Abs
