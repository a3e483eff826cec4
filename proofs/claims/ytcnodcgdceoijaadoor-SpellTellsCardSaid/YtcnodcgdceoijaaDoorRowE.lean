/-
  WHAT READS AS SELECTORS are selectors; the statement SpellParts.
-/
import Derived.Test.YtcnodcgdceoijaaDoorLawSpellParts
import Derived.Test.YtcnodcgdceoijaaDoorBridge
set_option linter.unusedSimpArgs false
set_option linter.unusedVariables false
namespace Go.Abs
open Go Go.Proofs

/-! ### Data of a type -/

def fieldTys (P : Program) (t : TypeId) : Option (List (TypeId × Nat × Nat)) :=
  match P.underlying t with
  | some (.struct fs) => some (fs.toList.map fun f => (f.type, f.offset, P.cellsOf f.type))
  | _ => none

section
variable {P : Program} {t e : TypeId} {n : Nat} {ps : List PV}

theorem TyP_int {k : IntKind} (h : descOf P t = some (.int k)) (hp : TyP P n t ps) : ∃ z, ps = [.int k z] ∧ (Lit.int k z).wf = true := by
  cases n with
  | zero => exact hp.elim
  | succ n => unfold TyP at hp; rw [desc_int h] at hp; exact hp

theorem TyP_str (h : descOf P t = some .str) (hp : TyP P n t ps) : ∃ s, ps = [.str s] ∧ s.length ≤ reachBytes := by
  cases n with
  | zero => exact hp.elim
  | succ n => unfold TyP at hp; rw [desc_str h] at hp; exact hp

theorem TyP_sl {b : Bool} (h : descOf P t = some (.sl e b)) (hp : TyP P n t ps) : ∃ m c, n = m + 1 ∧ ps = [.sl c] ∧ c.length ≤ reachBytes ∧ ∀ el ∈ c, TyP P m e el := by
  cases n with
  | zero => exact hp.elim
  | succ n =>
    unfold TyP at hp
    rw [(desc_sl h).1] at hp
    obtain ⟨c, h1, h2, h3⟩ := hp
    exact ⟨n, c, rfl, h1, h2, h3⟩

theorem TyP_struct {l : List (TypeId × Nat × Nat)} {sz : Nat} (h : fieldTys P t = some l) (hs : P.cellsOf t = sz) (hp : TyP P n t ps) : ∃ m, n = m + 1 ∧ ps.length = sz ∧ ∀ (i : Nat) (x : TypeId × Nat × Nat), l[i]? = some x → TyP P m x.1 ((ps.drop x.2.1).take x.2.2) := by
  cases n with
  | zero => exact hp.elim
  | succ n =>
    unfold fieldTys at h
    split at h
    case h_2 => cases h
    rename_i fs hu
    cases h
    unfold TyP at hp
    rw [hu] at hp
    obtain ⟨h1, h2⟩ := hp
    refine ⟨n, rfl, by rw [h1, hs], fun i x hx => ?_⟩
    rw [List.getElem?_map, Option.map_eq_some_iff] at hx
    obtain ⟨f, hf, rfl⟩ := hx
    exact h2 i f (by simpa using hf)

theorem list_of {α : Type} {f : α → List PV} {Q : α → Prop} : ∀ {c : List (List PV)}, (∀ el ∈ c, ∃ x, el = f x ∧ Q x) → ∃ l : List α, c = l.map f ∧ ∀ x ∈ l, Q x
  | [], _ => ⟨[], rfl, by simp⟩
  | el :: c, h => by
    obtain ⟨x, rfl, hx⟩ := h el (by simp)
    obtain ⟨l, rfl, hl⟩ := list_of (c := c) fun y hy => h y (by simp [hy])
    exact ⟨x :: l, rfl, fun y hy => by
      rcases List.mem_cons.1 hy with rfl | hy
      · exact hx
      · exact hl y hy⟩

theorem wf_I64 {z : Int} (h : (Lit.int .i64 z).wf = true) : I64 z := by
  simp only [Lit.wf, Bool.and_eq_true, decide_eq_true_eq] at h
  exact h
end

theorem len2 {α : Type} {l : List α} (h : l.length = 2) : ∃ a b, l = [a, b] := by
  match l, h with
  | [a, b], _ => exact ⟨a, b, rfl⟩
theorem len3 {α : Type} {l : List α} (h : l.length = 3) : ∃ a b c, l = [a, b, c] := by
  match l, h with
  | [a, b, c], _ => exact ⟨a, b, c, rfl⟩
theorem len6 {α : Type} {l : List α} (h : l.length = 6) : ∃ a b c d e f, l = [a, b, c, d, e, f] := by
  match l, h with
  | [a, b, c, d, e, f], _ => exact ⟨a, b, c, d, e, f, rfl⟩

/-! ### Selectors -/

set_option maxRecDepth 100000

theorem ft_sim : fieldTys Tryd.prog 34 = some [(3, 0, 1), (9, 1, 1), (9, 2, 1), (3, 3, 1), (3, 4, 1), (29, 5, 1)] := by kernel_rfl
theorem ft_prt : fieldTys Tryd.prog 31 = some [(3, 0, 1), (29, 1, 1)] := by kernel_rfl
theorem ft_cpx : fieldTys Tryd.prog 28 = some [(26, 0, 1), (9, 1, 1)] := by kernel_rfl

theorem ty_sim : ∀ (n : Nat) (ps : List PV), TyP Tryd.prog n 34 ps → ∃ x : Sim, ps = x.enc ∧ x.Ok := by
  intro n
  induction n using Nat.strongRecOn with
  | _ n ih =>
    intro ps hp
    obtain ⟨m, rfl, hl, hf⟩ := TyP_struct (sz := 6) ft_sim (by kernel_rfl) hp
    obtain ⟨p0, p1, p2, p3, p4, p5, rfl⟩ := len6 hl
    obtain ⟨k, hk, hkw⟩ := TyP_int ty_descOf_3 (hf 0 _ rfl)
    obtain ⟨s, hs, hsl⟩ := TyP_str ty_descOf_9 (hf 1 _ rfl)
    obtain ⟨v, hv, hvl⟩ := TyP_str ty_descOf_9 (hf 2 _ rfl)
    obtain ⟨a, ha, haw⟩ := TyP_int ty_descOf_3 (hf 3 _ rfl)
    obtain ⟨b, hb, hbw⟩ := TyP_int ty_descOf_3 (hf 4 _ rfl)
    obtain ⟨j, c, rfl, hc, hcl, hce⟩ := TyP_sl ty_descOf_29 (hf 5 _ rfl)
    obtain ⟨l, rfl, hlo⟩ := list_of (f := Sim.enc) (Q := Sim.Ok) fun el hel => ih j (by omega) el (hce el hel)
    simp at hk hs hv ha hb hc
    subst hk; subst hs; subst hv; subst ha; subst hb; subst hc
    exact ⟨.mk k s v a b l, (Sim.enc_mk ..).symm, .mk (wf_I64 haw) (wf_I64 hbw) hsl hvl (by simpa using hcl) hlo⟩

theorem ty_prt {n : Nat} {ps : List PV} (hp : TyP Tryd.prog n 31 ps) : ∃ x : Prt, ps = x.enc ∧ x.Ok := by
  obtain ⟨m, rfl, hl, hf⟩ := TyP_struct (sz := 2) ft_prt (by kernel_rfl) hp
  obtain ⟨p0, p1, rfl⟩ := len2 hl
  obtain ⟨k, hk, hkw⟩ := TyP_int ty_descOf_3 (hf 0 _ rfl)
  obtain ⟨j, c, rfl, hc, hcl, hce⟩ := TyP_sl ty_descOf_29 (hf 1 _ rfl)
  obtain ⟨l, rfl, hlo⟩ := list_of (f := Sim.enc) (Q := Sim.Ok) fun el hel => ty_sim j el (hce el hel)
  simp at hk hc
  subst hk; subst hc
  exact ⟨⟨k, l⟩, rfl, ⟨by simpa using hcl, hlo⟩⟩

theorem ty_cpx {n : Nat} {ps : List PV} (hp : TyP Tryd.prog n 28 ps) : ∃ x : Cpx, ps = x.enc ∧ x.Ok := by
  obtain ⟨m, rfl, hl, hf⟩ := TyP_struct (sz := 2) ft_cpx (by kernel_rfl) hp
  obtain ⟨p0, p1, rfl⟩ := len2 hl
  obtain ⟨j, c, rfl, hc, hcl, hce⟩ := TyP_sl ty_descOf_26 (hf 0 _ rfl)
  obtain ⟨s, hs, hsl⟩ := TyP_str ty_descOf_9 (hf 1 _ rfl)
  obtain ⟨l, rfl, hlo⟩ := list_of (f := Prt.enc) (Q := Prt.Ok) fun el hel => ty_prt (hce el hel)
  simp at hs hc
  subst hs; subst hc
  exact ⟨⟨l, s⟩, rfl, ⟨by simpa using hcl, hlo, hsl⟩⟩

theorem ty_cpxs {n : Nat} {ps : List PV} (hp : TyP Tryd.prog n 22 ps) : ∃ l : List Cpx, ps = [.sl (l.map Cpx.enc)] ∧ l.length ≤ reachBytes ∧ ∀ x ∈ l, x.Ok := by
  obtain ⟨j, c, rfl, rfl, hcl, hce⟩ := TyP_sl ty_descOf_22 hp
  obtain ⟨l, rfl, hlo⟩ := list_of (f := Cpx.enc) (Q := Cpx.Ok) fun el hel => ty_cpx (hce el hel)
  exact ⟨l, rfl, by simpa using hcl, hlo⟩

def flatE : List TypeId := [4, 3, 9, 34, 29, 31, 26, 28, 22]
theorem flatE_ok : flatSet Tryd.prog flatE = true := by kernel_rfl
theorem argOf_cpx (ps : List PV) : argOf Tryd.prog 28 ps = .agg (ps.map CV.pv) := by
  unfold argOf; rw [Tryd.underlying28]
theorem argOf_cpxs (p : PV) : argOf Tryd.prog 22 [p] = .c (.pv p) := by
  unfold argOf; rw [Tryd.underlying22]

theorem SpellParts_args (pss : List (List PV)) (h : All2 (fun t p => ∃ n, TyP Tryd.prog n t p) Tryd.f5.params.toList pss) :
    den K 5 (List.zipWith (argOf Tryd.prog) Tryd.f5.params.toList pss) [] = some (.ret (.c (.pv (.bool true))) []) := by
  have hp : Tryd.f5.params.toList = [28, 28, 22] := rfl
  rw [hp] at h ⊢
  cases h with
  | cons h1 h =>
  cases h with
  | cons h2 h =>
  cases h with
  | cons h3 h =>
  cases h
  obtain ⟨n1, h1⟩ := h1
  obtain ⟨n2, h2⟩ := h2
  obtain ⟨n3, h3⟩ := h3
  obtain ⟨a, rfl, ha⟩ := ty_cpx h1
  obtain ⟨b, rfl, hb⟩ := ty_cpx h2
  obtain ⟨l, rfl, hll, hl⟩ := ty_cpxs h3
  simp only [List.zipWith_cons_cons, List.zipWith_nil_left, argOf_cpx, argOf_cpxs]
  exact SpellParts_den a b l ha hb hl hll
end Go.Abs
