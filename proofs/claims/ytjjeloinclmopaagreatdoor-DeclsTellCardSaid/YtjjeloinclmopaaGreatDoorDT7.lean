/-
  DATA OF A TYPE: what reads as a value of a struct, of a slice; what reads as tokens, and as values.
  DATA OF A TYPE: what reads as declarations.
  WHAT READS AS THE ARGUMENTS: the statement DeclsTell.
-/
import Derived.Test.YtjjeloinclmopaaGreatDoorDT6
set_option linter.unusedSimpArgs false
set_option linter.unusedVariables false
namespace Go.Abs
open Go Go.Proofs
def fieldTys (P : Program) (t : TypeId) : Option (List (TypeId × Nat × Nat)) :=
  match P.underlying t with
  | some (.struct fs) => some (fs.toList.map fun f => (f.type, f.offset, P.cellsOf f.type))
  | _ => none
section
variable {P : Program} {t e : TypeId} {n : Nat} {ps : List PV}
theorem TyP_int {k : IntKind} (h : descOf P t = some (.int k)) (hp : TyP P n t ps) : ∃ z, ps = [.int k z] ∧ (Lit.int k z).wf = true := by
  cases n with
  | zero => exact hp.elim
  | succ n => unfold TyP at hp; rw [desc_int h] at hp; exact hp
theorem TyP_str (h : descOf P t = some .str) (hp : TyP P n t ps) : ∃ s, ps = [.str s] ∧ s.length ≤ reachBytes := by
  cases n with
  | zero => exact hp.elim
  | succ n => unfold TyP at hp; rw [desc_str h] at hp; exact hp
theorem TyP_sl {b : Bool} (h : descOf P t = some (.sl e b)) (hp : TyP P n t ps) : ∃ m c, n = m + 1 ∧ ps = [.sl c] ∧ c.length ≤ reachBytes ∧ ∀ el ∈ c, TyP P m e el := by
  cases n with
  | zero => exact hp.elim
  | succ n =>
    unfold TyP at hp
    rw [(desc_sl h).1] at hp
    obtain ⟨c, h1, h2, h3⟩ := hp
    exact ⟨n, c, rfl, h1, h2, h3⟩
theorem TyP_struct {l : List (TypeId × Nat × Nat)} {sz : Nat} (h : fieldTys P t = some l) (hs : P.cellsOf t = sz) (hp : TyP P n t ps) : ∃ m, n = m + 1 ∧ ps.length = sz ∧ ∀ (i : Nat) (x : TypeId × Nat × Nat), l[i]? = some x → TyP P m x.1 ((ps.drop x.2.1).take x.2.2) := by
  cases n with
  | zero => exact hp.elim
  | succ n =>
    unfold fieldTys at h
    split at h
    case h_2 => cases h
    rename_i fs hu
    cases h
    unfold TyP at hp
    rw [hu] at hp
    obtain ⟨h1, h2⟩ := hp
    refine ⟨n, rfl, by rw [h1, hs], fun i x hx => ?_⟩
    rw [List.getElem?_map, Option.map_eq_some_iff] at hx
    obtain ⟨f, hf, rfl⟩ := hx
    exact h2 i f (by simpa using hf)
theorem list_of {α : Type} {f : α → List PV} {Q : α → Prop} : ∀ {c : List (List PV)}, (∀ el ∈ c, ∃ x, el = f x ∧ Q x) → ∃ l : List α, c = l.map f ∧ ∀ x ∈ l, Q x
  | [], _ => ⟨[], rfl, by simp⟩
  | el :: c, h => by
    obtain ⟨x, rfl, hx⟩ := h el (by simp)
    obtain ⟨l, rfl, hl⟩ := list_of (c := c) fun y hy => h y (by simp [hy])
    exact ⟨x :: l, rfl, fun y hy => by
      rcases List.mem_cons.1 hy with rfl | hy
      · exact hx
      · exact hl y hy⟩
theorem wf_I64 {z : Int} (h : (Lit.int .i64 z).wf = true) : I64 z := by
  simp only [Lit.wf, Bool.and_eq_true, decide_eq_true_eq] at h
  exact h
end
theorem len3p {α : Type} {l : List α} (h : l.length = 3) : ∃ a b c, l = [a, b, c] := by
  match l, h with
  | [a, b, c], _ => exact ⟨a, b, c, rfl⟩
end Go.Abs
namespace Go.Abs
open Go Go.Proofs
set_option maxRecDepth 100000
theorem ft_tok : fieldTys Tryz.prog 47 = some [(3, 0, 1), (9, 1, 1), (3, 2, 1)] := by kernel_rfl
def Tok.Ok (t : Tok) : Prop := I64 t.kind ∧ I64 t.n ∧ t.text.length ≤ reachBytes
theorem ty_tok {n : Nat} {ps : List PV} (hp : TyP Tryz.prog n 47 ps) : ∃ x : Tok, ps = x.enc ∧ x.Ok := by
  obtain ⟨m, rfl, hl, hf⟩ := TyP_struct (sz := 3) ft_tok (by kernel_rfl) hp
  obtain ⟨p0, p1, p2, rfl⟩ := len3p hl
  obtain ⟨k, hk, hkw⟩ := TyP_int ty_descOf_3 (hf 0 _ rfl)
  obtain ⟨s, hs, hsl⟩ := TyP_str ty_descOf_9 (hf 1 _ rfl)
  obtain ⟨a, ha, haw⟩ := TyP_int ty_descOf_3 (hf 2 _ rfl)
  simp at hk hs ha
  subst hk; subst hs; subst ha
  exact ⟨⟨k, s, a⟩, rfl, wf_I64 hkw, wf_I64 haw, hsl⟩
theorem argOf_str (p : PV) : argOf Tryz.prog 9 [p] = .c (.pv p) := by
  unfold argOf; rw [Tryz.underlying9]
theorem args3 {t u v : TypeId} {pss : List (List PV)} {Q : Prop} (h : All2 (fun t p => ∃ n, TyP Tryz.prog n t p) [t, u, v] pss) (hq : ∀ n m k p q r, TyP Tryz.prog n t p → TyP Tryz.prog m u q → TyP Tryz.prog k v r → pss = [p, q, r] → Q) : Q := by
  cases h with
  | cons h1 h =>
  cases h with
  | cons h2 h =>
  cases h with
  | cons h3 h =>
  cases h
  obtain ⟨n, h1⟩ := h1
  obtain ⟨m, h2⟩ := h2
  obtain ⟨k, h3⟩ := h3
  exact hq n m k _ _ _ h1 h2 h3 rfl
end Go.Abs
namespace Go.Abs
open Go Go.Proofs
set_option maxRecDepth 100000
theorem len5 {α : Type} {l : List α} (h : l.length = 5) : ∃ a b c d e, l = [a, b, c, d, e] := by
  match l, h with
  | [a, b, c, d, e], _ => exact ⟨a, b, c, d, e, rfl⟩
theorem ft_val : fieldTys Tryz.prog 49 = some [(3, 0, 1), (47, 1, 3), (22, 4, 1)] := by kernel_rfl
theorem allT_of {p : Tok → Prop} : ∀ {l : List Val}, (∀ v ∈ l, Ne.allV p v) → Ne.allT p l
  | [], _ => by rw [Ne.allT]; trivial
  | v :: l, h => by
    rw [Ne.allT]
    exact ⟨h v (by simp), allT_of fun x hx => h x (by simp [hx])⟩
theorem ty_val : ∀ (n : Nat) (ps : List PV), TyP Tryz.prog n 49 ps → ∃ x : Val, ps = x.enc ∧ Ne.allV (fun t => I64 t.n) x := by
  intro n
  induction n using Nat.strongRecOn with
  | _ n ih =>
    intro ps hp
    obtain ⟨m, rfl, hl, hf⟩ := TyP_struct (sz := 5) ft_val (by kernel_rfl) hp
    obtain ⟨p0, p1, p2, p3, p4, rfl⟩ := len5 hl
    obtain ⟨k, hk, hkw⟩ := TyP_int ty_descOf_3 (hf 0 _ rfl)
    obtain ⟨t, ht, hto⟩ := ty_tok (hf 1 _ rfl)
    obtain ⟨j, c, rfl, hc, hcl, hce⟩ := TyP_sl ty_descOf_22 (hf 2 _ rfl)
    obtain ⟨l, rfl, hlo⟩ := list_of (f := Val.enc) (Q := Ne.allV (fun t => I64 t.n)) fun el hel => ih j (by omega) el (hce el hel)
    simp [Tok.enc] at hk ht hc
    subst hk; subst hc
    obtain ⟨rfl, rfl, rfl⟩ := ht
    refine ⟨.mk k t l, ?_, ?_⟩
    · rw [Val.enc, encL_map]
    · rw [Ne.allV]
      exact ⟨hto.2.1, allT_of hlo⟩
theorem ty_vals {n : Nat} {ps : List PV} (hp : TyP Tryz.prog n 22 ps) : ∃ l : List Val, ps = [.sl (encL l)] ∧ Ne.allT (fun t => I64 t.n) l := by
  obtain ⟨j, c, rfl, rfl, hcl, hce⟩ := TyP_sl ty_descOf_22 hp
  obtain ⟨l, rfl, hlo⟩ := list_of (f := Val.enc) (Q := Ne.allV (fun t => I64 t.n)) fun el hel => ty_val j el (hce el hel)
  exact ⟨l, by rw [encL_map], allT_of hlo⟩
theorem argOf_vals (p : PV) : argOf Tryz.prog 22 [p] = .c (.pv p) := by
  unfold argOf; rw [Tryz.underlying22]
end Go.Abs
namespace Go.Abs
open Go Go.Proofs
set_option maxRecDepth 100000
theorem TyP_bool {P : Program} {t : TypeId} {n : Nat} {ps : List PV} (h : isBoolT P t = true) (hp : TyP P n t ps) : ∃ b, ps = [.bool b] := by
  cases n with
  | zero => exact hp.elim
  | succ n =>
    unfold isBoolT at h
    unfold TyP at hp
    split at h
    · rename_i hu
      rw [hu] at hp
      exact hp
    · cases h
theorem ft_dcl : fieldTys Tryz.prog 44 = some [(9, 0, 1), (22, 1, 1), (4, 2, 1)] := by kernel_rfl
theorem ty_dcl {n : Nat} {ps : List PV} (hp : TyP Tryz.prog n 44 ps) : ∃ x : Dcl, ps = x.enc ∧ DclI x := by
  obtain ⟨m, rfl, hl, hf⟩ := TyP_struct (sz := 3) ft_dcl (by kernel_rfl) hp
  obtain ⟨p0, p1, p2, rfl⟩ := len3p hl
  obtain ⟨s, hs, _⟩ := TyP_str ty_descOf_9 (hf 0 _ rfl)
  obtain ⟨l, hl2, hli⟩ := ty_vals (hf 1 _ rfl)
  obtain ⟨b, hb⟩ := TyP_bool ty_isBoolT_4 (hf 2 _ rfl)
  simp at hs hl2 hb
  subst hs; subst hl2; subst hb
  exact ⟨⟨s, l, b⟩, rfl, ⟨hli⟩⟩
theorem ty_dcls {n : Nat} {ps : List PV} (hp : TyP Tryz.prog n 23 ps) : ∃ l : List Dcl, ps = [.sl (encD l)] ∧ ∀ d ∈ l, DclI d := by
  obtain ⟨j, c, rfl, rfl, hcl, hce⟩ := TyP_sl ty_descOf_23 hp
  obtain ⟨l, rfl, hlo⟩ := list_of (f := Dcl.enc) (Q := DclI) fun el hel => ty_dcl (hce el hel)
  exact ⟨l, rfl, hlo⟩
def flatD : List TypeId := [4, 3, 9, 47, 90, 49, 22, 44, 23]
theorem flatD_ok : flatSet Tryz.prog flatD = true := by kernel_rfl
theorem argOf_dcls (p : PV) : argOf Tryz.prog 23 [p] = .c (.pv p) := by
  unfold argOf; rw [Tryz.underlying23]
end Go.Abs
namespace Go.Abs
open Go Go.Proofs
set_option maxRecDepth 100000
theorem DeclsTell_args (pss : List (List PV)) (h : All2 (fun t p => ∃ n, TyP Tryz.prog n t p) Tryz.f3.params.toList pss) :
    den K 3 (List.zipWith (argOf Tryz.prog) Tryz.f3.params.toList pss) [] = some (.ret (.c (.pv (.bool true))) []) := by
  have hp : Tryz.f3.params.toList = [22, 23, 9] := rfl
  rw [hp] at h ⊢
  refine args3 h fun n m k p q r h1 h2 h3 e => ?_
  subst e
  obtain ⟨a, rfl, ha⟩ := ty_vals h1
  obtain ⟨l, rfl, hl⟩ := ty_dcls h2
  obtain ⟨s, rfl, _⟩ := TyP_str ty_descOf_9 h3
  simp only [List.zipWith_cons_cons, List.zipWith_nil_left, argOf_vals, argOf_dcls, argOf_str]
  exact DeclsTell_den a l s ha hl
end Go.Abs
