/-
  THE ABSTRACT INTERPRETER: what its values mean in a world: the relation, and that it stays while memory grows.
-/
import Derived.Test.YtcnodcgdceoijaaDoorAbsDef
import Derived.WalkKit
set_option linter.unusedSimpArgs false
set_option linter.unusedVariables false
namespace Go.Abs
open Go

/-- Pointwise. -/
inductive All2 {α β : Type} (R : α → β → Prop) : List α → List β → Prop
  | nil : All2 R [] []
  | cons {a : α} {b : β} {l : List α} {m : List β} : R a b → All2 R l m → All2 R (a :: l) (b :: m)

namespace All2
variable {α β : Type} {R R' : α → β → Prop} {l : List α} {m : List β}

theorem length (h : All2 R l m) : l.length = m.length := by
  induction h with
  | nil => rfl
  | cons _ _ ih => simp [ih]

theorem imp (h : All2 R l m) (f : ∀ a b, a ∈ l → R a b → R' a b) : All2 R' l m := by
  induction h with
  | nil => exact .nil
  | cons h _ ih => exact .cons (f _ _ (by simp) h) (ih fun a b ha => f a b (by simp [ha]))

theorem get (h : All2 R l m) : ∀ {i : Nat} {a : α}, l[i]? = some a → ∃ b, m[i]? = some b ∧ R a b := by
  induction h with
  | nil => intro i a h; simp at h
  | cons h _ ih =>
    intro i a hi
    cases i with
    | zero => simp at hi; subst hi; exact ⟨_, by simp, h⟩
    | succ i => simpa using ih (by simpa using hi)

theorem getR (h : All2 R l m) : ∀ {i : Nat} {b : β}, m[i]? = some b → ∃ a, l[i]? = some a ∧ R a b := by
  induction h with
  | nil => intro i a h; simp at h
  | cons h _ ih =>
    intro i a hi
    cases i with
    | zero => simp at hi; subst hi; exact ⟨_, by simp, h⟩
    | succ i => simpa using ih (by simpa using hi)

theorem mk : ∀ {l : List α} {m : List β}, l.length = m.length → (∀ (i : Nat) (a : α) (b : β), l[i]? = some a → m[i]? = some b → R a b) → All2 R l m
  | [], [], _, _ => .nil
  | [], _ :: _, h, _ => by simp at h
  | _ :: _, [], h, _ => by simp at h
  | a :: l, b :: m, h, f => .cons (f 0 a b rfl rfl) (mk (by simpa using h) fun i a b h1 h2 => f (i + 1) a b (by simpa using h1) (by simpa using h2))

theorem append {l' : List α} {m' : List β} (h : All2 R l m) (k : All2 R l' m') : All2 R (l ++ l') (m ++ m') := by
  induction h with
  | nil => exact k
  | cons h _ ih => exact .cons h ih

theorem map_left {γ : Type} {f : γ → α} {l : List γ} (h : All2 (fun c b => R (f c) b) l m) : All2 R (l.map f) m := by
  induction h with
  | nil => exact .nil
  | cons h _ ih => exact .cons h ih

theorem of_map_left {γ : Type} {f : γ → α} : ∀ {l : List γ} {m : List β}, All2 R (l.map f) m → All2 (fun c b => R (f c) b) l m
  | [], _, .nil => .nil
  | _ :: _, _, .cons h k => .cons h (of_map_left k)

theorem drop : ∀ (n : Nat) {l : List α} {m : List β}, All2 R l m → All2 R (l.drop n) (m.drop n)
  | 0, _, _, h => h
  | _ + 1, _, _, .nil => .nil
  | n + 1, _, _, .cons _ h => drop n h

theorem take : ∀ (n : Nat) {l : List α} {m : List β}, All2 R l m → All2 R (l.take n) (m.take n)
  | 0, _, _, _ => .nil
  | _ + 1, _, _, .nil => .nil
  | n + 1, _, _, .cons h k => .cons h (take n k)
end All2

inductive Own where
  | box (s : Nat)
  | cell (s k : Nat)
  | slot (t : Nat)
  | ret

structure Gh where
  I : Nat → Nat → Option Value
  bb : Nat → Option Nat
  ow : Nat → Option Own

/-- What pure data means: slices lie in cells that never turn. -/
inductive RP (I : Nat → Nat → Option Value) : PV → Value → Prop
  | bool (b : Bool) : RP I (.bool b) (.bool b)
  | int (k : IntKind) (n : Int) : RP I (.int k n) (.int k n)
  | str (l : List UInt8) : RP I (.str l) (.string (ByteArray.mk l.toArray))
  | sl0 (a : Option Addr) (cap : Nat) : RP I (.sl []) (.slice a 0 cap)
  | sl (c : List (List PV)) (b o cap sz : Nat) (f : Nat → Nat → Value) (hc : c ≠ []) (hcap : c.length ≤ cap) (hsz : ∀ e ∈ c, e.length = sz)
      (h1 : ∀ (i : Nat) (el : List PV) (j : Nat) (p : PV), c[i]? = some el → el[j]? = some p → I b (o + (i * sz + j)) = some (f i j))
      (h2 : ∀ (i : Nat) (el : List PV) (j : Nat) (p : PV), c[i]? = some el → el[j]? = some p → RP I p (f i j)) :
      RP I (.sl c) (.slice (some ⟨b, o, none⟩) c.length cap)
  | ifc (t : TypeId) (p : PV) (v : Value) (h : RP I p v) : RP I (.ifc t p) (.iface t v)
  | ifa (t : TypeId) (l : List PV) (f : Nat → Value) (h : ∀ (j : Nat) (p : PV), l[j]? = some p → RP I p (f j)) :
      RP I (.ifa t l) (.iface t (.agg ((List.range l.length).map f).toArray))
  | nilifc : RP I .nilifc .nilIface

theorem RP.one {I : Nat → Nat → Option Value} {p : PV} {v : Value} (h : RP I p v) : v.oneCell' = true := by
  cases h <;> rfl

theorem RP.mono {I I' : Nat → Nat → Option Value} (hI : ∀ b o y, I b o = some y → I' b o = some y) {p : PV} {v : Value} (h : RP I p v) : RP I' p v := by
  induction h with
  | bool b => exact .bool b
  | int k n => exact .int k n
  | str l => exact .str l
  | sl0 a cap => exact .sl0 a cap
  | sl c b o cap sz f hc hcap hsz h1 _ ih => exact .sl c b o cap sz f hc hcap hsz (fun i el j p a b => hI _ _ _ (h1 i el j p a b)) ih
  | ifc t p v _ ih => exact .ifc t p v ih
  | ifa t l f _ ih => exact .ifa t l f ih
  | nilifc => exact .nilifc

/-- the cells of a list of elements, from a place on -/
def Seg (I : Nat → Nat → Option Value) (b o sz : Nat) (c : List (List PV)) : Prop :=
  ∀ (i : Nat) (el : List PV) (j : Nat) (p : PV), c[i]? = some el → el[j]? = some p → ∃ y, I b (o + (i * sz + j)) = some y ∧ RP I p y

theorem Seg.mono {I I' : Nat → Nat → Option Value} (hI : ∀ b o y, I b o = some y → I' b o = some y) {b o sz : Nat} {c : List (List PV)} (h : Seg I b o sz c) : Seg I' b o sz c :=
  fun i el j p a k => let ⟨y, h1, h2⟩ := h i el j p a k; ⟨y, hI _ _ _ h1, h2.mono hI⟩

theorem RP.of_seg {I : Nat → Nat → Option Value} {c : List (List PV)} {b o cap sz : Nat} (hcap : c.length ≤ cap) (hsz : ∀ e ∈ c, e.length = sz) (h : Seg I b o sz c) :
    RP I (.sl c) (.slice (some ⟨b, o, none⟩) c.length cap) := by
  by_cases hc : c = []
  · subst hc; exact .sl0 _ _
  · refine .sl c b o cap sz (fun i j => (I b (o + (i * sz + j))).getD default) hc hcap hsz (fun i el j p a k => ?_) (fun i el j p a k => ?_)
    · obtain ⟨y, h1, _⟩ := h i el j p a k; simp [h1]
    · obtain ⟨y, h1, h2⟩ := h i el j p a k; simpa [h1] using h2

/-- what a slice's data say of the value -/
theorem RP.slice_inv {I : Nat → Nat → Option Value} {c : List (List PV)} {v : Value} (h : RP I (.sl c) v) :
    ∃ a cap, v = .slice a c.length cap ∧ c.length ≤ cap ∧ (c ≠ [] → ∃ b o sz, a = some ⟨b, o, none⟩ ∧ (∀ e ∈ c, e.length = sz) ∧ Seg I b o sz c) := by
  cases h with
  | sl0 a cap => exact ⟨a, cap, rfl, Nat.zero_le _, fun h => absurd rfl h⟩
  | sl _ b o cap sz f hc hcap hsz h1 h2 =>
    exact ⟨_, cap, rfl, hcap, fun _ => ⟨b, o, sz, rfl, hsz, fun i el j p a k => ⟨f i j, h1 i el j p a k, h2 i el j p a k⟩⟩⟩

/-- a cell's value that owns nothing -/
def RN (G : Gh) : CV → Value → Prop
  | .top, x => x.oneCell' = true
  | .pv p, x => RP G.I p x
  | .own _ _, _ => False
  | .iter _ _, _ => False
  | .nils, x => x = .slice none 0 0
  | .loc s off, x => ∃ b, G.bb s = some b ∧ x = .pointer (some ⟨b, off, none⟩)
  | .nilp, x => x = .pointer none
  | .cptr l, x => ∃ b o, x = .pointer (some ⟨b, o, none⟩) ∧ ∀ (j : Nat) (p : PV), l[j]? = some p → ∃ y, G.I b (o + j) = some y ∧ RP G.I p y
  | .fn f caps, x => ∃ vs : List Value, x = .func (.func f) #[] vs.toArray ∧ All2 (fun c v => ∃ b, G.bb c.1 = some b ∧ v = .pointer (some ⟨b, c.2, none⟩)) caps vs
  | .bld, x => x = .pointer none

theorem RN.one {G : Gh} {v : CV} {x : Value} (h : RN G v x) : x.oneCell' = true := by
  cases v <;> simp only [RN] at h
  · exact h
  · exact h.one
  · subst h; rfl
  · obtain ⟨_, _, rfl⟩ := h; rfl
  · subst h; rfl
  · obtain ⟨_, _, rfl, _⟩ := h; rfl
  · obtain ⟨_, rfl, _⟩ := h; rfl
  · subst h; rfl

theorem RN.mono {G G' : Gh} (hI : ∀ b o y, G.I b o = some y → G'.I b o = some y) (hb : ∀ s b, G.bb s = some b → G'.bb s = some b) {v : CV} {x : Value} (h : RN G v x) : RN G' v x := by
  cases v <;> simp only [RN] at h ⊢
  · exact h
  · exact h.mono hI
  · exact h
  · obtain ⟨b, h1, h2⟩ := h; exact ⟨b, hb _ _ h1, h2⟩
  · exact h
  · obtain ⟨b, o, h1, h2⟩ := h
    exact ⟨b, o, h1, fun j p hp => let ⟨y, h3, h4⟩ := h2 j p hp; ⟨y, hI _ _ _ h3, h4.mono hI⟩⟩
  · obtain ⟨vs, h1, h2⟩ := h
    exact ⟨vs, h1, h2.imp fun a b _ ⟨k, h3, h4⟩ => ⟨k, hb _ _ h3, h4⟩⟩
  · exact h

/-- where an owned slice without room lies: nowhere, or in a row of its own -/
def Emp (G : Gh) (w : World) (ℓ : Own) (a : Option Addr) : Prop :=
  a = none ∨ ∃ b cur e, a = some ⟨b, 0, none⟩ ∧ G.ow b = some ℓ ∧ w.heap[b]? = some (.cells cur e (0, 0))

theorem Emp.map {G G' : Gh} {w w' : World} {ℓ ℓ' : Own} {a : Option Addr} (h : Emp G w ℓ a) (f : ∀ b, G.ow b = some ℓ → G'.ow b = some ℓ' ∧ w'.heap[b]? = w.heap[b]?) : Emp G' w' ℓ' a := by
  rcases h with h | ⟨b, cur, e, h1, h2, h3⟩
  · exact .inl h
  · exact .inr ⟨b, cur, e, h1, (f b h2).1, (f b h2).2.trans h3⟩

/-- a slice of which some place is the only owner -/
def OwnAt (G : Gh) (w : World) (ℓ : Own) (e : TypeId) (c : List (List PV)) (x : Value) : Prop :=
  (c = [] ∧ ∃ a, x = .slice a 0 0 ∧ Emp G w ℓ a) ∨
  (c ≠ [] ∧ ∃ b cap cur sz, x = .slice (some ⟨b, 0, none⟩) c.length cap ∧ G.ow b = some ℓ ∧ w.heap[b]? = some (.cells cur e (0, 0)) ∧ c.length ≤ cap ∧ cap * sz = cur.size ∧
    0 < sz ∧ (∀ el ∈ c, el.length = sz) ∧ Seg G.I b 0 sz c ∧ ∀ o, c.length * sz ≤ o → G.I b o = none)

/-- an iterator of which some place is the only owner -/
def IterAt (G : Gh) (w : World) (ℓ : Own) (s : List UInt8) (pos : Nat) (x : Value) : Prop :=
  ∃ b, x = .pointer (some ⟨b, 0, none⟩) ∧ G.ow b = some ℓ ∧ w.heap[b]? = some (.stringIter (ByteArray.mk s.toArray) pos)

def RC (G : Gh) (w : World) (ℓ : Own) : CV → Value → Prop
  | .own e c, x => OwnAt G w ℓ e c x
  | .iter s pos, x => IterAt G w ℓ s pos x
  | v, x => RN G v x

theorem RC.of_RN {G : Gh} {w : World} {ℓ : Own} {v : CV} {x : Value} (h : RN G v x) : RC G w ℓ v x := by
  cases v <;> first | exact h | exact False.elim h

theorem RC.to_RN {G : Gh} {w : World} {ℓ : Own} {v : CV} {x : Value} (h : RC G w ℓ v x) (hv : v.plain = true) : RN G v x := by
  cases v <;> first | exact h | cases hv

theorem OwnAt.rp {G : Gh} {w : World} {ℓ : Own} {e : TypeId} {c : List (List PV)} {x : Value} (h : OwnAt G w ℓ e c x) : RP G.I (.sl c) x := by
  rcases h with ⟨rfl, a, rfl, _⟩ | ⟨_, b, cap, cur, sz, rfl, _, _, hc, _, _, hsz, hseg, _⟩
  · exact .sl0 _ _
  · exact .of_seg hc hsz hseg

theorem IterAt.one {G : Gh} {w : World} {ℓ : Own} {s : List UInt8} {pos : Nat} {x : Value} (h : IterAt G w ℓ s pos x) : x.oneCell' = true := by
  obtain ⟨b, rfl, _⟩ := h; rfl

theorem RC.deg {G : Gh} {w : World} {ℓ : Own} {v : CV} {x : Value} (h : RC G w ℓ v x) : RN G v.deg x := by
  cases v <;> first | exact h | exact OwnAt.rp h | exact IterAt.one h

theorem RC.one {G : Gh} {w : World} {ℓ : Own} {v : CV} {x : Value} (h : RC G w ℓ v x) : x.oneCell' = true := h.deg.one

theorem RN.deg {G : Gh} {v : CV} {x : Value} (h : RN G v x) : RN G v.deg x := by
  cases v <;> first | exact h | exact False.elim h

/-- a component of a tuple -/
def RT (G : Gh) : TV → Value → Prop
  | .c v, x => RN G v x
  | .agg l, x => ∃ vs : List Value, x = .agg vs.toArray ∧ All2 (RN G) l vs

theorem RT.mono {G G' : Gh} (hI : ∀ b o y, G.I b o = some y → G'.I b o = some y) (hb : ∀ s b, G.bb s = some b → G'.bb s = some b) {v : TV} {x : Value} (h : RT G v x) : RT G' v x := by
  cases v with
  | c v => exact RN.mono hI hb h
  | agg l => obtain ⟨vs, h1, h2⟩ := h; exact ⟨vs, h1, h2.imp fun _ _ _ h => h.mono hI hb⟩

/-- what a slot holds -/
def RA (G : Gh) (w : World) (ℓ : Own) : AV → Value → Prop
  | .c .top, _ => True
  | .c v, x => RC G w ℓ v x
  | .agg l, x => ∃ vs : List Value, x = .agg vs.toArray ∧ All2 (RN G) l vs
  | .tup l, x => ∃ vs : List Value, x = .tuple vs.toArray ∧ All2 (RT G) l vs

theorem RA.of_RC {G : Gh} {w : World} {ℓ : Own} {v : CV} {x : Value} (h : RC G w ℓ v x) : RA G w ℓ (.c v) x := by
  cases v <;> first | exact h | exact trivial

theorem RA.toRC {G : Gh} {w : World} {ℓ : Own} {v : CV} {x : Value} (h : RA G w ℓ (.c v) x) (hv : v ≠ .top) : RC G w ℓ v x := by
  cases v <;> first | exact absurd rfl hv | exact h

theorem RA.of_RN {G : Gh} {w : World} {ℓ : Own} {v : CV} {x : Value} (h : RN G v x) : RA G w ℓ (.c v) x := .of_RC (.of_RN h)

theorem RA.of_RT {G : Gh} {w : World} {ℓ : Own} {v : TV} {x : Value} (h : RT G v x) : RA G w ℓ v.av x := by
  cases v with
  | c v => exact .of_RN h
  | agg l => exact h

/-- a value that owns nothing is the same at any place -/
theorem RA.place {G : Gh} {w : World} {ℓ ℓ' : Own} {v : AV} {x : Value} (h : RA G w ℓ v x) (hv : isOwn v = false) : RA G w ℓ' v x := by
  cases v with
  | c v => cases v <;> first | exact h | cases hv
  | agg l => exact h
  | tup l => exact h

theorem RA.deg {G : Gh} {w : World} {ℓ ℓ' : Own} {v : AV} {x : Value} (h : RA G w ℓ v x) : RA G w ℓ' v.deg x := by
  cases v with
  | c v => cases v <;> first | exact h | exact OwnAt.rp h | exact trivial
  | agg l => exact h
  | tup l => exact h

theorem gv_deg {v : AV} (h : v.isIter = false) : v.gv = v.deg := by
  cases v with
  | c v => cases v <;> first | rfl | cases h
  | agg l => rfl
  | tup l => rfl

theorem isOwn_deg (v : AV) : isOwn v.deg = false := by
  cases v with
  | c v => cases v <;> rfl
  | agg l => rfl
  | tup l => rfl

/-- what is known of the library's tables and variables: no one owns them, and they stand as they stood -/
def TabOK (G : Gh) (w : World) : Prop :=
  (∀ x ∈ tabs, G.ow x.1 = none ∧ ∃ ty fz, w.heap[x.1]? = some (.cells x.2.toArray ty fz)) ∧
  ∀ b ∈ ints, G.ow b = none ∧ ∃ m cs ty fz, w.heap[b]? = some (.cells cs ty fz) ∧ cs[0]? = some (.int .i64 m)

theorem TabOK.map {G G' : Gh} {w w' : World} (h : TabOK G w) (f : ∀ b, b < w.heap.size → G.ow b = none → G'.ow b = none ∧ w'.heap[b]? = w.heap[b]?) : TabOK G' w' := by
  have lt : ∀ {b : Nat} {o : Obj}, w.heap[b]? = some o → b < w.heap.size := fun h => (Array.getElem?_eq_some_iff.1 h).1
  refine ⟨fun x hx => ?_, fun b hb => ?_⟩
  · obtain ⟨h1, ty, fz, h2⟩ := h.1 x hx
    obtain ⟨h3, h4⟩ := f _ (lt h2) h1
    exact ⟨h3, ty, fz, h4.trans h2⟩
  · obtain ⟨h1, m, cs, ty, fz, h2, h5⟩ := h.2 b hb
    obtain ⟨h3, h4⟩ := f _ (lt h2) h1
    exact ⟨h3, m, cs, ty, fz, h4.trans h2, h5⟩

structure WI (G : Gh) (w : World) : Prop where
  cell : ∀ b o y, G.I b o = some y → w.cell? ⟨b, o, none⟩ = some y
  fresh : ∀ b, w.heap.size ≤ b → (∀ o, G.I b o = none) ∧ G.ow b = none
  boxI : ∀ b s, G.ow b = some (.box s) → ∀ o, G.I b o = none
  bbow : ∀ s b, G.bb s = some b → G.ow b = some (.box s)
  tab : TabOK G w

/-- what a call, or a step, leaves of all that it does not own -/
structure Ext (G : Gh) (w : World) (G' : Gh) (w' : World) : Prop where
  I : ∀ b o y, G.I b o = some y → G'.I b o = some y
  old : ∀ b, b < w.heap.size → G.ow b = none → G'.ow b = none ∧ w'.heap[b]? = w.heap[b]? ∧ ∀ o, G'.I b o = G.I b o
  size : w.heap.size ≤ w'.heap.size
  os : w'.os = w.os
  output : w'.output = w.output
  tape : w'.tape = w.tape
  lent : ∀ k, LK ≤ k → G'.bb k = G.bb k

theorem Ext.refl (G : Gh) (w : World) : Ext G w G w := ⟨fun _ _ _ h => h, fun _ _ h => ⟨h, rfl, fun _ => rfl⟩, Nat.le_refl _, rfl, rfl, rfl, fun _ _ => rfl⟩

theorem Ext.trans {G G1 G2 : Gh} {w w1 w2 : World} (h : Ext G w G1 w1) (k : Ext G1 w1 G2 w2) : Ext G w G2 w2 where
  I b o y e := k.I _ _ _ (h.I _ _ _ e)
  old b hb ho :=
    have a := h.old b hb ho
    have c := k.old b (Nat.lt_of_lt_of_le hb h.size) a.1
    ⟨c.1, c.2.1.trans a.2.1, fun o => (c.2.2 o).trans (a.2.2 o)⟩
  size := Nat.le_trans h.size k.size
  os := k.os.trans h.os
  output := k.output.trans h.output
  tape := k.tape.trans h.tape
  lent x hx := (k.lent x hx).trans (h.lent x hx)

/-- a step that turns at most the blocks of some owners -/
structure Gr (ch : Own → Prop) (G : Gh) (w : World) (G' : Gh) (w' : World) : Prop where
  ext : Ext G w G' w'
  bb : ∀ s b, G.bb s = some b → G'.bb s = some b
  keep : ∀ b ℓ, G.ow b = some ℓ → ¬ ch ℓ → G'.ow b = some ℓ ∧ w'.heap[b]? = w.heap[b]? ∧ ∀ o, G'.I b o = G.I b o

theorem Gr.refl (G : Gh) (w : World) : Gr (fun _ => False) G w G w := ⟨.refl _ _, fun _ _ h => h, fun _ _ h _ => ⟨h, rfl, fun _ => rfl⟩⟩

section
variable {ch : Own → Prop} {G G' : Gh} {w w' : World}

theorem RN.gr {v : CV} {x : Value} (h : RN G v x) (g : Gr ch G w G' w') : RN G' v x := h.mono g.ext.I g.bb
theorem RT.gr {v : TV} {x : Value} (h : RT G v x) (g : Gr ch G w G' w') : RT G' v x := h.mono g.ext.I g.bb

theorem OwnAt.gr {ℓ : Own} {e : TypeId} {c : List (List PV)} {x : Value} (h : OwnAt G w ℓ e c x) (g : Gr ch G w G' w') (hc : ¬ ch ℓ) : OwnAt G' w' ℓ e c x := by
  rcases h with ⟨h1, ad, h2, h3⟩ | ⟨hne, b, cap, cur, sz, h1, h2, h3, h4, h5, h6, h7, h8, h9⟩
  · exact .inl ⟨h1, ad, h2, h3.map fun b hb => ⟨(g.keep b ℓ hb hc).1, (g.keep b ℓ hb hc).2.1⟩⟩
  · obtain ⟨k1, k2, k3⟩ := g.keep b ℓ h2 hc
    exact .inr ⟨hne, b, cap, cur, sz, h1, k1, k2.trans h3, h4, h5, h6, h7, h8.mono g.ext.I, fun o ho => (k3 o).trans (h9 o ho)⟩

theorem IterAt.gr {ℓ : Own} {s : List UInt8} {pos : Nat} {x : Value} (h : IterAt G w ℓ s pos x) (g : Gr ch G w G' w') (hc : ¬ ch ℓ) : IterAt G' w' ℓ s pos x := by
  obtain ⟨b, h1, h2, h3⟩ := h
  obtain ⟨k1, k2, _⟩ := g.keep b ℓ h2 hc
  exact ⟨b, h1, k1, k2.trans h3⟩

theorem RC.gr {ℓ : Own} {v : CV} {x : Value} (h : RC G w ℓ v x) (g : Gr ch G w G' w') (hc : ¬ ch ℓ) : RC G' w' ℓ v x := by
  cases v <;> first | exact OwnAt.gr h g hc | exact IterAt.gr h g hc | exact RC.of_RN (RN.gr (G := G) h g)

theorem RA.gr {ℓ : Own} {v : AV} {x : Value} (h : RA G w ℓ v x) (g : Gr ch G w G' w') (hc : ¬ ch ℓ) : RA G' w' ℓ v x := by
  cases v with
  | c v =>
    by_cases hv : v = .top
    · subst hv; exact trivial
    · exact .of_RC ((h.toRC hv).gr g hc)
  | agg l => obtain ⟨vs, h1, h2⟩ := h; exact ⟨vs, h1, h2.imp fun _ _ _ h => h.gr g⟩
  | tup l => obtain ⟨vs, h1, h2⟩ := h; exact ⟨vs, h1, h2.imp fun _ _ _ h => h.gr g⟩

/-- a value that owns nothing stays in any case -/
theorem RA.gr_plain {ℓ ℓ' : Own} {v : AV} {x : Value} (h : RA G w ℓ v x) (g : Gr ch G w G' w') (hv : isOwn v = false) : RA G' w' ℓ' v x := by
  cases v with
  | c v =>
    by_cases hv' : v = .top
    · subst hv'; exact trivial
    · exact .of_RN (((h.toRC hv').to_RN (by cases v <;> first | rfl | cases hv)).gr g)
  | agg l => obtain ⟨vs, h1, h2⟩ := h; exact ⟨vs, h1, h2.imp fun _ _ _ h => h.gr g⟩
  | tup l => obtain ⟨vs, h1, h2⟩ := h; exact ⟨vs, h1, h2.imp fun _ _ _ h => h.gr g⟩
end

/-- a marked box is of a type that begins with a strings.Builder -/
def Bld (ty : TypeId) (l : List CV) : Prop := l[0]? = some .bld → ty ∈ bldTypes

theorem Bld.map {ty : TypeId} {l : List CV} {f : CV → CV} (h : Bld ty l) (hf : ∀ v, f v = .bld → v = .bld) : Bld ty (l.map f) := fun e => by
  rw [List.getElem?_map, Option.map_eq_some_iff] at e
  obtain ⟨v, hv, e⟩ := e
  exact h (by rw [hv, hf v e])

/-- a named box -/
def BoxR (G : Gh) (w : World) (s : Nat) (l : List CV) : Prop :=
  ∃ b cs ty, G.bb s = some b ∧ w.heap[b]? = some (.cells cs ty (0, 0)) ∧ (cs.size = l.length ∧ Bld ty l) ∧ ∀ (k : Nat) (v : CV), l[k]? = some v → ∃ x, cs[k]? = some x ∧ RC G w (.cell s k) v x

theorem BoxR.gr {ch : Own → Prop} {G G' : Gh} {w w' : World} {s : Nat} {l : List CV} (h : BoxR G w s l) (hw : WI G w) (g : Gr ch G w G' w') (hc : ¬ ch (.box s)) (hk : ∀ k, ¬ ch (.cell s k)) : BoxR G' w' s l := by
  obtain ⟨b, cs, ty, h1, h2, h3, h4⟩ := h
  have k := g.keep b _ (hw.bbow s b h1) hc
  exact ⟨b, cs, ty, g.bb s b h1, k.2.1.trans h2, h3, fun j v hv => let ⟨x, h5, h6⟩ := h4 j v hv; ⟨x, h5, h6.gr g (hk j)⟩⟩

structure FR (G : Gh) (w : World) (S : St) (a : Act) : Prop where
  size : a.tmps.size = S.nt
  slot : ∀ t, RA G w (.slot t) (S.sl t) (a.tmps.getD t undef)
  box : ∀ s l, S.bx s = some l → BoxR G w s l
  nob : ∀ s, S.bx s = none → s < LK → G.bb s = none

theorem cvOf_RN (G : Gh) (v : Value) (h : v.oneCell' = true) : RN G (cvOf v) v := by
  unfold cvOf
  split <;> first | exact .bool _ | exact .int _ _ | exact .nilifc | rfl | exact h | skip
  exact .str _

theorem cvOf_all (G : Gh) : ∀ l : List Value, l.all Value.oneCell' = true → All2 (fun v x => RN G (cvOf v) x) l l
  | [], _ => .nil
  | x :: l, h => by
    simp only [List.all_cons, Bool.and_eq_true] at h
    exact .cons (cvOf_RN G x h.1) (cvOf_all G l h.2)

theorem avOf_RA (G : Gh) (w : World) (ℓ : Own) (v : Value) : RA G w ℓ (avOf v) v := by
  unfold avOf
  split
  · rename_i cs
    split
    · rename_i hc
      exact ⟨cs.toList, by simp, All2.map_left (cvOf_all G _ hc)⟩
    · exact trivial
  · split
    · rename_i cs hc; exact ⟨[], by simp at hc; simp [hc], .nil⟩
    · exact trivial
  · rename_i h1 h2
    refine .of_RN (cvOf_RN G v ?_)
    cases v <;> first | rfl | exact absurd rfl (h1 _) | exact absurd rfl (h2 _)

theorem avOf_own (v : Value) : isOwn (avOf v) = false := by
  unfold avOf
  split
  · split <;> rfl
  · split <;> rfl
  · unfold cvOf; split <;> rfl

def place : Operand → Own
  | .tmp t => .slot t
  | _ => .ret

theorem FR.opd {G : Gh} {w : World} {S : St} {a : Act} (h : FR G w S a) (x : Operand) : RA G w (place x) (opd S.sl x) (a.eval x) := by
  cases x with
  | tmp t => exact h.slot t
  | const v => exact avOf_RA G w _ v
  | func f => exact ⟨[], rfl, .nil⟩
  | global g => exact trivial

end Go.Abs
