/-
  SYMBOLIC RUNS: what the interpreter's steps come to once the types are known.
  SYMBOLIC RUNS OF LOOPS: a loop runs from its head's state; the loop that begins with a region.
  Tokens and values as the interpreter's data.
-/
import Derived.Test.YtmcjabhnmealgaaDoorQC
import Derived.KernelRfl
import Derived.Test.YtmcjabhnmealgaaDoorQA
import Derived.Test.YtmcjabhnmealgaaDoorQE
set_option linter.unusedSimpArgs false
set_option linter.unusedVariables false
namespace Go.Abs
open Go

/-! ### What is asked of a type -/

def nTypes (P : Program) : Nat := P.types.size

/-- the kinds of types that operations look into -/
inductive Desc where
  | str
  | int (k : IntKind)
  | sl (e : TypeId) (u8 : Bool)

def descOf (P : Program) (t : TypeId) : Option Desc :=
  match P.underlying t with
  | some .string => some .str
  | some (.int k) => some (.int k)
  | some (.slice e) => some (.sl e (isU8 P e))
  | _ => none

def placesOf (P : Program) (t : TypeId) : Option (List (Nat × Nat)) :=
  match P.underlying t with
  | some (.struct fs) => fs.toList.mapM (fun f => (P.info? f.type).map fun i => (f.offset, i.size))
  | _ => none

/-- of an array's type: how many elements, and their cells -/
def arrOf (P : Program) (t : TypeId) : Option (Nat × Nat) :=
  match P.underlying t with
  | some (.array n e) => (szOf P e).map fun k => (n, k)
  | _ => none

/-- of a slice's type: its elements' type, and their cells; if it may be appended to -/
def appInfo (P : Program) (t : TypeId) : Option (TypeId × Nat) :=
  match P.underlying t with
  | some (.slice e) => (match P.info? e with
    | some i => if i.bytes ≤ 4096 ∧ 0 < i.size ∧ i.zero.any (fun z => z.cells.size == i.size) then some (e, i.size) else none
    | none => none)
  | _ => none

variable {P : Program} {t u e : TypeId}

theorem desc_str (h : descOf P t = some .str) : P.underlying t = some .string := by
  unfold descOf at h
  split at h <;> first | assumption | cases h

theorem desc_int {k : IntKind} (h : descOf P t = some (.int k)) : P.underlying t = some (.int k) := by
  unfold descOf at h
  split at h
  · cases h
  · cases h; assumption
  · cases h
  · cases h

theorem desc_sl {b : Bool} (h : descOf P t = some (.sl e b)) : P.underlying t = some (.slice e) ∧ isU8 P e = b := by
  unfold descOf at h
  split at h
  · cases h
  · cases h
  · cases h; exact ⟨by assumption, rfl⟩
  · cases h

theorem appInfo_inv {n : Nat} (h : appInfo P t = some (e, n)) : P.underlying t = some (.slice e) ∧ ∃ i, P.info? e = some i ∧ i.size = n ∧ (i.bytes ≤ 4096 ∧ 0 < i.size ∧ i.zero.any (fun z => z.cells.size == i.size) = true) := by
  unfold appInfo at h
  split at h
  case h_2 => cases h
  rename_i hu
  split at h
  case h_2 => cases h
  rename_i i hi
  split at h
  case isFalse => cases h
  rename_i hc
  cases h
  exact ⟨hu, i, hi, rfl, hc⟩

/-! ### Operations -/

/-- elements of a size -/
def lens (n : Nat) (c : List (List PV)) : Bool := c.all fun el => el.length == n

theorem ev_append {n : Nat} (h : appInfo P t = some (e, n)) {s x : AV} : absAppend P [t, u] s x =
    (match pushHead s, appNew P e u x with
     | some a, some b => if a.length + b.length < appLim ∧ lens n a = true ∧ lens n b = true ∧ (ownT s = none ∨ ownT s = some e ∨ a.isEmpty = true) then some (.c (.own e (a ++ b))) else none
     | _, _ => none) := by
  obtain ⟨hu, i, hi, rfl, h1, h2, h3⟩ := appInfo_inv h
  unfold absAppend
  simp only [hu, hi]
  cases s with
  | c v =>
    cases v with
    | own e' c =>
      simp only [content, pushHead]
      cases appNew P e u x with
      | none => rfl
      | some b => simp [h1, h2, h3, lens]
    | nils =>
      simp only [content, pushHead]
      cases appNew P e u x with
      | none => rfl
      | some b => simp [h1, h2, h3, lens]
    | pv p => simp [pushHead]
    | _ => simp [content, pushHead]
  | _ => simp [content, pushHead]

theorem ev_appNew_sl {b : Bool} {e' : TypeId} (h : descOf P u = some (.sl e' b)) {x : AV} : appNew P e u x = content x := by
  unfold appNew; simp only [(desc_sl h).1]

theorem ev_appNew_str (h : descOf P u = some .str) {x : AV} (h8 : isU8 P e = true) : appNew P e u x = (match x with | .c (.pv (.str s)) => some (s.map fun b => [.int .u8 b.toNat]) | _ => none) := by
  unfold appNew
  simp only [desc_str h]
  split <;> simp [h8]

theorem ev_len_str (h : descOf P t = some .str) {x : AV} : absLen P t x = (match x with | .c (.pv (.str s)) => some (.int .i64 s.length) | _ => none) := by
  unfold absLen; simp only [desc_str h]; rfl
theorem ev_len_sl {b : Bool} (h : descOf P t = some (.sl e b)) {x : AV} : absLen P t x = (match content x with | some c => some (.int .i64 c.length) | none => none) := by
  unfold absLen; simp only [(desc_sl h).1]; rfl

theorem ev_indexAddr {b : Bool} (h : descOf P t = some (.sl e b)) {x i : AV} : absIndexAddr P t x i =
    (match content x, i with
     | some c, .c (.pv (.int _ n)) => if 0 ≤ n then (match c[n.toNat]? with | some el => if szOf P e = some el.length then some (.c (.cptr el)) else none | none => none) else none
     | _, _ => none) := by
  have e0 : absIndexAddr P t x i = absIndexAddrS P t x i := by
    unfold absIndexAddr; simp only [(desc_sl h).1]
  rw [e0]
  unfold absIndexAddrS; simp only [(desc_sl h).1]
  cases content x with
  | none => rfl
  | some c =>
    cases i with
    | c v => cases v <;> first | rfl | (rename_i p; cases p <;> rfl)
    | _ => rfl

theorem ev_index (h : descOf P t = some .str) {x i : AV} : absIndex P t x i =
    (match x, i with
     | .c (.pv (.str s)), .c (.pv (.int _ i)) => if 0 ≤ i then (match s[i.toNat]? with | some b => some (.c (.pv (.int .u8 b.toNat))) | none => none) else none
     | _, _ => none) := by
  unfold absIndex; simp only [desc_str h]; rfl

theorem ev_slice_str (h : descOf P t = some .str) {x : AV} {lo hi : Option AV} : absSlice P t x lo hi none =
    (match x with
     | .c (.pv (.str s)) =>
       (match bound s.length hi s.length with
        | some h => (match bound h lo 0 with | some l => some (.c (.pv (.str ((s.take h).drop l)))) | none => none)
        | none => none)
     | _ => none) := by
  unfold absSlice; simp only [desc_str h]; rfl

theorem ev_slice_sl {b : Bool} {n : Nat} (h : descOf P t = some (.sl e b)) (hn : szOf P e = some n) {x : AV} {lo hi : Option AV} : absSlice P t x lo hi none =
    (match content x with
     | some c =>
       (match bound c.length hi c.length with
        | some h => (match bound h lo 0 with
          | some l => if lens n c = true then some (.c (.pv (.sl ((c.take h).drop l)))) else none
          | none => none)
        | none => none)
     | none => none) := by
  unfold absSlice; simp only [(desc_sl h).1, hn]
  cases content x with
  | none => rfl
  | some c =>
    simp only [Option.any_some]
    rfl

theorem ev_build {parts : List (Nat × AV)} {z : List CV} {pl : List (Nat × Nat)} (hz : zeroCells P t = some z) (hp : placesOf P t = some pl) :
    absBuild P t parts = (match fillCells (fun i => pl[i]?) z parts with | some l => some (.agg l) | none => none) := by
  unfold placesOf at hp
  split at hp
  case h_2 => cases hp
  rename_i fs hu
  unfold absBuild
  simp only [hz, hu, hp]; rfl

theorem arr_inv {n k : Nat} (h : arrOf P t = some (n, k)) : ∃ e, P.underlying t = some (.array n e) ∧ szOf P e = some k := by
  unfold arrOf at h
  split at h
  case h_2 => cases h
  rename_i m e hu
  rw [Option.map_eq_some_iff] at h
  obtain ⟨z, hz, h⟩ := h
  cases h
  exact ⟨e, hu, hz⟩

theorem ev_build_arr {parts : List (Nat × AV)} {z : List CV} {n k : Nat} (hz : zeroCells P t = some z) (ha : arrOf P t = some (n, k)) :
    absBuild P t parts = (match fillCells (fun i => some (i * k, k)) z parts with | some l => some (.agg l) | none => none) := by
  obtain ⟨e, hu, hk⟩ := arr_inv ha
  unfold absBuild
  simp only [hz, hu, hk]; rfl

theorem ev_indexAddr_arr {n k : Nat} (ha : arrOf P t = some (n, k)) {x i : AV} : absIndexAddr P t x i =
    (match x, i with
     | .c (.loc s off), .c (.pv (.int _ j)) => if 0 ≤ j ∧ j < (n : Int) then some (.c (.loc s (off + j.toNat * k))) else none
     | _, _ => none) := by
  obtain ⟨e, hu, hk⟩ := arr_inv ha
  unfold absIndexAddr
  rw [hu]
  cases x with
  | c v =>
    cases v with
    | loc s off =>
      cases i with
      | c u =>
        cases u with
        | pv p =>
          cases p with
          | int kk j =>
            show (if 0 ≤ j ∧ j < (n : Int) then (match szOf P e with | some z => some (AV.c (.loc s (off + j.toNat * z))) | none => none) else none) = _
            rw [hk]
          | _ => rfl
        | _ => rfl
      | _ => rfl
    | _ => rfl
  | _ => rfl

theorem ev_buildSlice {b : Bool} {len n : Nat} {parts : List (Nat × AV)} {z : List CV} (h : descOf P t = some (.sl e b)) (hn : szOf P e = some n) (hz : zeroCells P e = some z) (hc : z.length = n ∧ 0 < n ∧ len * n ≤ 1048576) :
    absBuildSlice P t len parts = (match fillCells (fun i => some (i * n, n)) (reps z len) parts with
        | some l => (match pvs l with | some ps => some (.c (.own e (chunks n ps len))) | none => none)
        | none => none) := by
  unfold absBuildSlice
  simp only [(desc_sl h).1, hn, hz]
  rw [if_pos hc]
  rfl

theorem ev_conv_int {k k' : IntKind} (h : descOf P t = some (.int k)) (hu : descOf P u = some (.int k')) {x : AV} : absConv P t u x = (match x with | .c (.pv (.int _ n)) => some (.c (.pv (.int k' (k'.wrap n)))) | _ => none) := by
  unfold absConv; simp only [desc_int h, desc_int hu]; rfl
theorem ev_conv_rune {k : IntKind} (h : descOf P t = some (.int k)) (hu : descOf P u = some .str) {x : AV} : absConv P t u x = (match x with | .c (.pv (.int _ n)) => some (.c (.pv (.str (Utf8.encode n).data.toList))) | _ => none) := by
  unfold absConv; simp only [desc_int h, desc_str hu]; rfl
theorem ev_conv_str (h : descOf P t = some .str) (hu : descOf P u = some .str) {x : AV} : absConv P t u x = (match x with | .c (.pv (.str s)) => some (.c (.pv (.str s))) | _ => none) := by
  unfold absConv; simp only [desc_str h, desc_str hu]; rfl
theorem ev_conv_bytes (h : descOf P t = some .str) (hu : descOf P u = some (.sl e true)) {x : AV} : absConv P t u x = (match x with
     | .c (.pv (.str s)) => if s.length < strLim then some (.c (.pv (.sl (s.map fun b => [.int .u8 b.toNat])))) else none
     | _ => none) := by
  obtain ⟨h1, h2⟩ := desc_sl hu
  unfold absConv; simp only [desc_str h, h1]
  split <;> simp [h2]
theorem ev_conv_string (h : descOf P t = some (.sl e true)) (hu : descOf P u = some .str) {x : AV} : absConv P t u x = (match content x with
       | some c => (match bytesOf c with | some s => some (.c (.pv (.str s))) | none => none)
       | none => none) := by
  obtain ⟨h1, h2⟩ := desc_sl h
  unfold absConv; simp only [desc_str hu, h1, h2, if_true]; rfl

theorem ev_range (h : descOf P t = some .str) {x : AV} : absRange P t x = (match x with | .c (.pv (.str s)) => some (.c (.iter s 0)) | _ => none) := by
  unfold absRange; simp only [desc_str h]; rfl

theorem some_bne (a b : Nat) : (some a != some b) = !(a == b) := rfl
theorem nobox_at (s : Nat) : nobox s = none := rfl
theorem bot_at (t : Nat) : bot t = .c .top := rfl

/-- a run ends, and so -/
def Ends (r : Option (Out × St)) (Q : Out → St → Prop) : Prop := ∃ o S, r = some (o, S) ∧ Q o S
theorem ends_some {o : Out} {S : St} {Q : Out → St → Prop} : Ends (some (o, S)) Q = Q o S := by
  apply propext
  exact ⟨fun ⟨_, _, e, h⟩ => by cases e; exact h, fun h => ⟨_, _, rfl, h⟩⟩

theorem reach_if {α : Type} {ops : List Oper} {n j i : Nat} {a b : α} (h : reach ops n j i = true) : (if reach ops n j i = true then a else b) = a := if_pos h
theorem reach_and {ops : List Oper} {n j i : Nat} {b : Bool} (h : reach ops n j i = true) : (reach ops n j i && b) = b := by rw [h]; rfl
end Go.Abs

namespace Go.Abs
open Go

theorem CV.live_live (bs : List Nat) (v : CV) : (v.live bs).live bs = v.live bs := by
  cases v with
  | loc s o =>
    by_cases h : bs.contains s = true
    · have e : CV.live bs (.loc s o) = .loc s o := if_pos h
      rw [e, e]
    · have e : CV.live bs (.loc s o) = .top := if_neg h
      rw [e]; rfl
  | fn f c =>
    by_cases h : c.all (fun x => bs.contains x.1) = true
    · have e : CV.live bs (.fn f c) = .fn f c := if_pos h
      rw [e, e]
    · have e : CV.live bs (.fn f c) = .top := if_neg h
      rw [e]; rfl
  | _ => rfl

theorem CV.liveIn_liveIn (bs : List Nat) (v : CV) : (v.liveIn bs).liveIn bs = v.liveIn bs := by
  cases v with
  | loc s o =>
    by_cases h : bs.contains s = true
    · have e : CV.liveIn bs (.loc s o) = .loc s o := if_pos h
      rw [e, e]
    · have e : CV.liveIn bs (.loc s o) = .top := if_neg h
      rw [e]; rfl
  | fn f c =>
    by_cases h : c.all (fun x => bs.contains x.1) = true
    · have e : CV.liveIn bs (.fn f c) = .fn f c := if_pos h
      rw [e, e]
    · have e : CV.liveIn bs (.fn f c) = .top := if_neg h
      rw [e]; rfl
  | _ => rfl

theorem AV.live_live (bs : List Nat) (v : AV) : (v.live bs).live bs = v.live bs := by
  cases v with
  | c v => simp only [AV.live, CV.live_live]
  | agg l => simp [AV.live, CV.liveIn_liveIn, Function.comp_def]
  | tup l => rfl

theorem head_head (kp : List Nat × List Nat) (S : St) : head kp (head kp S) = head kp S := by
  refine St.ext' rfl ?_ ?_
  · funext s
    show keepBoxes kp.2 (keepBoxes kp.2 S.bx kp.2) kp.2 s = keepBoxes kp.2 S.bx kp.2 s
    rw [keepBoxes_get, keepBoxes_get]
    split
    · cases S.bx s with
      | none => rfl
      | some l => simp [CV.live_live, Function.comp_def]
    · rfl
  · intro t
    show keepSlots kp.2 (keepSlots kp.2 S.sl kp.1) kp.1 t = keepSlots kp.2 S.sl kp.1 t
    rw [keepSlots_get, keepSlots_get]
    split
    · exact AV.live_live _ _
    · rfl

/-- the loop whose first region has a number -/
def findLoop (r : Nat) : Code → Option Code
  | .loop a => bif Nat.beq ((firstReg a).getD 0) r then some a else findLoop r a
  | .seq a b => (findLoop r a).orElse fun _ => findLoop r b
  | .cond _ a b => (findLoop r a).orElse fun _ => findLoop r b
  | .block _ a => findLoop r a
  | .scope a => findLoop r a
  | _ => none
def loopAt (fn : Func) (r : Nat) : Code := ((fn.body.bind (findLoop r))).getD .skip


theorem ends_imp {r : Option (Out × St)} {Q Q' : Out → St → Prop} (h : Ends r Q) (f : ∀ o S, Q o S → Q' o S) : Ends r Q' := by
  obtain ⟨o, S, e, q⟩ := h
  exact ⟨o, S, e, f o S q⟩
end Go.Abs

namespace Go.Abs

def Tok.cells (t : Tok) : List CV := [.pv (.int .i64 t.kind), .pv (.str t.text), .pv (.int .i64 t.n)]
def Tok.enc (t : Tok) : List PV := [.int .i64 t.kind, .str t.text, .int .i64 t.n]

mutual
def Val.enc : Val → List PV
  | .mk k t l => [.int .i64 k, .int .i64 t.kind, .str t.text, .int .i64 t.n, .sl (encL l)]
def encL : List Val → List (List PV)
  | [] => []
  | v :: l => v.enc :: encL l
end
theorem encL_map : ∀ l : List Val, encL l = l.map Val.enc
  | [] => rfl
  | v :: l => by rw [encL, encL_map l]; rfl
theorem encL_app (a b : List Val) : encL (a ++ b) = encL a ++ encL b := by simp [encL_map]
theorem encL_len (a : List Val) : (encL a).length = a.length := by simp [encL_map]
theorem encL_get (a : List Val) (i : Nat) (v : Val) (h : a[i]? = some v) : (encL a)[(i : Int).toNat]? = some v.enc := by simp [encL_map, h]
theorem enc_len (v : Val) : v.enc.length = 5 := by obtain ⟨k, t, l⟩ := v; rfl
end Go.Abs
