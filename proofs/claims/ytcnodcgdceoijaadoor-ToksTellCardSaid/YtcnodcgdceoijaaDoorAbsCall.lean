/-
  THE ABSTRACT INTERPRETER: calls: what a contract says, and what a caller has of it.
-/
import Derived.Test.YtcnodcgdceoijaaDoorAbsConv
set_option linter.unusedSimpArgs false
set_option linter.unusedVariables false
namespace Go.Abs
open Go

/-- how a call ends -/
def REnd (n : Nat) (G' : Gh) (w' : World) (e : Ending) : Res → Prop
  | .ret v cs => ∃ x, e = .returned x ∧ RA G' w' .ret v x ∧ cs.length = n ∧ ∀ (i : Nat) (l : List CV), cs[i]? = some l → BoxR G' w' (LK + i) l
  | .pan v cs => ∃ x, e = .panicked [{ v := x, recovered := false }] ∧ RN G' v x ∧ cs.length = n ∧ ∀ (i : Nat) (l : List CV), cs[i]? = some l → BoxR G' w' (LK + i) l

/-- WHAT AN ANSWER OF THE INTERPRETER'S SAYS OF THE MODEL. -/
def Contract (P : Program) (f : FuncId) (args : List AV) (bxs : List (List CV)) (r : Res) : Prop :=
  ∀ (G : Gh) (w : World) (cargs : List Value), WI G w → All2 (fun v x => RA G w .ret v x) args cargs → (∀ v ∈ args, isOwn v = false) →
    (∀ (i : Nat) (l : List CV), bxs[i]? = some l → BoxR G w (LK + i) l) → (∀ s b, G.bb s = some b → ∃ i, i < bxs.length ∧ s = LK + i) →
    Calls P f cargs.toArray w fun e w' => ∃ G', Ext G w G' w' ∧ WI G' w' ∧ REnd bxs.length G' w' e r

section
variable {P : Program} {G G' : Gh} {w w' : World} {S : St} {a : Act} {dst dg : Option Nat} {v : AV} {x : Value} {L : List Nat}

theorem ren_bld {g : Nat → Option Nat} {v : CV} (h : v.ren g = .bld) : v = .bld := by
  cases v <;> simp only [CV.ren] at h <;> (try split at h) <;> first | rfl | cases h

theorem idx_some : ∀ {L : List Nat} {s i : Nat}, idx s L = some i → L[i]? = some s
  | [], s, i, h => by simp [idx] at h
  | b :: L, s, i, h => by
    unfold idx at h
    split at h
    · rename_i e; simp at h; subst h; simp [e]
    · simp only [Option.map_eq_some_iff] at h
      obtain ⟨j, hj, rfl⟩ := h
      simpa using idx_some hj

theorem idx_of_nodup : ∀ {L : List Nat} {s i : Nat}, L.Nodup → L[i]? = some s → idx s L = some i
  | [], s, i, _, h => by simp at h
  | b :: L, s, 0, _, h => by simp at h; subst h; simp [idx]
  | b :: L, s, i + 1, hn, h => by
    simp only [List.getElem?_cons_succ] at h
    have hmem : s ∈ L := List.mem_of_getElem? h
    have hne : b ≠ s := fun e => by subst e; exact (List.nodup_cons.1 hn).1 hmem
    simp [idx, hne, idx_of_nodup (List.nodup_cons.1 hn).2 h]

theorem idx_mem : ∀ {L : List Nat} {s : Nat}, s ∈ L → ∃ i, idx s L = some i
  | b :: L, s, h => by
    unfold idx
    by_cases e : b = s
    · exact ⟨0, by simp [e]⟩
    · rcases List.mem_cons.1 h with h1 | h1
      · exact absurd h1.symm e
      · obtain ⟨i, hi⟩ := idx_mem h1
        exact ⟨i + 1, by simp [e, hi]⟩

theorem dedup_nodup : ∀ l : List Nat, (dedup l).Nodup
  | [] => by simp [dedup]
  | a :: l => by
    unfold dedup
    split
    · exact dedup_nodup l
    · rename_i h
      exact List.nodup_cons.2 ⟨by simpa using h, dedup_nodup l⟩

theorem lend_back {s k : Nat} (h : lend L s = some k) : back L k = some s ∧ LK ≤ k := by
  unfold lend at h
  simp only [Option.map_eq_some_iff] at h
  obtain ⟨i, hi, rfl⟩ := h
  unfold back
  rw [if_pos (by omega), Nat.add_sub_cancel_left]
  exact ⟨idx_some hi, by omega⟩

theorem back_lend (hn : L.Nodup) {s k : Nat} (h : back L k = some s) : lend L s = some k := by
  unfold back at h
  split at h
  case isFalse => cases h
  rename_i hk
  unfold lend
  rw [idx_of_nodup hn h]
  simp; omega

theorem back_ge {s k : Nat} (h : back L k = some s) : LK ≤ k ∧ L[k - LK]? = some s := by
  unfold back at h
  split at h
  · rename_i hk; exact ⟨hk, h⟩
  · cases h

/-! ### The ghost that goes with a call -/

def lendOw (L : List Nat) : Option Own → Option Own
  | some (.box s) => (lend L s).map Own.box
  | some (.cell s k) => (lend L s).map fun t => Own.cell t k
  | _ => none

def lendG (G : Gh) (L : List Nat) : Gh := { I := G.I, bb := fun k => (back L k).bind G.bb, ow := fun b => lendOw L (G.ow b) }

theorem lend_WI (hn : L.Nodup) (hw : WI G w) : WI (lendG G L) w := by
  refine ⟨hw.cell, fun b hb => ⟨(hw.fresh b hb).1, ?_⟩, fun b s hb o => ?_, fun k b hb => ?_, hw.tab.map fun c _ h => ⟨by show lendOw L (G.ow c) = none; rw [h]; rfl, rfl⟩⟩
  · show lendOw L (G.ow b) = none
    rw [(hw.fresh b hb).2]; rfl
  · have hb' : lendOw L (G.ow b) = some (.box s) := hb
    cases ho : G.ow b with
    | none => rw [ho] at hb'; cases hb'
    | some ℓ =>
      rw [ho] at hb'
      cases ℓ <;> simp [lendOw] at hb'
      exact hw.boxI b _ ho o
  · have hb' : (back L k).bind G.bb = some b := hb
    cases hk : back L k with
    | none => rw [hk] at hb'; cases hb'
    | some s =>
      rw [hk] at hb'
      show lendOw L (G.ow b) = _
      rw [hw.bbow s b hb']
      simp [lendOw, back_lend hn hk]

theorem caps_ren {g : Nat → Option Nat} {bb bb' : Nat → Option Nat} (h : ∀ s k b, g s = some k → bb s = some b → bb' k = some b) : ∀ {caps caps' : List (Nat × Nat)} {vs : List Value}, capsTo g caps = some caps' →
    All2 (fun (c : Nat × Nat) v => ∃ b, bb c.1 = some b ∧ v = .pointer (some ⟨b, c.2, none⟩)) caps vs → All2 (fun (c : Nat × Nat) v => ∃ b, bb' c.1 = some b ∧ v = .pointer (some ⟨b, c.2, none⟩)) caps' vs
  | [], caps', _, hc, .nil => by simp [capsTo] at hc; subst hc; exact .nil
  | (s, o) :: caps, caps', v :: vs, hc, .cons h1 h2 => by
    unfold capsTo at hc
    split at hc
    case h_2 => cases hc
    rename_i k m hk hm
    cases hc
    obtain ⟨b, h3, h4⟩ := h1
    exact .cons ⟨b, h s k b hk h3, h4⟩ (caps_ren h hm h2)

/-- under other names -/
theorem RN.ren {G1 : Gh} {g : Nat → Option Nat} (hI : ∀ b o y, G.I b o = some y → G1.I b o = some y) (h : ∀ s k b, g s = some k → G.bb s = some b → G1.bb k = some b) {u : CV} (hu : RN G u x) : RN G1 (u.ren g) x := by
  have hone := hu.one
  cases u with
  | loc s off =>
    obtain ⟨b, h1, h2⟩ := hu
    simp only [CV.ren]
    split
    · rename_i k hk; exact ⟨b, h s k b hk h1, h2⟩
    · exact hone
  | fn f caps =>
    obtain ⟨vs, h1, h2⟩ := hu
    simp only [CV.ren]
    split
    · rename_i m hm; exact ⟨vs, h1, caps_ren h hm h2⟩
    · exact hone
  | cptr l =>
    obtain ⟨b, o, h1, h2⟩ := hu
    exact ⟨b, o, h1, fun j p hp => let ⟨y, h3, h4⟩ := h2 j p hp; ⟨y, hI _ _ _ h3, h4.mono hI⟩⟩
  | pv p => exact RP.mono hI hu
  | top => exact hu
  | nils => exact hu
  | nilp => exact hu
  | own e c => exact False.elim hu
  | iter s pos => exact False.elim hu
  | bld => exact hu

theorem RT.ren {G1 : Gh} {g : Nat → Option Nat} (hI : ∀ b o y, G.I b o = some y → G1.I b o = some y) (h : ∀ s k b, g s = some k → G.bb s = some b → G1.bb k = some b) {u : TV} (hu : RT G u x) : RT G1 (u.ren g) x := by
  cases u with
  | c u => exact RN.ren hI h hu
  | agg l => obtain ⟨vs, h1, h2⟩ := hu; exact ⟨vs, h1, All2.map_left (h2.imp fun _ _ _ h3 => h3.ren hI h)⟩

theorem isOwn_ren (g : Nat → Option Nat) (u : CV) (h : isOwn (.c u) = false) : isOwn (.c (u.ren g)) = false := by
  cases u with
  | loc s off => simp only [CV.ren]; split <;> rfl
  | fn f caps => simp only [CV.ren]; split <;> rfl
  | own e c => cases h
  | iter s pos => cases h
  | _ => rfl

theorem RA.ren_plain {G1 : Gh} {w1 : World} {g : Nat → Option Nat} (hI : ∀ b o y, G.I b o = some y → G1.I b o = some y) (h : ∀ s k b, g s = some k → G.bb s = some b → G1.bb k = some b) {ℓ ℓ' : Own}
    (hv : isOwn v = false) (hu : RA G w ℓ v x) : RA G1 w1 ℓ' (v.ren g) x := by
  cases v with
  | c u =>
    by_cases ht : u = .top
    · subst ht; exact trivial
    · exact RA.of_RN (v := u.ren g) (((hu.toRC ht).to_RN (by cases u <;> first | rfl | cases hv)).ren hI h)
  | agg l => obtain ⟨vs, h1, h2⟩ := hu; exact ⟨vs, h1, All2.map_left (h2.imp fun _ _ _ h3 => h3.ren hI h)⟩
  | tup l => obtain ⟨vs, h1, h2⟩ := hu; exact ⟨vs, h1, All2.map_left (h2.imp fun _ _ _ h3 => h3.ren hI h)⟩

theorem lend_bb (s k b : Nat) (h : lend L s = some k) (hb : G.bb s = some b) : (lendG G L).bb k = some b := by
  show (back L k).bind G.bb = _
  rw [(lend_back h).1]; exact hb

theorem lend_BoxR (hn : L.Nodup) {i s : Nat} {l : List CV} (hi : L[i]? = some s) (h : BoxR G w s l) : BoxR (lendG G L) w (LK + i) (l.map (CV.ren (lend L))) := by
  obtain ⟨b, cs, ty, h1, h2, h3, h4⟩ := h
  have hl : lend L s = some (LK + i) := by unfold lend; rw [idx_of_nodup hn hi]; rfl
  refine ⟨b, cs, ty, lend_bb s _ b hl h1, h2, ⟨by simpa using h3.1, h3.2.map (fun v e => ren_bld e)⟩, fun k u hu => ?_⟩
  rw [List.getElem?_map, Option.map_eq_some_iff] at hu
  obtain ⟨u', hu', rfl⟩ := hu
  obtain ⟨y, h5, h6⟩ := h4 k u' hu'
  refine ⟨y, h5, ?_⟩
  by_cases ho : u'.plain = true
  · exact .of_RN (RN.ren (G := G) (G1 := lendG G L) (fun _ _ _ h => h) lend_bb (h6.to_RN ho))
  · cases u' <;> simp [CV.plain] at ho
    case iter s2 pos => exact IterAt.one h6
    rename_i e c
    have h7 : OwnAt G w (.cell s k) e c y := h6
    show OwnAt (lendG G L) w (.cell (LK + i) k) e c y
    rcases h7 with ⟨h7, ad, h8, h9⟩ | ⟨hne, b', cap, cur, sz, k1, k2, k3⟩
    · refine .inl ⟨h7, ad, h8, h9.map fun b' hb' => ⟨?_, rfl⟩⟩
      show lendOw L (G.ow b') = _
      rw [hb']; simp [lendOw, hl]
    · refine .inr ⟨hne, b', cap, cur, sz, k1, ?_, k3⟩
      show lendOw L (G.ow b') = _
      rw [k2]; simp [lendOw, hl]

/-- the ghost behind the call: what was lent comes back, what was not is as it was -/
def backOw (L : List Nat) (o : Own) : Option Own → Option Own
  | some (.box k) => (back L k).map Own.box
  | some (.cell k j) => (back L k).map fun s => Own.cell s j
  | some .ret => some o
  | _ => none

def mergeG (G : Gh) (n : Nat) (L : List Nat) (o : Own) (G1 : Gh) : Gh :=
  { I := G1.I, bb := G.bb, ow := fun b => if b < n ∧ lendOw L (G.ow b) = none then G.ow b else backOw L o (G1.ow b) }

def lentCh (L : List Nat) (ℓ : Own) : Prop := ∃ s ∈ L, ℓ = .box s ∨ ∃ k, ℓ = .cell s k

theorem lendOw_none {ℓ : Own} (h : ¬ lentCh L ℓ) : lendOw L (some ℓ) = none := by
  have hn : ∀ s, s ∉ L → lend L s = none := fun s hs => by
    unfold lend
    cases hi : idx s L with
    | none => rfl
    | some i => exact absurd (List.mem_of_getElem? (idx_some hi)) hs
  cases ℓ with
  | box s =>
    have : s ∉ L := fun hs => h ⟨s, hs, .inl rfl⟩
    simp [lendOw, hn s this]
  | cell s k =>
    have : s ∉ L := fun hs => h ⟨s, hs, .inr ⟨k, rfl⟩⟩
    simp [lendOw, hn s this]
  | slot t => rfl
  | ret => rfl

theorem merge_gr {o : Own} {G1 : Gh} (hn : L.Nodup) (hw : WI G w) (hx : Ext (lendG G L) w G1 w') (hw1 : WI G1 w') (ho : ∀ s, o ≠ .box s) :
    Gr (lentCh L) G w (mergeG G w.heap.size L o G1) w' ∧ WI (mergeG G w.heap.size L o G1) w' := by
  refine ⟨⟨⟨hx.I, fun b hb hno => ?_, hx.size, hx.os, hx.output, hx.tape, fun _ _ => rfl⟩, fun _ _ h => h, fun b ℓ hb hne => ?_⟩, ⟨hw1.cell, fun b hb => ⟨(hw1.fresh b hb).1, ?_⟩, fun b s hb k => ?_, fun s b hb => ?_, hw.tab.map fun b hb hno => ?_⟩⟩
  · have h1 : (lendG G L).ow b = none := by show lendOw L (G.ow b) = none; rw [hno]; rfl
    have h2 := hx.old b hb h1
    refine ⟨?_, h2.2.1, h2.2.2⟩
    show (if b < w.heap.size ∧ lendOw L (G.ow b) = none then G.ow b else _) = none
    rw [if_pos ⟨hb, h1⟩]; exact hno
  · have hlt := ow_lt hw hb
    have h1 : (lendG G L).ow b = none := by show lendOw L (G.ow b) = none; rw [hb]; exact lendOw_none hne
    have h2 := hx.old b hlt h1
    refine ⟨?_, h2.2.1, h2.2.2⟩
    show (if b < w.heap.size ∧ lendOw L (G.ow b) = none then G.ow b else _) = some ℓ
    rw [if_pos ⟨hlt, h1⟩]; exact hb
  · show (if b < w.heap.size ∧ lendOw L (G.ow b) = none then G.ow b else backOw L o (G1.ow b)) = none
    have := hx.size
    rw [if_neg (by omega), (hw1.fresh b hb).2]; rfl
  · have hb' : (if b < w.heap.size ∧ lendOw L (G.ow b) = none then G.ow b else backOw L o (G1.ow b)) = some (.box s) := hb
    split at hb'
    · rename_i hc
      have h2 := hx.old b hc.1 hc.2
      show G1.I b k = none
      rw [h2.2.2 k]; exact hw.boxI b s hb' k
    · cases h3 : G1.ow b with
      | none => rw [h3] at hb'; cases hb'
      | some ℓ =>
        rw [h3] at hb'
        cases ℓ <;> simp [backOw] at hb'
        · exact hw1.boxI b _ h3 k
        · exact absurd hb' (ho s)
  · show (if b < w.heap.size ∧ lendOw L (G.ow b) = none then G.ow b else backOw L o (G1.ow b)) = some (.box s)
    have h1 := hw.bbow s b hb
    have hlt := ow_lt hw h1
    by_cases hc : lendOw L (G.ow b) = none
    · rw [if_pos ⟨hlt, hc⟩]; exact h1
    · rw [if_neg (fun e => hc e.2)]
      rw [h1] at hc
      cases hl : lend L s with
      | none => simp [lendOw, hl] at hc
      | some k =>
        have h2 := lend_bb (G := G) s k b hl hb
        have h3 := hx.lent k (lend_back hl).2
        rw [h2] at h3
        rw [hw1.bbow k b h3]
        simp [backOw, (lend_back hl).1]
  · have h1 : (lendG G L).ow b = none := by show lendOw L (G.ow b) = none; rw [hno]; rfl
    have h2 := hx.old b hb h1
    refine ⟨?_, h2.2.1⟩
    show (if b < w.heap.size ∧ lendOw L (G.ow b) = none then G.ow b else _) = none
    rw [if_pos ⟨hb, h1⟩]; exact hno

theorem merge_bb {G1 : Gh} (hx : Ext (lendG G L) w G1 w') (k s b : Nat) (h : back L k = some s) (hb : G1.bb k = some b) : G.bb s = some b := by
  have h1 := hx.lent k (back_ge h).1
  have h2 : (lendG G L).bb k = G.bb s := by show (back L k).bind G.bb = _; rw [h]; rfl
  rw [← h2, ← h1]; exact hb

theorem merge_own {o : Own} {G1 : Gh} (hx : Ext (lendG G L) w G1 w') {ℓ ℓ' : Own} (hℓ : backOw L o (some ℓ) = some ℓ') {e : TypeId} {c : List (List PV)} {y : Value} (h : OwnAt G1 w' ℓ e c y) : OwnAt (mergeG G w.heap.size L o G1) w' ℓ' e c y := by
  have key : ∀ b, G1.ow b = some ℓ → (if b < w.heap.size ∧ lendOw L (G.ow b) = none then G.ow b else backOw L o (G1.ow b)) = some ℓ' := fun b k2 => by
    rw [if_neg (fun ⟨h1, h2⟩ => by have := (hx.old b h1 h2).1; rw [k2] at this; cases this), k2]
    exact hℓ
  rcases h with ⟨h1, ad, h2, h3⟩ | ⟨hne, b, cap, cur, sz, k1, k2, k3⟩
  · exact .inl ⟨h1, ad, h2, h3.map fun b hb => ⟨key b hb, rfl⟩⟩
  · exact .inr ⟨hne, b, cap, cur, sz, k1, key b k2, k3⟩

theorem merge_BoxR {o : Own} {G1 : Gh} (hn : L.Nodup) (hx : Ext (lendG G L) w G1 w') {i s : Nat} {l : List CV} (hi : L[i]? = some s) (h : BoxR G1 w' (LK + i) l) :
    BoxR (mergeG G w.heap.size L o G1) w' s (l.map (CV.ren (back L))) := by
  obtain ⟨b, cs, ty, h1, h2, h3, h4⟩ := h
  have hb : back L (LK + i) = some s := by unfold back; rw [if_pos (by omega), Nat.add_sub_cancel_left]; exact hi
  refine ⟨b, cs, ty, merge_bb hx _ s b hb h1, h2, ⟨by simpa using h3.1, h3.2.map (fun v e => ren_bld e)⟩, fun k u hu => ?_⟩
  rw [List.getElem?_map, Option.map_eq_some_iff] at hu
  obtain ⟨u', hu', rfl⟩ := hu
  obtain ⟨y, h5, h6⟩ := h4 k u' hu'
  refine ⟨y, h5, ?_⟩
  by_cases ho : u'.plain = true
  · exact .of_RN (RN.ren (G := G1) (G1 := mergeG G w.heap.size L o G1) (fun _ _ _ h => h) (merge_bb (G := G) hx) (h6.to_RN ho))
  · cases u' <;> simp [CV.plain] at ho
    case iter s2 pos => exact IterAt.one h6
    exact merge_own hx (by simp [backOw, hb]) (h6 : OwnAt G1 w' (.cell (LK + i) k) _ _ y)

theorem getBoxes_get {bx : Nat → Option (List CV)} : ∀ {L : List Nat} {cs : List (List CV)}, getBoxes bx L = some cs → cs.length = L.length ∧ ∀ (i : Nat) (l : List CV), cs[i]? = some l → ∃ s, L[i]? = some s ∧ bx s = some l
  | [], cs, h => by simp [getBoxes] at h; subst h; exact ⟨rfl, fun i l h => by simp at h⟩
  | s :: L, cs, h => by
    unfold getBoxes at h
    split at h
    case h_2 => cases h
    rename_i c m hc hm
    cases h
    obtain ⟨h1, h2⟩ := getBoxes_get hm
    refine ⟨by simp [h1], fun i l hi => ?_⟩
    cases i with
    | zero => simp at hi; subst hi; exact ⟨s, rfl, hc⟩
    | succ i => simpa using h2 i l (by simpa using hi)

/-- THE CALL, AS THE CALLER SEES IT. -/
theorem call_ok {g : FuncId} {args : List AV} {cargs : List Value} {cs : List (List CV)} {r : Res} {o : Own} (hn : L.Nodup) (hf : FR G w S a) (hw : WI G w) (ho : ∀ s, o ≠ .box s)
    (hg : getBoxes S.bx L = some cs) (hargs : All2 (fun v x => ∃ ℓ, RA G w ℓ v x) args cargs)
    (hc : Contract P g (args.map fun a => (a.deg).ren (lend L)) (cs.map fun c => c.map (CV.ren (lend L))) r) :
    Calls P g cargs.toArray w fun e w' => ∃ G', Gr (lentCh L) G w G' w' ∧ WI G' w' ∧ G'.bb = G.bb ∧
      match r with
      | .ret v cs' => ∃ x, e = .returned x ∧ RA G' w' o (v.ren (back L)) x ∧ cs'.length = L.length ∧ ∀ (i s : Nat) (l : List CV), L[i]? = some s → cs'[i]? = some l → BoxR G' w' s (l.map (CV.ren (back L)))
      | .pan v cs' => ∃ x, e = .panicked [{ v := x, recovered := false }] ∧ RN G' (v.ren (back L)) x ∧ cs'.length = L.length ∧ ∀ (i s : Nat) (l : List CV), L[i]? = some s → cs'[i]? = some l → BoxR G' w' s (l.map (CV.ren (back L))) := by
  obtain ⟨hlen, hget⟩ := getBoxes_get hg
  refine (hc (lendG G L) w cargs (lend_WI hn hw) (All2.map_left (hargs.imp fun v x _ ⟨ℓ, h⟩ => RA.ren_plain (G := G) (G1 := lendG G L) (w := w) (fun _ _ _ h => h) lend_bb (isOwn_deg v) (h.deg (ℓ' := ℓ)))) ?_ ?_ ?_).mono ?_
  · intro v hv
    obtain ⟨u, _, rfl⟩ := List.mem_map.1 hv
    have h1 := isOwn_deg u
    cases hd : u.deg with
    | c u' => rw [hd] at h1; show isOwn (.c (u'.ren _)) = false; exact isOwn_ren _ _ h1
    | agg l => rfl
    | tup l => rfl
  · intro i l hl
    rw [List.getElem?_map, Option.map_eq_some_iff] at hl
    obtain ⟨l', hl', rfl⟩ := hl
    obtain ⟨s, hs, hb⟩ := hget i l' hl'
    exact lend_BoxR hn hs (hf.box s l' hb)
  · intro s b hb
    have hb' : (back L s).bind G.bb = some b := hb
    cases hk : back L s with
    | none => rw [hk] at hb'; cases hb'
    | some t =>
      obtain ⟨h1, h2⟩ := back_ge hk
      have := (List.getElem?_eq_some_iff.1 h2).1
      exact ⟨s - LK, by simp [hlen]; exact this, by omega⟩
  · rintro e w' ⟨G1, hx, hw1, hr⟩
    obtain ⟨g1, hw2⟩ := merge_gr (o := o) hn hw hx hw1 ho
    refine ⟨_, g1, hw2, rfl, ?_⟩
    have hl : (cs.map fun c => c.map (CV.ren (lend L))).length = L.length := by simp [hlen]
    cases r with
    | ret v cs' =>
      obtain ⟨x, h1, h2, h3, h4⟩ := hr
      refine ⟨x, h1, ?_, by rw [h3, hl], fun i s l hi hl' => merge_BoxR hn hx hi (h4 i l hl')⟩
      by_cases hv : isOwn v = true
      · cases v with
        | c u =>
          cases u <;> first | (cases hv; done) | skip
          case iter s2 pos => exact trivial
          exact merge_own hx rfl (h2 : OwnAt G1 w' .ret _ _ x)
        | agg l => cases hv
        | tup l => cases hv
      · exact RA.ren_plain (G := G1) (G1 := mergeG G w.heap.size L o G1) (fun _ _ _ h => h) (merge_bb (G := G) hx) (by simpa using hv) h2
    | pan v cs' =>
      obtain ⟨x, h1, h2, h3, h4⟩ := hr
      exact ⟨x, h1, RN.ren (G := G1) (G1 := mergeG G w.heap.size L o G1) (fun _ _ _ h => h) (merge_bb (G := G) hx) h2, by rw [h3, hl], fun i s l hi hl' => merge_BoxR hn hx hi (h4 i l hl')⟩
end
end Go.Abs
