/-
  THE ABSTRACT INTERPRETER: stores, new boxes, new slices.
  THE ABSTRACT INTERPRETER: append; conversions between strings and bytes.
  THE ABSTRACT INTERPRETER: conversions.
  THE ABSTRACT INTERPRETER: calls: what a contract says, and what a caller has of it.
  THE ABSTRACT INTERPRETER: each operation, as the model carries it out.
  THE ABSTRACT INTERPRETER: a region, in the order of its text and in every order that the tape may pick.
-/
import Derived.Test.YtmcjabhnmealgaaDoorQA
import Derived.Laws.Runes
import Derived.Laws.RangeString
set_option linter.unusedSimpArgs false
set_option linter.unusedVariables false
namespace Go.Abs
open Go

section
variable {P : Program} {G G' G1 G2 : Gh} {w w' w1 w2 : World} {S : St} {a : Act} {dst : Option Nat} {v : AV} {dg : Option Nat} {bs : List (Nat × List CV)} {x : Value}

theorem Gr.trans {c1 c2 : Own → Prop} (g : Gr c1 G w G1 w1) (k : Gr c2 G1 w1 G2 w2) : Gr (fun ℓ => c1 ℓ ∨ c2 ℓ) G w G2 w2 :=
  ⟨g.ext.trans k.ext, fun s b h => k.bb s b (g.bb s b h), fun b ℓ h hn =>
    have h1 := g.keep b ℓ h (fun e => hn (.inl e))
    have h2 := k.keep b ℓ h1.1 (fun e => hn (.inr e))
    ⟨h2.1, h2.2.1.trans h1.2.1, fun o => (h2.2.2 o).trans (h1.2.2 o)⟩⟩

theorem setRow_size (w : World) (g : Nat) (cs : Array Value) : (w.setRow g cs).heap.size = w.heap.size := by simp [World.setRow]

theorem ow_lt (hw : WI G w) {b : Nat} {ℓ : Own} (h : G.ow b = some ℓ) : b < w.heap.size := by
  rcases Nat.lt_or_ge b w.heap.size with h1 | h1
  · exact h1
  · have := (hw.fresh b h1).2; rw [h] at this; cases this

/-- a box is written -/
theorem setRow_gr (hw : WI G w) {s b : Nat} {cs new : Array Value} {ty : TypeId} (hb : G.bb s = some b) (_hh : w.heap[b]? = some (.cells cs ty (0, 0))) :
    Gr (fun ℓ => ℓ = .box s) G w G (w.setRow b new) ∧ WI G (w.setRow b new) := by
  have ho := hw.bbow s b hb
  refine ⟨⟨⟨fun _ _ _ h => h, fun c _ hc => ⟨hc, setRow_other w b c new (fun e => by rw [e, ho] at hc; cases hc), fun _ => rfl⟩, by rw [setRow_size]; exact Nat.le_refl _, rfl, rfl, rfl, fun _ _ => rfl⟩,
      fun _ _ h => h, fun c ℓ hc hne => ⟨hc, setRow_other w b c new (fun e => hne (by rw [e, ho] at hc; exact (Option.some.inj hc).symm)), fun _ => rfl⟩⟩,
    ⟨fun c o y h => ?_, fun c hc => hw.fresh c (by rw [setRow_size] at hc; exact hc), hw.boxI, hw.bbow, hw.tab.map fun c _ hc => ⟨hc, setRow_other w b c new (fun e => by rw [e, ho] at hc; cases hc)⟩⟩⟩
  have hne : c ≠ b := fun e => by have := hw.boxI b s ho o; rw [← e, h] at this; cases this
  rw [cell_setRow_other w b new ⟨c, o, none⟩ hne]
  exact hw.cell c o y h

theorem run_storeAt {t : TypeId} {b off : Nat} {cs : Array Value} {ty : TypeId} {y : Value} {xs : List Value} (hh : w.heap[b]? = some (.cells cs ty (0, 0))) (hc : y.cells = xs.toArray) (hs : szOf P t = some xs.length)
    (hfit : off + xs.length ≤ cs.size) (h1 : ∀ u ∈ xs, u.oneCell' = true) :
    (Instr.storeAt t (.pointer (some ⟨b, off, none⟩)) y).run P w = .ok () (w.setRow b (cs.toList.take off ++ xs ++ cs.toList.drop (off + xs.length)).toArray) := by
  have := run_storeCells_at P b off ty xs 0 cs w hh (by simpa using hfit) h1
  simp only [Nat.add_zero] at this
  simp [Instr.storeAt, Instr.sureAddr, storeVar, run_sizeOf' hs, hc, this]

theorem setAt_get (l : List CV) (off : Nat) (vs : List CV) (h : off + vs.length ≤ l.length) (k : Nat) :
    (setAt l off vs)[k]? = if off ≤ k ∧ k < off + vs.length then vs[k - off]? else l[k]? := by
  unfold setAt
  rw [List.append_assoc]
  by_cases h1 : k < off
  · rw [List.getElem?_append_left (by simp; omega), List.getElem?_take_of_lt h1, if_neg (by omega)]
  · rw [List.getElem?_append_right (by simp; omega)]
    simp only [List.length_take, Nat.min_eq_left (show off ≤ l.length by omega)]
    by_cases h2 : k < off + vs.length
    · rw [List.getElem?_append_left (by omega), if_pos ⟨by omega, h2⟩]
    · rw [List.getElem?_append_right (by omega), if_neg (by omega), List.getElem?_drop]
      congr 1; omega

theorem setArr_get (cs : Array Value) (off : Nat) (xs : List Value) (h : off + xs.length ≤ cs.size) (k : Nat) :
    (cs.toList.take off ++ xs ++ cs.toList.drop (off + xs.length)).toArray[k]? = if off ≤ k ∧ k < off + xs.length then xs[k - off]? else cs[k]? := by
  simp only [List.getElem?_toArray]
  rw [List.append_assoc]
  by_cases h1 : k < off
  · rw [List.getElem?_append_left (by simp; omega), List.getElem?_take_of_lt h1, if_neg (by omega)]
    simp
  · rw [List.getElem?_append_right (by simp; omega)]
    simp only [List.length_take, Array.length_toList, Nat.min_eq_left (show off ≤ cs.size by omega)]
    by_cases h2 : k < off + xs.length
    · rw [List.getElem?_append_left (by omega), if_pos ⟨by omega, h2⟩]
    · rw [List.getElem?_append_right (by omega), if_neg (by omega), List.getElem?_drop, Array.getElem?_toList]
      congr 1; omega

theorem setArr_size (cs : Array Value) (off : Nat) (xs : List Value) (h : off + xs.length ≤ cs.size) : (cs.toList.take off ++ xs ++ cs.toList.drop (off + xs.length)).toArray.size = cs.size := by
  simp; omega

theorem cvOf_noBld (v : Value) : cvOf v ≠ .bld := by
  unfold cvOf
  split <;> simp

theorem zero_noBld {t : TypeId} {l : List CV} (h : zeroCells P t = some l) : CV.bld ∉ l := by
  unfold zeroCells at h
  split at h
  case h_2 => cases h
  split at h
  case h_2 => cases h
  split at h
  case isFalse => cases h
  cases h
  intro hm
  obtain ⟨v, _, e⟩ := List.mem_map.1 hm
  exact cvOf_noBld v e

theorem markB_RN {t : TypeId} {l : List CV} {cs : List Value} (h : All2 (RN G) l cs) : All2 (RN G) (markB t l) cs := by
  unfold markB
  split
  · cases l with
    | nil => exact h
    | cons v l =>
      cases h with
      | cons h1 h2 =>
        cases v <;> first | exact .cons h1 h2 | skip
  · exact h

theorem markB_bld {t : TypeId} {l : List CV} (h : CV.bld ∉ l) : Bld t (markB t l) := fun e => by
  unfold markB at e
  split at e
  · rename_i hc; simpa using hc
  · exact absurd (List.mem_of_getElem? e) h

theorem cellsOf_noBld {A : AV} {vs : List CV} (h : cellsOfAV A = some vs) : CV.bld ∉ vs := by
  unfold cellsOfAV at h
  split at h
  · cases h
  · cases h
  · cases h
  · cases h
  · rename_i v _ hne _ _; cases h; intro hm; simp at hm; exact hne hm.symm
  · rename_i l
    split at h
    case isFalse => cases h
    rename_i hc
    cases h
    intro hm
    simp only [Bool.and_eq_true] at hc
    have := List.all_eq_true.1 hc.2 _ hm
    cases this
  · cases h

theorem store_ok {t : TypeId} {A : AV} {X : Operand} {y : Value} {ℓ : Own} {d : Delta} (h : absStore P S.bx t A X (opd S.sl X) = some d) (hf : FR G w S a) (hw : WI G w) (hA : RA G w ℓ A y)
    (hdst : dst = none) :
    ∃ v dg bs w' G', d = .val v dg bs ∧ (Instr.storeAt t y (a.eval X)).run P w = .ok () w' ∧ Step G w S a dst v dg bs undef G' w' := by
  subst hdst
  unfold absStore at h
  split at h
  case h_2 => cases h
  rename_i s off
  split at h
  case h_2 => cases h
  rename_i cells vs hbx hvs
  split at h
  case isFalse => cases h
  rename_i hc
  obtain ⟨hsz, hfit⟩ := hc
  obtain ⟨b, hb, rfl⟩ : ∃ b, G.bb s = some b ∧ y = .pointer (some ⟨b, off, none⟩) := hA
  obtain ⟨b', cs, ty, hb', hh, ⟨hcs, hbl⟩, hcells⟩ := hf.box s cells hbx
  rw [hb] at hb'; cases hb'
  have hX := hf.opd X
  -- what is common: values xs for vs, after a step of the ghost alone
  have main : ∀ (xs : List Value) (G1 : Gh) (ch : Own → Prop) (dg : Option Nat), (a.eval X).cells = xs.toArray → xs.length = vs.length → Gr ch G w G1 w → WI G1 w → G1.bb = G.bb →
      (∀ k u, vs[k]? = some u → ∃ x, xs[k]? = some x ∧ RC G1 w (.cell s (off + k)) u x) → (∀ t, ch (.slot t) → dg = some t) → (∀ s', ¬ ch (.box s')) → (∀ s' k, ¬ ch (.cell s' k)) → (∀ t, dg = some t → (S.sl t).isIter = false) →
      ∃ w' G', (Instr.storeAt t (.pointer (some ⟨b, off, none⟩)) (a.eval X)).run P w = .ok () w' ∧ Step G w S a none (.tup []) dg [(s, setAt cells off vs)] undef G' w' := by
    intro xs G1 ch dg hxc hxl g1 hw1 hbb hvals hsl hbo hce hit
    have hfit' : off + xs.length ≤ cs.size := by omega
    have hone : ∀ u ∈ xs, u.oneCell' = true := fun u hu => by
      obtain ⟨k, hk⟩ := List.mem_iff_getElem?.1 hu
      have hlt : k < vs.length := by have := (List.getElem?_eq_some_iff.1 hk).1; omega
      obtain ⟨z, h1, h2⟩ := hvals k vs[k] (by simp)
      rw [hk] at h1; cases h1
      exact h2.one
    have hrun := run_storeAt (P := P) (t := t) hh hxc (by rw [hxl]; exact hsz) hfit' hone
    obtain ⟨g2, hw2⟩ := setRow_gr hw1 (s := s) (by rw [hbb]; exact hb) hh (new := (cs.toList.take off ++ xs ++ cs.toList.drop (off + xs.length)).toArray)
    have hlt : b < w.heap.size := (Array.getElem?_eq_some_iff.1 hh).1
    refine ⟨_, G1, hrun, Step.of_gr hf hw (g1.trans g2) hw2 (fun d e => by cases e) (fun t ht => ?_) (fun s' l hl => ?_) (fun s' hs' hlk => ?_) hit⟩
    · rcases ht with h1 | h1
      · exact .inr (hsl t h1)
      · cases h1
    · rw [setBoxes_one] at hl
      split at hl
      · rename_i he
        subst he
        cases hl
        refine .inr ⟨b, _, ty, by rw [hbb]; exact hb, setRow_heap w b cs _ ty _ hh, ⟨by rw [setArr_size _ _ _ hfit', setAt_length _ _ _ hfit, hcs], fun e => by
          rw [setAt_get _ _ _ hfit] at e
          split at e
          · exact absurd (List.mem_of_getElem? e) (cellsOf_noBld hvs)
          · exact hbl e⟩, fun k u hu => ?_⟩
        rw [setAt_get _ _ _ hfit] at hu
        rw [setArr_get _ _ _ hfit']
        split at hu
        · rename_i hk
          obtain ⟨z, h1, h2⟩ := hvals _ _ hu
          rw [if_pos (by omega)]
          have e : off + (k - off) = k := by omega
          rw [e] at h2
          exact ⟨z, h1, h2.gr g2 (by simp)⟩
        · rename_i hk
          rw [if_neg (by omega)]
          obtain ⟨z, h1, h2⟩ := hcells _ _ hu
          exact ⟨z, h1, (h2.gr g1 (hce _ _)).gr g2 (by simp)⟩
      · rename_i he
        refine .inl ⟨hl, fun e => ?_, fun k e => ?_⟩
        · rcases e with e | e
          · exact hbo _ e
          · cases e; exact he rfl
        · rcases e with e | e
          · exact hce _ _ e
          · cases e
    · rw [setBoxes_one] at hs'
      split at hs'
      · cases hs'
      · rw [hbb]; exact hf.nob s' hs' hlk
  split at h
  · rename_i ho
    split at h
    case h_2 => cases h
    rename_i u
    cases h
    have hu : ∃ e c, opd S.sl (.tmp u) = .c (.own e c) := by
      cases hv : opd S.sl (.tmp u) with
      | c v => 
        rw [hv] at ho hvs
        cases v with
        | own e c => exact ⟨_, _, rfl⟩
        | iter s pos => exact absurd hvs (by simp [cellsOfAV])
        | cmap es => exact absurd hvs (by simp [cellsOfAV])
        | _ => cases ho
      | agg l => rw [hv] at ho; cases ho
      | tup l => rw [hv] at ho; cases ho
    obtain ⟨e, c, hc⟩ := hu
    rw [hc] at hvs hX
    simp [cellsOfAV] at hvs
    subst hvs
    have hX' : OwnAt G w (.slot u) e c (a.eval (.tmp u)) := hX
    obtain ⟨G1, g1, hw1, hown, hbb⟩ := own_give (ℓ' := .cell s off) hw hX' (by simp) (by simp)
    have hone : (a.eval (.tmp u)).oneCell' = true := (RC.deg (ℓ := .slot u) (v := .own e c) hX').one
    obtain ⟨w', G', h1, h2⟩ := main [a.eval (.tmp u)] G1 _ (some u) (by rw [cells_one hone]) rfl g1 hw1 hbb
      (fun k z hz => by
        cases k with
        | zero => simp at hz; subst hz; exact ⟨_, rfl, hown⟩
        | succ k => simp at hz)
      (fun t ht => by cases ht; rfl) (fun s' h => by cases h) (fun s' k h => by cases h) (fun t e => by cases e; rw [show S.sl u = .c (.own e c) from hc]; rfl)
    exact ⟨_, _, _, w', G', rfl, h1, h2⟩
  · rename_i ho
    cases h
    obtain ⟨xs, hxc, hxs⟩ := cellsOf_ok hvs (by simpa using ho) hX
    obtain ⟨w', G', h1, h2⟩ := main xs G (fun _ => False) none hxc hxs.length.symm (.refl _ _) hw rfl
      (fun k z hz => let ⟨y, h1, h2⟩ := hxs.get hz; ⟨y, h1, .of_RN h2⟩) (fun _ h => h.elim) (fun _ h => h) (fun _ _ h => h) (fun _ e => by cases e)
    exact ⟨_, _, _, w', G', rfl, h1, h2⟩

/-! ### New boxes -/

def Gh.box (G : Gh) (d b : Nat) : Gh := { G with bb := upd G.bb d (some b), ow := upd G.ow b (some (.box d)) }

theorem alloc_size (w : World) (o : Obj) : (w.alloc o).heap.size = w.heap.size + 1 := by show (w.heap.push o).size = _; simp

theorem heap_old (w : World) (o : Obj) (r : Nat) (h : r < w.heap.size) : (w.alloc o).heap[r]? = w.heap[r]? := by
  show (w.heap.push o)[r]? = _
  rw [Array.getElem?_push_lt h, Array.getElem?_eq_getElem h]

theorem cell_alloc_old (w : World) (o : Obj) {b off : Nat} (h : b < w.heap.size) : (w.alloc o).cell? ⟨b, off, none⟩ = w.cell? ⟨b, off, none⟩ := by
  simp [World.cell?, heap_old w o b h]

theorem I_lt (hw : WI G w) {b o : Nat} {y : Value} (h : G.I b o = some y) : b < w.heap.size := by
  rcases Nat.lt_or_ge b w.heap.size with h1 | h1
  · exact h1
  · have := (hw.fresh b h1).1 o; rw [h] at this; cases this

theorem newBox_ok {l : List CV} {cs : List Value} {ty : TypeId} {d : Delta} (h : newBox S.bx dst l = some d) (hf : FR G w S a) (hw : WI G w) (hc : All2 (RN G) l cs) (hbl : Bld ty l) :
    ∃ v bs G', d = .val v none bs ∧ Step G w S a dst v none bs (.pointer (some ⟨w.heap.size, 0, none⟩)) G' (w.alloc (.cells cs.toArray ty)) := by
  unfold newBox at h
  split at h
  case h_2 => cases h
  rename_i dd
  split at h
  case isFalse => cases h
  rename_i hcond
  obtain ⟨hd, hno⟩ := hcond
  cases h
  have hno' : S.bx dd = none := by simpa using hno
  have hbb : G.bb dd = none := hf.nob dd hno' hd
  have hnew : (w.alloc (.cells cs.toArray ty)).heap[w.heap.size]? = some (.cells cs.toArray ty (0, 0)) := heap_alloc_new w _
  have g : Gr (fun _ => False) G w (G.box dd w.heap.size) (w.alloc (.cells cs.toArray ty)) := by
    refine ⟨⟨fun _ _ _ h => h, fun c hc ho => ⟨?_, heap_old w _ c hc, fun _ => rfl⟩, by rw [alloc_size]; omega, rfl, rfl, rfl, fun k hk => ?_⟩, fun s b hb => ?_, fun b ℓ hb _ => ⟨?_, heap_old w _ b (ow_lt hw hb), fun _ => rfl⟩⟩
    · show upd G.ow w.heap.size _ c = none
      unfold upd; rw [if_neg (by omega)]; exact ho
    · show upd G.bb dd _ k = _
      unfold upd; rw [if_neg (by omega)]
    · show upd G.bb dd _ s = _
      unfold upd; rw [if_neg (fun e => by rw [e, hbb] at hb; cases hb)]; exact hb
    · show upd G.ow w.heap.size _ b = _
      have := ow_lt hw hb
      unfold upd; rw [if_neg (by omega)]; exact hb
  have hw' : WI (G.box dd w.heap.size) (w.alloc (.cells cs.toArray ty)) := by
    refine ⟨fun b o y hI => ?_, fun b hb => ?_, fun b s hb o => ?_, fun s b hb => ?_, hw.tab.map fun c hc ho => ⟨(g.ext.old c hc ho).1, (g.ext.old c hc ho).2.1⟩⟩
    · rw [cell_alloc_old w _ (I_lt hw hI)]; exact hw.cell b o y hI
    · rw [alloc_size] at hb
      refine ⟨(hw.fresh b (by omega)).1, ?_⟩
      show upd G.ow w.heap.size _ b = none
      unfold upd; rw [if_neg (by omega)]; exact (hw.fresh b (by omega)).2
    · have hb' : upd G.ow w.heap.size (some (.box dd)) b = some (.box s) := hb
      unfold upd at hb'
      split at hb'
      · rename_i he; subst he; exact (hw.fresh _ (Nat.le_refl _)).1 o
      · exact hw.boxI b s hb' o
    · have hb' : upd G.bb dd (some w.heap.size) s = some b := hb
      show upd G.ow w.heap.size _ b = _
      unfold upd at hb' ⊢
      split at hb'
      · rename_i he; subst he; cases hb'; rw [if_pos rfl]
      · have h1 := hw.bbow s b hb'
        have h2 := ow_lt hw h1
        rw [if_neg (by omega)]; exact h1
  refine ⟨_, _, G.box dd w.heap.size, rfl, Step.of_gr hf hw g hw' (fun d' e => ?_) (fun _ h => h.elim) (fun s l' hl => ?_) (fun s hs hlk => ?_)⟩
  · cases e
    exact ⟨w.heap.size, by simp [Gh.box, upd], rfl⟩
  · rw [setBoxes_one] at hl
    split at hl
    · rename_i he
      subst he
      cases hl
      refine .inr ⟨w.heap.size, cs.toArray, ty, by simp [Gh.box, upd], hnew, ⟨by simp [hc.length], hbl⟩, fun k u hu => ?_⟩
      obtain ⟨z, h1, h2⟩ := hc.get hu
      exact ⟨z, by simpa using h1, .of_RN (h2.gr g)⟩
    · exact .inl ⟨hl, fun h => h, fun _ h => h⟩
  · rw [setBoxes_one] at hs
    split at hs
    · cases hs
    · rename_i he
      show upd G.bb dd _ s = none
      unfold upd; rw [if_neg he]; exact hf.nob s hs hlk

/-! ### New rows -/

def Gh.row (G : Gh) (b : Nat) (f : Nat → Option Value) (o : Option Own) : Gh := { G with I := fun c k => if c = b then f k else G.I c k, ow := upd G.ow b o }

/-- a new block whose cells never turn (those that 'f' gives) -/
theorem newRow_gr (hw : WI G w) {cs : Array Value} {ty : TypeId} {fz : Nat × Nat} {f : Nat → Option Value} {o : Option Own} (hf : ∀ k y, f k = some y → cs[k]? = some y) (ho : ∀ s, o ≠ some (.box s)) :
    Gr (fun _ => False) G w (G.row w.heap.size f o) (w.alloc (.cells cs ty fz)) ∧ WI (G.row w.heap.size f o) (w.alloc (.cells cs ty fz)) := by
  have hI : ∀ b k y, G.I b k = some y → (G.row w.heap.size f o).I b k = some y := fun b k y h => by
    have := I_lt hw h
    show (if b = _ then f k else G.I b k) = _
    rw [if_neg (by omega)]; exact h
  refine ⟨⟨⟨hI, fun c hc hn => ⟨?_, heap_old w _ c hc, fun k => ?_⟩, by rw [alloc_size]; omega, rfl, rfl, rfl, fun k hk => rfl⟩, fun s b hb => hb, fun b ℓ hb _ => ⟨?_, heap_old w _ b (ow_lt hw hb), fun k => ?_⟩⟩, ⟨fun b k y h => ?_, fun b hb => ?_, fun b s hb k => ?_, fun s b hb => ?_, hw.tab.map fun c hc hn => ⟨by show upd G.ow w.heap.size _ c = none; unfold upd; rw [if_neg (by omega)]; exact hn, heap_old w _ c hc⟩⟩⟩
  · show upd G.ow w.heap.size _ c = none
    unfold upd; rw [if_neg (by omega)]; exact hn
  · show (if c = _ then f k else G.I c k) = _
    rw [if_neg (by omega)]
  · have := ow_lt hw hb
    show upd G.ow w.heap.size _ b = _
    unfold upd; rw [if_neg (by omega)]; exact hb
  · have := ow_lt hw hb
    show (if b = _ then f k else G.I b k) = _
    rw [if_neg (by omega)]
  · have h' : (if b = w.heap.size then f k else G.I b k) = some y := h
    split at h'
    · rename_i he; subst he
      rw [cell_of_heap (heap_alloc_new w _)]; exact hf k y h'
    · rw [cell_alloc_old w _ (I_lt hw h')]; exact hw.cell b k y h'
  · rw [alloc_size] at hb
    refine ⟨fun k => ?_, ?_⟩
    · show (if b = _ then f k else G.I b k) = _
      rw [if_neg (by omega)]; exact (hw.fresh b (by omega)).1 k
    · show upd G.ow w.heap.size _ b = none
      unfold upd; rw [if_neg (by omega)]; exact (hw.fresh b (by omega)).2
  · have hb' : upd G.ow w.heap.size o b = some (.box s) := hb
    unfold upd at hb'
    split at hb'
    · exact absurd hb' (ho s)
    · have := ow_lt hw hb'
      show (if b = _ then f k else G.I b k) = _
      rw [if_neg (by omega)]; exact hw.boxI b s hb' k
  · have h1 := hw.bbow s b hb
    have h2 := ow_lt hw h1
    show upd G.ow w.heap.size _ b = _
    unfold upd; rw [if_neg (by omega)]; exact h1

theorem chunks_get (n : Nat) : ∀ (k : Nat) (l : List PV) (i : Nat) (el : List PV), (chunks n l k)[i]? = some el → el = (l.drop (i * n)).take n
  | 0, l, i, el, h => by simp [chunks] at h
  | k + 1, l, 0, el, h => by simp [chunks] at h; simp [h]
  | k + 1, l, i + 1, el, h => by
    simp only [chunks, List.getElem?_cons_succ] at h
    rw [chunks_get n k _ i el h, List.drop_drop]
    congr 2
    rw [Nat.add_mul]; omega

theorem chunks_length (n : Nat) : ∀ (k : Nat) (l : List PV), (chunks n l k).length = k
  | 0, l => rfl
  | k + 1, l => by simp [chunks, chunks_length n k]

theorem chunks_all (n : Nat) : ∀ (k : Nat) (l : List PV), l.length = k * n → ∀ el ∈ chunks n l k, el.length = n
  | 0, l, _, el, h => by simp [chunks] at h
  | k + 1, l, hl, el, h => by
    simp only [chunks, List.mem_cons] at h
    rw [Nat.add_mul] at hl
    rcases h with rfl | h
    · simp; omega
    · exact chunks_all n k _ (by simp; omega) el h

theorem reps_ok : ∀ (n : Nat) {z : List CV} {zs : List Value}, All2 (RN G) z zs → All2 (RN G) (reps z n) ((List.range (n * zs.length)).map fun i => zs[i % zs.length]!)
  | 0, z, zs, h => by simp [reps]; exact .nil
  | n + 1, z, zs, h => by
    have ih := reps_ok n h
    simp only [reps]
    have e : (List.range ((n + 1) * zs.length)).map (fun i => zs[i % zs.length]!) = zs ++ (List.range (n * zs.length)).map fun i => zs[i % zs.length]! := by
      rw [Nat.add_mul, Nat.one_mul, Nat.add_comm, List.range_add, List.map_append, List.map_map]
      congr 1
      · apply List.ext_getElem?
        intro i
        by_cases hi : i < zs.length
        · simp [hi, Nat.mod_eq_of_lt hi]
        · simp [hi]
      · apply List.map_congr_left
        intro i _
        simp
    rw [e]
    exact h.append ih

theorem buildSlice_ok {t : TypeId} {len : Nat} {parts : List (Nat × AV)} {parts' : Array (Nat × Value)} (h : absBuildSlice P t len parts = some v) (hf : FR G w S a) (hw : WI G w) (hp : All2 (RPart G w) parts parts'.toList) :
    ∃ x w' G', (Instr.buildSlice t len parts').run P w = .ok x w' ∧ Step G w S a dst v none [] x G' w' := by
  unfold absBuildSlice at h
  split at h
  case h_2 => cases h
  rename_i e hu
  split at h
  case h_2 => cases h
  rename_i n z hn hz
  split at h
  case isFalse => cases h
  rename_i hc
  obtain ⟨hzl, hpos, hlim⟩ := hc
  split at h
  case h_2 => cases h
  rename_i l hl
  split at h
  case h_2 => cases h
  rename_i ps hps
  cases h
  obtain ⟨i, zv, hi, hzz, hzrun, hzlen, hzcells⟩ := zeroCells_inv (G := G) (w := w) hz
  have hsz : zv.cells.size = n := by rw [← hzlen, hzl]
  have hreps := reps_ok len hzcells
  simp only [Array.length_toList, hsz] at hreps
  obtain ⟨cs', h1, h2⟩ := fill_ok (G := G) (w := w) (place' := fun i => some (i * n, n)) (cs := ((Array.range (len * n)).map (zv.cells[· % n]!))) (fun _ => rfl) hl hp (by
    have e : ((Array.range (len * n)).map (zv.cells[· % n]!)).toList = (List.range (len * n)).map fun i => zv.cells.toList[i % n]! := by
      simp only [Array.toList_map, Array.toList_range]
      apply List.map_congr_left
      intro i _
      have : i % n < zv.cells.size := by rw [hsz]; exact Nat.mod_lt _ hpos
      simp [this]
    rw [e]; exact hreps)
  have hlen : l.length = len * n := by
    have hfl : ∀ (parts : List (Nat × AV)) (cells l : List CV), fillCells (fun i => some (i * n, n)) cells parts = some l → l.length = cells.length := by
      intro parts
      induction parts with
      | nil => intro cells l h; simp [fillCells] at h; rw [h]
      | cons p parts ih =>
        intro cells l h
        obtain ⟨i, x⟩ := p
        unfold fillCells at h
        split at h
        case h_2 => cases h
        rename_i off size vs ho hvs
        split at h
        case isFalse => cases h
        rename_i hcc
        rw [ih _ _ h, setAt_length _ _ _ hcc.2]
    have hr : (reps z len).length = len * n := by rw [hreps.length]; simp
    rw [hfl _ _ _ hl, hr]
  have hall := pvs_RP hps h2
  have hpl : ps.length = len * n := by
    rw [hall.length, ← h2.length, hlen]
  have hcsz : cs'.size = len * n := by rw [← Array.length_toList, ← h2.length, hlen]
  have hrun : (Instr.buildSlice t len parts').run P w = .ok (.slice (some ⟨w.heap.size, 0, none⟩) len len) (w.alloc (.cells cs' e)) := by
    have hl24 : ¬ (16777216 < len * n) := by omega
    by_cases h0 : len * n = 0
    · have hl0 : len = 0 := by rcases Nat.mul_eq_zero.1 h0 with h | h; exact h; omega
      subst hl0
      have he : ∀ f : Nat → Value, (Array.range (0 * n)).map f = #[] := fun f => by apply Array.ext'; simp
      rw [he] at h1
      simp only [Instr.buildSlice, Sem.run_bind, run_underlying hu, run_sizeOf' hn, Result.andThen_ok, he, h1]
      simp [newRow]
    · simp [Instr.buildSlice, run_underlying hu, run_sizeOf' hn, hl24, h0, hzrun, hsz, h1, newRow]
  obtain ⟨g, hw'⟩ := newRow_gr hw (cs := cs') (ty := e) (fz := (0, 0)) (f := fun k => cs'[k]?) (o := dst.map Own.slot) (fun k y h => h) (fun s => by cases dst <;> simp)
  refine ⟨_, _, _, hrun, Step.of_gr hf hw g hw' (fun d hd => ?_) (fun _ h => h.elim) (fun s l hl => .inl ⟨hl, fun h => h, fun _ h => h⟩) (fun s hs hlk => hf.nob s hs hlk)⟩
  subst hd
  by_cases h0 : len = 0
  · subst h0; exact .inl ⟨rfl, _, rfl, .inr ⟨w.heap.size, cs', e, rfl, by simp [Gh.row, upd], heap_alloc_new w _⟩⟩
  · have hcl := chunks_length n len ps
    refine .inr ⟨fun e => by rw [e] at hcl; simp at hcl; omega, w.heap.size, len, cs', n, by rw [hcl], by simp [Gh.row, upd], heap_alloc_new w _, by omega, by rw [hcsz], hpos, chunks_all n len ps hpl, fun i el j p hi hj => ?_, fun o ho => ?_⟩
    · have hel := chunks_get n len ps i el hi
      rw [hel, List.getElem?_take] at hj
      split at hj
      case isFalse => cases hj
      rw [List.getElem?_drop] at hj
      obtain ⟨y, hy1, hy2⟩ := hall.get hj
      refine ⟨y, ?_, hy2.mono g.ext.I⟩
      show (if w.heap.size = w.heap.size then _ else _) = _
      rw [if_pos rfl]
      simpa using hy1
    · show (if w.heap.size = w.heap.size then _ else _) = _
      rw [if_pos rfl, hcl] at *
      simp [hcsz]; exact ho
end
end Go.Abs

namespace Go.Abs
open Go

section
variable {P : Program} {G G' : Gh} {w w' : World} {S : St} {a : Act} {dst dg : Option Nat} {v : AV} {x : Value}

theorem flat_get (sz : Nat) : ∀ (c : List (List PV)), (∀ e ∈ c, e.length = sz) → ∀ (i : Nat) (el : List PV) (j : Nat) (p : PV), c[i]? = some el → el[j]? = some p → c.flatten[i * sz + j]? = some p
  | [], _, i, el, j, p, hi, _ => by simp at hi
  | e :: c, h, 0, el, j, p, hi, hj => by
    simp at hi; subst hi
    have hlt := (List.getElem?_eq_some_iff.1 hj).1
    rw [List.flatten_cons, Nat.zero_mul, Nat.zero_add, List.getElem?_append_left hlt]; exact hj
  | e :: c, h, i + 1, el, j, p, hi, hj => by
    have he := h e (by simp)
    rw [List.flatten_cons, List.getElem?_append_right (by rw [he, Nat.add_mul]; omega)]
    have := flat_get sz c (fun e' h' => h e' (by simp [h'])) i el j p (by simpa using hi) hj
    rw [← this]; congr 1; rw [he, Nat.add_mul]; omega

theorem flat_length (sz : Nat) : ∀ (c : List (List PV)), (∀ e ∈ c, e.length = sz) → c.flatten.length = c.length * sz
  | [], _ => by simp
  | e :: c, h => by
    rw [List.flatten_cons, List.length_append, h e (by simp), flat_length sz c fun e' h' => h e' (by simp [h']), List.length_cons, Nat.add_mul]; omega

/-- a place in the flat list is a cell of an element -/
theorem flat_inv (sz : Nat) (hpos : 0 < sz) : ∀ (c : List (List PV)), (∀ e ∈ c, e.length = sz) → ∀ (k : Nat) (p : PV), c.flatten[k]? = some p → ∃ i el j, c[i]? = some el ∧ el[j]? = some p ∧ k = i * sz + j ∧ j < sz
  | [], _, k, p, h => by simp at h
  | e :: c, h, k, p, hk => by
    have he := h e (by simp)
    rw [List.flatten_cons] at hk
    by_cases hlt : k < e.length
    · rw [List.getElem?_append_left hlt] at hk
      exact ⟨0, e, k, rfl, hk, by omega, by omega⟩
    · rw [List.getElem?_append_right (by omega)] at hk
      obtain ⟨i, el, j, h1, h2, h3, h4⟩ := flat_inv sz hpos c (fun e' h' => h e' (by simp [h'])) _ p hk
      exact ⟨i + 1, el, j, by simpa using h1, h2, by rw [Nat.add_mul]; omega, h4⟩

/-- the cells that the data of a slice name, as values -/
theorem seg_vals {I : Nat → Nat → Option Value} {b o sz : Nat} {c : List (List PV)} (hpos : 0 < sz) (hsz : ∀ e ∈ c, e.length = sz) (h : Seg I b o sz c) :
    ∃ ys : List Value, ys.length = c.length * sz ∧ (∀ k y, ys[k]? = some y → I b (o + k) = some y) ∧ All2 (RP I) c.flatten ys := by
  have hl := flat_length sz c hsz
  refine ⟨(List.range (c.length * sz)).map fun k => (I b (o + k)).getD default, by simp, fun k y hk => ?_, All2.mk (by simp [hl]) fun k p y hp hy => ?_⟩
  · have hlt : k < c.length * sz := by have := (List.getElem?_eq_some_iff.1 hk).1; simpa using this
    have hp : c.flatten[k]? = some c.flatten[k] := by rw [List.getElem?_eq_getElem (by omega)]
    obtain ⟨i, el, j, h1, h2, h3, _⟩ := flat_inv sz hpos c hsz k _ hp
    obtain ⟨z, hz, _⟩ := h i el j _ h1 h2
    simp [hlt] at hk
    rw [h3, hz] at hk ⊢
    simpa using hk
  · obtain ⟨i, el, j, h1, h2, h3, _⟩ := flat_inv sz hpos c hsz k p hp
    obtain ⟨z, hz, hr⟩ := h i el j _ h1 h2
    have hlt : k < c.length * sz := by rw [← hl]; exact (List.getElem?_eq_some_iff.1 hp).1
    subst h3
    rw [List.getElem?_map, List.getElem?_range hlt] at hy
    simp [hz] at hy
    subst hy; exact hr

theorem seg_of_vals {I : Nat → Nat → Option Value} {b o sz : Nat} {c : List (List PV)} {ys : List Value} (hsz : ∀ e ∈ c, e.length = sz) (hI : ∀ (k : Nat) (y : Value), ys[k]? = some y → I b (o + k) = some y) (h : All2 (RP I) c.flatten ys) : Seg I b o sz c :=
  fun i el j p hi hj => by
    obtain ⟨y, h1, h2⟩ := h.get (flat_get sz c hsz i el j p hi hj)
    exact ⟨y, hI _ _ h1, h2⟩

theorem fields_one {ys : List Value} {ps : List PV} {I : Nat → Nat → Option Value} (h : All2 (RP I) ps ys) : ∀ u ∈ ys, u.oneCell' = true := fun u hu => by
  obtain ⟨k, hk⟩ := List.mem_iff_getElem?.1 hu
  obtain ⟨p, _, h2⟩ := h.getR hk
  exact h2.one

/-- the elements that an append brings, as values -/
def Brings (P : Program) (w : World) (size m : Nat) (x : Value) (news : List Value) : Prop :=
  (Builtin.lenOf x).run P w = .ok m w ∧ (Builtin.firstCells size m x).run P w = .ok news.toArray w ∧ (Builtin.lenOf x).run P w.drew = .ok m w.drew ∧ (Builtin.firstCells size m x).run P w.drew = .ok news.toArray w.drew

theorem brings_slice {c : List (List PV)} {sz : Nat} (hw : WI G w) (hpos : 0 < sz) (hsz : ∀ e ∈ c, e.length = sz) (h : RP G.I (.sl c) x) : ∃ news, Brings P w sz c.length x news ∧ All2 (RP G.I) c.flatten news := by
  obtain ⟨ad, cap, rfl, hcap, hne⟩ := h.slice_inv
  by_cases hc : c = []
  · subst hc
    refine ⟨[], ⟨rfl, ?_, rfl, ?_⟩, .nil⟩ <;> cases ad <;> simp [Builtin.firstCells, loadCells, loadCellsFrom]
  · obtain ⟨b, o, sz', rfl, hsz', hseg⟩ := hne hc
    have hs : sz' = sz := by
      cases c with
      | nil => exact absurd rfl hc
      | cons e c => rw [← hsz' e (by simp), hsz e (by simp)]
    subst hs
    obtain ⟨ys, h1, h2, h3⟩ := seg_vals hpos hsz hseg
    have hadd : ∀ j, (⟨b, o, none⟩ : Addr).add j = ⟨b, o + j, none⟩ := fun j => by simp only [Addr.add]; split <;> simp_all
    have hc1 : ∀ j y, ys[j]? = some y → w.cell? ((⟨b, o, none⟩ : Addr).add j) = some y := fun j y hy => by rw [hadd]; exact hw.cell _ _ _ (h2 j y hy)
    refine ⟨ys, ⟨rfl, ?_, rfl, ?_⟩, h3⟩
    · exact run_firstCells_some (P := P) w sz' c.length ⟨b, o, none⟩ c.length cap ys h1 hc1
    · exact run_firstCells_some (P := P) w.drew sz' c.length ⟨b, o, none⟩ c.length cap ys h1 (by simpa using hc1)

theorem brings_string {s : List UInt8} : ∃ news, Brings P w 1 s.length (.string (ByteArray.mk s.toArray)) news ∧ All2 (RP G.I) (s.map fun b => [PV.int .u8 b.toNat]).flatten news := by
  have hsz : (ByteArray.mk s.toArray).size = s.length := by simp [ByteArray.size]
  have he : (ByteArray.mk s.toArray).extract 0 s.length = ByteArray.mk s.toArray := by rw [ByteArray.extract_mk]; simp
  refine ⟨s.map fun b => .int .u8 b.toNat, ⟨by simp [Builtin.lenOf, hsz], ?_, by simp [Builtin.lenOf, hsz], ?_⟩, ?_⟩
  · simp [Builtin.firstCells, he]
  · simp [Builtin.firstCells, he]
  · induction s with
    | nil => exact .nil
    | cons b s ih => exact .cons (.int _ _) (ih (by simp [ByteArray.size]) (by rw [ByteArray.extract_mk]; simp))

/-- what is asked of the two types -/
structure AppT (P : Program) (t u e : TypeId) (i : TypeInfo) (z : Value) : Prop where
  ht : P.underlying t = some (.slice e)
  hu : ∃ d, P.underlying u = some d ∧ ∀ k, d ≠ .int k
  hi : P.info? e = some i
  hz : i.zero = some z
  hzs : z.cells.size = i.size
  hpos : 0 < i.size
  hby : i.bytes ≤ 4096

theorem run_append_in {t u ty e : TypeId} {i : TypeInfo} {z : Value} (A : AppT P t u e i z) {g n m cap : Nat} {cur : Array Value} {e' : TypeId} {news : List Value} (hb : Brings P w i.size m x news)
    (hg : w.heap[g]? = some (.cells cur e' (0, 0))) (hroom : n + m ≤ cap) (hfit : n * i.size + news.length ≤ cur.size) (h1 : ∀ u ∈ news, u.oneCell' = true) :
    (Builtin.append_ #[t, u] ty #[.slice (some ⟨g, 0, none⟩) n cap, x]).run P w = .ok (.slice (some ⟨g, 0, none⟩) (n + m) cap) (w.setRow g (cur.toList.take (n * i.size) ++ news ++ cur.toList.drop (n * i.size + news.length)).toArray) := by
  obtain ⟨d, hd, hdn⟩ := A.hu
  have hst := run_storeCells_at P g (n * i.size) e' news 0 cur w hg (by simpa using hfit) h1
  simp only [Nat.add_zero] at hst
  have hadd : (⟨g, 0, none⟩ : Addr).add (n * i.size) = ⟨g, n * i.size, none⟩ := by simp only [Addr.add]; split <;> simp_all
  have hm : (match d with | .int _ => true | _ => false) = false := by cases d <;> first | rfl | exact absurd rfl (hdn _)
  simp [Builtin.append_, run_underlying A.ht, run_underlying hd, sizeOf, typeInfo, A.hi, hm, hb.1, hb.2.1, hroom, hadd, hst]

theorem run_append_none {t u ty e : TypeId} {i : TypeInfo} {z : Value} (A : AppT P t u e i z) {ad : Option Addr} (hb : Brings P w i.size 0 x []) :
    (Builtin.append_ #[t, u] ty #[.slice ad 0 0, x]).run P w = .ok (.slice ad 0 0) w := by
  obtain ⟨d, hd, hdn⟩ := A.hu
  have hm : (match d with | .int _ => true | _ => false) = false := by cases d <;> first | rfl | exact absurd rfl (hdn _)
  cases ad <;> simp [Builtin.append_, run_underlying A.ht, run_underlying hd, sizeOf, typeInfo, A.hi, hm, hb.1, hb.2.1, storeCells]

theorem run_append_new {t u ty e : TypeId} {i : TypeInfo} {z : Value} (A : AppT P t u e i z) {ad : Option Addr} {n m cap : Nat} {olds news : List Value} (hb : Brings P w i.size m x news)
    (ho : (Builtin.firstCells i.size n (.slice ad n cap)).run P w.drew = .ok olds.toArray w.drew) (hroom : cap < n + m) (hlim : n + m < appLim) :
    (Builtin.append_ #[t, u] ty #[.slice ad n cap, x]).run P w = .ok (.slice (some ⟨w.heap.size, 0, none⟩) (n + m) (grownCap w (n + m) cap e))
      (w.drew.alloc (.cells (olds.toArray ++ news.toArray ++ Builtin.zeroCells z.cells (grownCap w (n + m) cap e - (n + m))) e)) := by
  obtain ⟨d, hd, hdn⟩ := A.hu
  have hm : (match d with | .int _ => true | _ => false) = false := by cases d <;> first | rfl | exact absurd rfl (hdn _)
  have hn : ¬ (n + m ≤ cap) := by omega
  have h63 : ¬ ((9223372036854775807 : Int) < ((n : Int) + (m : Int))) := by simp [appLim] at hlim; omega
  have hfit : ¬ (281474976710656 < Builtin.nextslicecap (n + m) cap * i.bytes) := by
    have hmul : (n + m) * i.bytes ≤ 4294967296 * 4096 := Nat.mul_le_mul (by simp [appLim] at hlim; omega) A.hby
    have := growslice_fits (need := n + m) (old := cap) (bytes := i.bytes) hroom (by omega)
    omega
  have hz : zeroValue e = (do let i ← typeInfo e; match i.zero with | some v => pure v | none => unsupported (.resourceLimit "a value of more than 2^22 cells")) := rfl
  simp [Builtin.append_, run_underlying A.ht, run_underlying hd, sizeOf, typeInfo, A.hi, hm, hb.1, hb.2.2.2, hn, h63, hfit, ho, zeroValue, A.hz, newRow, grownCap, Question.forced, Question.cut]
  rw [show ∀ Z : Array Value, olds.toArray ++ (news.toArray ++ Z) = (olds ++ news).toArray ++ Z from fun Z => by apply Array.ext'; simp]

/-! ### The ghost behind an append -/

theorem setRow_cell_same {g : Nat} {cur new : Array Value} {e : TypeId} {fr : Nat × Nat} (hg : w.heap[g]? = some (.cells cur e fr)) (k : Nat) : (w.setRow g new).cell? ⟨g, k, none⟩ = new[k]? := by
  rw [cell_of_heap (setRow_heap w g cur new e fr hg)]

def Gh.ext (G : Gh) (g o : Nat) (news : List Value) (ℓ : Own) : Gh :=
  { G with I := fun c k => if c = g ∧ o ≤ k ∧ k < o + news.length then news[k - o]? else G.I c k, ow := upd G.ow g (some ℓ) }

theorem extRow_gr (hw : WI G w) {ℓ ℓ' : Own} {g o : Nat} {cur : Array Value} {e : TypeId} {news : List Value} (hg : w.heap[g]? = some (.cells cur e (0, 0))) (hfit : o + news.length ≤ cur.size)
    (ho : G.ow g = some ℓ) (hℓ : ∀ s, ℓ ≠ .box s) (hℓ' : ∀ s, ℓ' ≠ .box s) (hfree : ∀ k, o ≤ k → G.I g k = none) :
    Gr (fun x => x = ℓ) G w (G.ext g o news ℓ') (w.setRow g (cur.toList.take o ++ news ++ cur.toList.drop (o + news.length)).toArray) ∧
      WI (G.ext g o news ℓ') (w.setRow g (cur.toList.take o ++ news ++ cur.toList.drop (o + news.length)).toArray) := by
  have hlt := ow_lt hw ho
  have hI : ∀ b k y, G.I b k = some y → (G.ext g o news ℓ').I b k = some y := fun b k y h => by
    show (if b = g ∧ o ≤ k ∧ k < o + news.length then news[k - o]? else G.I b k) = _
    rw [if_neg (fun ⟨e1, e2, _⟩ => by subst e1; rw [hfree k e2] at h; cases h)]; exact h
  have hIne : ∀ b k, b ≠ g → (G.ext g o news ℓ').I b k = G.I b k := fun b k h => by
    show (if b = g ∧ o ≤ k ∧ k < o + news.length then news[k - o]? else G.I b k) = _
    rw [if_neg (fun e => h e.1)]
  refine ⟨⟨⟨hI, fun c hc hn => ?_, by rw [setRow_size]; exact Nat.le_refl _, rfl, rfl, rfl, fun _ _ => rfl⟩, fun _ _ h => h, fun c m hm hne => ?_⟩, ⟨fun b k y h => ?_, fun b hb => ?_, fun b s hb k => ?_, fun s b hb => ?_, hw.tab.map fun c hc hn => ⟨by show upd G.ow g _ c = none; unfold upd; rw [if_neg (fun e => by rw [e, ho] at hn; cases hn)]; exact hn, setRow_other w g c _ (fun e => by rw [e, ho] at hn; cases hn)⟩⟩⟩
  · have hne : c ≠ g := fun e => by rw [e, ho] at hn; cases hn
    refine ⟨?_, setRow_other w g c _ hne, fun k => hIne c k hne⟩
    show upd G.ow g _ c = none
    unfold upd; rw [if_neg hne]; exact hn
  · have hne' : c ≠ g := fun e => hne (by rw [e, ho] at hm; exact (Option.some.inj hm).symm)
    refine ⟨?_, setRow_other w g c _ hne', fun k => hIne c k hne'⟩
    show upd G.ow g _ c = some m
    unfold upd; rw [if_neg hne']; exact hm
  · by_cases hb : b = g
    · subst hb
      rw [setRow_cell_same hg, setArr_get _ _ _ hfit]
      have h' : (if b = b ∧ o ≤ k ∧ k < o + news.length then news[k - o]? else G.I b k) = some y := h
      by_cases hk : o ≤ k ∧ k < o + news.length
      · rw [if_pos ⟨rfl, hk⟩] at h'
        rw [if_pos hk]; exact h'
      · rw [if_neg (fun e => hk e.2)] at h'
        rw [if_neg hk]
        have := hw.cell b k y h'
        rw [cell_of_heap hg] at this; exact this
    · rw [hIne b k hb] at h
      rw [cell_setRow_other w g _ ⟨b, k, none⟩ hb]; exact hw.cell b k y h
  · rw [setRow_size] at hb
    have hne : b ≠ g := by omega
    refine ⟨fun k => by rw [hIne b k hne]; exact (hw.fresh b hb).1 k, ?_⟩
    show upd G.ow g _ b = none
    unfold upd; rw [if_neg hne]; exact (hw.fresh b hb).2
  · have hb' : upd G.ow g (some ℓ') b = some (.box s) := hb
    unfold upd at hb'
    split at hb'
    · exact absurd (Option.some.inj hb') (hℓ' s)
    · rename_i hne
      rw [hIne b k hne]; exact hw.boxI b s hb' k
  · show upd G.ow g _ b = _
    have h1 := hw.bbow s b hb
    unfold upd; rw [if_neg (fun e => by rw [e, ho] at h1; exact hℓ s (Option.some.inj h1))]; exact h1

theorem drew_gr (hw : WI G w) : Gr (fun _ => False) G w G w.drew ∧ WI G w.drew :=
  ⟨⟨⟨fun _ _ _ h => h, fun c _ h => ⟨h, rfl, fun _ => rfl⟩, Nat.le_refl _, rfl, rfl, rfl, fun _ _ => rfl⟩, fun _ _ h => h, fun _ _ h _ => ⟨h, rfl, fun _ => rfl⟩⟩, ⟨hw.cell, hw.fresh, hw.boxI, hw.bbow, hw.tab.map fun _ _ h => ⟨h, rfl⟩⟩⟩

/-- a new row that holds a slice, of which a place is the owner -/
theorem own_new (hw : WI G w) {c : List (List PV)} {ys : List Value} {rest : Array Value} {e : TypeId} {sz cap : Nat} {ℓ : Own} (hpos : 0 < sz) (hsz : ∀ el ∈ c, el.length = sz) (hys : All2 (RP G.I) c.flatten ys)
    (hcap : c.length ≤ cap) (hrest : rest.size = (cap - c.length) * sz) (hc : c ≠ []) (hℓ : ∀ s, ℓ ≠ .box s) :
    ∃ G', Gr (fun _ => False) G w G' (w.alloc (.cells (ys.toArray ++ rest) e)) ∧ WI G' (w.alloc (.cells (ys.toArray ++ rest) e)) ∧ G'.bb = G.bb ∧
      OwnAt G' (w.alloc (.cells (ys.toArray ++ rest) e)) ℓ e c (.slice (some ⟨w.heap.size, 0, none⟩) c.length cap) := by
  have hl := flat_length sz c hsz
  have hyl : ys.length = c.length * sz := by rw [← hys.length, hl]
  obtain ⟨g, hw'⟩ := newRow_gr hw (cs := ys.toArray ++ rest) (ty := e) (fz := (0, 0)) (f := fun k => ys[k]?) (o := some ℓ) (fun k y h => by
    have hlt := (List.getElem?_eq_some_iff.1 h).1
    rw [Array.getElem?_append_left (by simpa using hlt)]; simpa using h) (fun s h => hℓ s (Option.some.inj h))
  refine ⟨_, g, hw', rfl, .inr ⟨hc, w.heap.size, cap, _, sz, rfl, by simp [Gh.row, upd], heap_alloc_new w _, hcap, ?_, hpos, hsz, ?_, fun o ho => ?_⟩⟩
  · rw [Array.size_append, hrest]
    simp only [List.size_toArray, hyl, ← Nat.add_mul]
    congr 1; omega
  · refine seg_of_vals hsz (ys := ys) (fun k y h => ?_) (hys.imp fun p y _ h => h.mono g.ext.I)
    show (if w.heap.size = w.heap.size then _ else _) = _
    rw [if_pos rfl, Nat.zero_add]; exact h
  · show (if w.heap.size = w.heap.size then _ else _) = _
    rw [if_pos rfl, List.getElem?_eq_none (by omega)]

theorem size_zeroCells' (z : Array Value) (n : Nat) : (Builtin.zeroCells z n).size = n * z.size := by simp [Builtin.zeroCells]

theorem appNew_ok {e u : TypeId} {X : AV} {cb : List (List PV)} {ℓ : Own} {sz : Nat} (h : appNew P e u X = some cb) (hw : WI G w) (hX : RA G w ℓ X x) (hpos : 0 < sz) (hsz : ∀ el ∈ cb, el.length = sz) :
    (∃ d, P.underlying u = some d ∧ ∀ k, d ≠ .int k) ∧ ∃ news, Brings P w sz cb.length x news ∧ All2 (RP G.I) cb.flatten news := by
  unfold appNew at h
  split at h
  · rename_i e' hu
    exact ⟨⟨_, hu, by simp⟩, brings_slice hw hpos hsz (content_RP h hX)⟩
  · rename_i hu
    split at h
    case h_2 => cases h
    rename_i s
    split at h
    case isFalse => cases h
    cases h
    cases hX.strv
    refine ⟨⟨_, hu, by simp⟩, ?_⟩
    rw [List.length_map]
    by_cases hs : s = []
    · subst hs
      refine ⟨[], ⟨rfl, ?_, rfl, ?_⟩, .nil⟩ <;> simp [Builtin.firstCells, ByteArray.extract_mk]
    · have h1 : sz = 1 := by
        cases s with
        | nil => exact absurd rfl hs
        | cons b s => exact (hsz [PV.int .u8 b.toNat] (by simp)).symm
      subst h1
      exact brings_string
  · cases h

theorem append_ok {ts : List TypeId} {ty : TypeId} {sO : Operand} {X : AV} {ℓ : Own} (h : absAppend P ts (opd S.sl sO) X = some v) (hf : FR G w S a) (hw : WI G w) (hX : RA G w ℓ X x)
    (hdg : (∃ u, sO = .tmp u ∧ dg = if isOwn (opd S.sl sO) then some u else none) ∨ (∃ c, sO = .const c ∧ dg = none)) :
    ∃ z w' G', (Builtin.append_ ts.toArray ty #[a.eval sO, x]).run P w = .ok z w' ∧ Step G w S a dst v dg [] z G' w' := by
  unfold absAppend at h
  split at h
  case h_2 => cases h
  rename_i t u
  split at h
  case h_2 => cases h
  rename_i e ht
  split at h
  case h_1 => cases h
  case h_3 => cases h
  rename_i ca cb i hca hcb hi hnp
  split at h
  case isFalse => cases h
  rename_i hcond
  obtain ⟨hlim, hby, hpos, hz, hsa, hsb, hot⟩ := hcond
  cases h
  have hsa' : ∀ el ∈ ca, el.length = i.size := fun el hel => by simpa using List.all_eq_true.1 hsa el hel
  have hsb' : ∀ el ∈ cb, el.length = i.size := fun el hel => by simpa using List.all_eq_true.1 hsb el hel
  cases hzz : i.zero with
  | none => simp [hzz] at hz
  | some z =>
  have hzs : z.cells.size = i.size := by simpa [hzz] using hz
  obtain ⟨hu, news, hnews, hnall⟩ := appNew_ok hcb hw hX hpos hsb'
  have A : AppT P t u e i z := ⟨ht, hu, hi, hzz, hzs, hpos, hby⟩
  have hS := hf.opd sO
  have hit : ∀ t, dg = some t → (S.sl t).isIter = false := fun t e => by
    rcases hdg with ⟨u2, hs2, h4⟩ | ⟨c, hs2, h4⟩
    · rw [h4] at e
      split at e
      case isFalse => cases e
      have e2 := Option.some.inj e
      subst e2
      rw [hs2, show opd S.sl (.tmp u2) = S.sl u2 from rfl] at hca
      cases hv : S.sl u2 with
      | c v => rw [hv] at hca; cases v <;> first | rfl | (exfalso; cases hca; done)
      | agg l => rfl
      | tup l => rfl
    · rw [h4] at e; cases e
  let ℓd : Own := match dst with | some d => .slot d | none => .ret
  have hℓd : ∀ s, ℓd ≠ .box s := fun s => by cases dst <;> simp [ℓd]
  have hval : ∀ {G' : Gh} {w' : World} {y : Value}, OwnAt G' w' ℓd e (ca ++ cb) y → ∀ d, dst = some d → RA G' w' (.slot d) (.c (.own e (ca ++ cb))) y := fun hown d hd => by subst hd; exact hown
  have hlens : ∀ el ∈ ca ++ cb, el.length = i.size := fun el hel => by
    rcases List.mem_append.1 hel with h | h
    · exact hsa' el h
    · exact hsb' el h
  have hnl : news.length = cb.length * i.size := by rw [← hnall.length, flat_length _ _ hsb']
  -- a slice without room
  have fresh : ∀ ad, a.eval sO = .slice ad 0 0 → ca = [] → (ad = none ∨ ∃ uu, dg = some uu ∧ OwnAt G w (.slot uu) e [] (.slice ad 0 0)) → ∃ z w' G', (Builtin.append_ [t, u].toArray ty #[a.eval sO, x]).run P w = .ok z w' ∧ Step G w S a dst (.c (.own e (ca ++ cb))) dg [] z G' w' := by
    intro ad he hca0 hoa
    subst hca0
    rw [he]
    by_cases hb0 : cb = []
    · subst hb0
      have hn0 : news = [] := List.eq_nil_of_length_eq_zero (by rw [hnl]; simp)
      subst hn0
      rcases hoa with hoa | ⟨uu, hdu, hoa⟩
      · exact ⟨_, _, G, run_append_none A hnews, Step.of_gr (ch := fun _ => False) hf hw (.refl _ _) hw (hval (.inl ⟨rfl, ad, rfl, .inl hoa⟩)) (fun _ h => h.elim) (fun s l hl => .inl ⟨hl, fun h => h, fun _ h => h⟩) hf.nob hit⟩
      · obtain ⟨G', g, hw', hown', hbb⟩ := own_give (ℓ' := ℓd) hw hoa (by simp) hℓd
        exact ⟨_, _, G', run_append_none A hnews, Step.of_gr hf hw g hw' (hval hown') (fun t' ht' => .inr (by cases ht'; exact hdu)) (fun s l hl => .inl ⟨hl, by simp, by simp⟩) (fun s hs hlk => by rw [hbb]; exact hf.nob s hs hlk) hit⟩
    · have hcl : 0 < cb.length := List.length_pos_iff.2 hb0
      have hrun := run_append_new (ty := ty) A (ad := ad) (n := 0) (m := cb.length) (cap := 0) (olds := []) hnews (by cases ad <;> simp [Builtin.firstCells, loadCells, loadCellsFrom]) (by omega) (by simpa using hlim)
      obtain ⟨gd, hwd⟩ := drew_gr hw
      obtain ⟨G', g, hw', hbb, hown⟩ := own_new (w := w.drew) (ℓ := ℓd) (c := cb) (ys := news) (rest := Builtin.zeroCells z.cells (grownCap w (0 + cb.length) 0 e - (0 + cb.length))) (e := e) (cap := grownCap w (0 + cb.length) 0 e) hwd hpos hsb' hnall
        (by have := grownCap_ge w (0 + cb.length) 0 e; omega) (by rw [size_zeroCells', hzs]; congr 1; omega) hb0 hℓd
      refine ⟨_, _, G', hrun, Step.of_gr (ch := fun ℓ => False ∨ False) hf hw ?_ ?_ ?_ (fun _ h => by simp at h) (fun s l hl => .inl ⟨hl, by simp, by simp⟩) (fun s hs hlk => by rw [hbb]; exact hf.nob s hs hlk) hit⟩
      · simpa using gd.trans g
      · simpa using hw'
      · intro d hd
        refine hval ?_ d hd
        simpa using hown
  have hcases : (∃ ad, a.eval sO = .slice ad 0 0 ∧ ca = [] ∧ (ad = none ∨ ∃ uu, sO = .tmp uu ∧ isOwn (opd S.sl sO) = true ∧ OwnAt G w (.slot uu) e [] (.slice ad 0 0))) ∨ (∃ uu, sO = .tmp uu ∧ isOwn (opd S.sl sO) = true ∧ ca ≠ [] ∧ OwnAt G w (.slot uu) e ca (a.eval sO)) := by
    unfold content at hca
    split at hca
    · rename_i c' heq; exact (hnp _ heq).elim
    · rename_i e' c' heq
      cases hca
      rw [heq] at hS
      have hS' : OwnAt G w (place sO) e' ca (a.eval sO) := hS
      rcases hS' with ⟨h1, ad, h2, h3⟩ | h1
      · refine .inl ⟨ad, h2, h1, ?_⟩
        cases sO with
        | tmp uu => exact .inr ⟨uu, rfl, by rw [heq]; rfl, .inl ⟨rfl, ad, rfl, h3⟩⟩
        | const c => have := avOf_own c; rw [show opd S.sl (.const c) = avOf c from rfl] at heq; rw [heq] at this; cases this
        | func f => cases heq
        | global g => cases heq
      · cases sO with
        | tmp uu =>
          have hee : e' = e := by
            rw [heq] at hot
            rcases hot with hot | hot | hot
            · cases hot
            · exact Option.some.inj hot
            · exact absurd (by simpa using hot) h1.1
          subst hee
          exact .inr ⟨uu, rfl, by rw [heq]; rfl, h1.1, .inr h1⟩
        | const c => have := avOf_own c; rw [show opd S.sl (.const c) = avOf c from rfl] at heq; rw [heq] at this; cases this
        | func f => cases heq
        | global g => cases heq
    · rename_i heq
      cases hca
      rw [heq] at hS
      have hS' : a.eval sO = .slice none 0 0 := hS
      exact .inl ⟨none, hS', rfl, .inl rfl⟩
    · cases hca
  rcases hcases with ⟨ad, h1, h2, h0⟩ | ⟨uu, rfl, hown, hne, hrow⟩
  · refine fresh ad h1 h2 ?_
    rcases h0 with h0 | ⟨uu, rfl, ho, hoa⟩
    · exact .inl h0
    · refine .inr ⟨uu, ?_, hoa⟩
      rcases hdg with ⟨u2, h3, h4⟩ | ⟨c, h3, _⟩
      · cases h3; rw [h4, if_pos ho]
      · cases h3
  · have hdg' : dg = some uu := by
      rcases hdg with ⟨u2, h3, h4⟩ | ⟨c, h3, _⟩
      · cases h3; rw [h4, if_pos hown]
      · cases h3
    rcases hrow with ⟨h0, _⟩ | ⟨_, b, cap, cur, sz, hx, how, hheap, hcap, hcur, hsz0, hszs, hseg, hfree⟩
    · exact absurd h0 hne
    have hsz : sz = i.size := by
      cases ca with
      | nil => exact absurd rfl hne
      | cons el c => rw [← hszs el (by simp), hsa' el (by simp)]
    subst hsz
    rw [hx]
    have hne2 : ca ++ cb ≠ [] := by simp [hne]
    by_cases hroom : ca.length + cb.length ≤ cap
    · have hfit : ca.length * i.size + news.length ≤ cur.size := by rw [hnl, ← hcur, ← Nat.add_mul]; exact Nat.mul_le_mul_right _ hroom
      have hrun := run_append_in (ty := ty) A (g := b) (n := ca.length) (m := cb.length) (cap := cap) hnews hheap hroom hfit (fields_one hnall)
      obtain ⟨g, hw'⟩ := extRow_gr (ℓ' := ℓd) hw hheap hfit how (by simp) hℓd hfree
      refine ⟨_, _, _, hrun, Step.of_gr hf hw g hw' (hval ?_) (fun t' ht' => .inr (by cases ht'; exact hdg')) (fun s l hl => .inl ⟨hl, by simp, by simp⟩) (fun s hs hlk => hf.nob s hs hlk) hit⟩
      refine .inr ⟨hne2, b, cap, _, i.size, by rw [List.length_append], by simp [Gh.ext, upd], setRow_heap w b cur _ e _ hheap, by rw [List.length_append]; exact hroom, by rw [setArr_size _ _ _ hfit]; exact hcur, hpos, hlens, ?_, fun o ho => ?_⟩
      · obtain ⟨ys, hy1, hy2, hy3⟩ := seg_vals hpos hsa' hseg
        refine seg_of_vals hlens (ys := ys ++ news) (fun k y hk => ?_) ?_
        · show (if b = b ∧ ca.length * i.size ≤ 0 + k ∧ 0 + k < ca.length * i.size + news.length then news[0 + k - ca.length * i.size]? else G.I b (0 + k)) = _
          by_cases hlt : k < ys.length
          · rw [List.getElem?_append_left hlt] at hk
            rw [if_neg (by omega)]; exact hy2 k y hk
          · rw [List.getElem?_append_right (by omega)] at hk
            have hkl := (List.getElem?_eq_some_iff.1 hk).1
            rw [if_pos ⟨rfl, by omega, by omega⟩, ← hk]
            congr 1; omega
        · rw [List.flatten_append]
          exact (hy3.append hnall).imp fun p y _ h => h.mono g.ext.I
      · show (if b = b ∧ ca.length * i.size ≤ o ∧ o < ca.length * i.size + news.length then news[o - ca.length * i.size]? else G.I b o) = none
        rw [List.length_append, Nat.add_mul] at ho
        rw [if_neg (by omega)]; exact hfree o (by omega)
    · obtain ⟨ys, hy1, hy2, hy3⟩ := seg_vals hpos hsa' hseg
      have hold : (Builtin.firstCells i.size ca.length (.slice (some ⟨b, 0, none⟩) ca.length cap)).run P w.drew = .ok ys.toArray w.drew := by
        refine run_firstCells_some (P := P) w.drew i.size ca.length ⟨b, 0, none⟩ ca.length cap ys hy1 fun j y hj => ?_
        have hadd : (⟨b, 0, none⟩ : Addr).add j = ⟨b, 0 + j, none⟩ := by simp only [Addr.add]; split <;> simp_all
        rw [hadd]
        exact (drew_gr hw).2.cell _ _ _ (hy2 j y hj)
      have hrun := run_append_new (ty := ty) A (n := ca.length) (m := cb.length) (cap := cap) hnews hold (by omega) hlim
      obtain ⟨gd, hwd⟩ := drew_gr hw
      obtain ⟨G', g, hw', hbb, hown'⟩ := own_new (w := w.drew) (ℓ := ℓd) (c := ca ++ cb) (ys := ys ++ news) (rest := Builtin.zeroCells z.cells (grownCap w (ca.length + cb.length) cap e - (ca.length + cb.length))) (e := e) (cap := grownCap w (ca.length + cb.length) cap e) hwd hpos hlens
        (by rw [List.flatten_append]; exact hy3.append hnall) (by have := grownCap_ge w (ca.length + cb.length) cap e; rw [List.length_append]; omega) (by rw [size_zeroCells', hzs, List.length_append]) hne2 hℓd
      rw [show ys.toArray ++ news.toArray = (ys ++ news).toArray from by simp] at hrun
      refine ⟨_, _, G', hrun, Step.of_gr (ch := fun ℓ => False ∨ False) hf hw (gd.trans g) hw' (hval ?_) (fun _ h => by simp at h) (fun s l hl => .inl ⟨hl, by simp, by simp⟩) (fun s hs hlk => by rw [hbb]; exact hf.nob s hs hlk) hit⟩
      simpa using hown'
end
end Go.Abs

namespace Go.Abs
open Go

section
variable {P : Program} {G G' : Gh} {w w' : World} {S : St} {a : Act} {dst dg : Option Nat} {v : AV} {x : Value}

theorem bytesOf_ok : ∀ {c : List (List PV)} {s : List UInt8} {ys : List Value}, bytesOf c = some s → All2 (RP G.I) c.flatten ys → ∃ ns : List Int, ys = ns.map (Value.int .u8) ∧ s = ns.map fun n => UInt8.ofNat n.toNat
  | [], s, ys, h, hy => by
    simp [bytesOf] at h; subst h
    simp at hy; cases hy
    exact ⟨[], rfl, rfl⟩
  | e :: c, s, ys, h, hy => by
    unfold bytesOf at h
    split at h
    · rename_i heq; cases heq
    · rename_i n c' heq
      cases heq
      simp only [Option.map_eq_some_iff] at h
      obtain ⟨s', hs, rfl⟩ := h
      simp only [List.flatten_cons, List.singleton_append] at hy
      cases hy with
      | cons h1 h2 =>
      cases h1
      obtain ⟨ns, rfl, rfl⟩ := bytesOf_ok hs h2
      exact ⟨n :: ns, rfl, rfl⟩
    · cases h

theorem bytesOf_all : ∀ {c : List (List PV)} {s : List UInt8}, bytesOf c = some s → ∀ e ∈ c, e.length = 1
  | [], s, h, e, he => by simp at he
  | x :: c, s, h, e, he => by
    unfold bytesOf at h
    split at h
    · rename_i heq; cases heq
    · rename_i n c' heq
      cases heq
      simp only [Option.map_eq_some_iff] at h
      obtain ⟨s', hs, rfl⟩ := h
      rcases List.mem_cons.1 he with rfl | he
      · rfl
      · exact bytesOf_all hs e he
    · cases h

theorem fold_push : ∀ (ns : List Int) (s : List UInt8), ns.foldl (fun r n => r.push (UInt8.ofNat n.toNat)) (ByteArray.mk s.toArray) = ByteArray.mk (s ++ ns.map fun n => UInt8.ofNat n.toNat).toArray
  | [], s => by simp
  | n :: ns, s => by
    simp only [List.foldl_cons, List.map_cons]
    have : (ByteArray.mk s.toArray).push (UInt8.ofNat n.toNat) = ByteArray.mk (s ++ [UInt8.ofNat n.toNat]).toArray := by
      apply ByteArray.ext; simp [ByteArray.push]
    rw [this, fold_push ns]
    simp

theorem conv_ok {src dst' : TypeId} {X : AV} {ℓ : Own} (h : absConv P src dst' X = some v) (hf : FR G w S a) (hw : WI G w) (hX : RA G w ℓ X x) :
    ∃ z w' G', (Go.convert src dst' x).run P w = .ok z w' ∧ Step G w S a dst v none [] z G' w' := by
  unfold absConv at h
  split at h
  · rename_i k' k hs hd
    split at h
    case h_2 => cases h
    cases h
    exact ⟨_, _, G, conv_int ⟨_, hs⟩ hd hX.intv, Step.pure hf hw fun d _ => RA.of_RN (v := .pv (.int _ _)) (RP.int _ _)⟩
  · rename_i k hs hd
    split at h
    case h_2 => cases h
    cases h
    rw [hX.intv]
    refine ⟨_, _, G, run_convert_int_string _ _ _ _ _ (by rw [hs]; rfl) hd, Step.pure hf hw fun d _ => RA.of_RN (v := .pv (.str _)) ?_⟩
    exact RP.str _
  · rename_i hs hd
    split at h
    case h_2 => cases h
    cases h
    cases hX.strv
    exact ⟨_, _, G, conv_str ⟨_, hs⟩ hd, Step.pure hf hw fun d _ => RA.of_RN (v := .pv (.str _)) (RP.str _)⟩
  · rename_i e hs hd
    split at h
    case h_2 => cases h
    rename_i s
    split at h
    case isFalse => cases h
    rename_i hc
    simp only [Bool.and_eq_true] at hc
    cases h
    cases hX.strv
    have he : P.underlying e = some (.int .u8) := by
      have := hc.1
      unfold isU8 at this
      split at this
      · rename_i h; exact h
      · cases this
    have hsz : (ByteArray.mk s.toArray).size = s.length := by simp [ByteArray.size]
    have hrun := run_bytes_of_string w src dst' e (ByteArray.mk s.toArray) hs hd he
    rw [hsz] at hrun
    generalize hcap : grownCap w s.length 0 e = cap at hrun
    have hge : s.length ≤ cap := by rw [← hcap]; exact grownCap_ge w s.length 0 e
    obtain ⟨gd, hwd⟩ := drew_gr hw
    have hrow : ∀ (k : Nat) (y : Value), (s.map fun b => Value.int .u8 b.toNat)[k]? = some y → (bytesRow (ByteArray.mk s.toArray) cap)[k]? = some y := fun k y hk => by
      have hlt := (List.getElem?_eq_some_iff.1 hk).1
      unfold bytesRow
      rw [Array.getElem?_append_left (by simpa using hlt)]
      simpa using hk
    obtain ⟨g, hw'⟩ := newRow_gr hwd (cs := bytesRow (ByteArray.mk s.toArray) cap) (ty := e) (fz := ((bytesRow (ByteArray.mk s.toArray) cap).size, (bytesRow (ByteArray.mk s.toArray) cap).size + 1))
      (f := fun k => (s.map fun b => Value.int .u8 b.toNat)[k]?) (o := none) hrow (fun s h => by cases h)
    refine ⟨_, _, _, hrun, Step.of_gr hf hw (gd.trans g) hw' (fun d _ => RA.of_RN (v := .pv (.sl _)) ?_) (fun _ h => by simp at h) (fun s l hl => .inl ⟨hl, by simp, by simp⟩) (fun s hs hlk => hf.nob s hs hlk)⟩
    have hl : (s.map fun b => [PV.int .u8 b.toNat]).length = s.length := by simp
    show RP _ _ _
    rw [← hl]
    refine .of_seg (sz := 1) (by rw [hl]; exact hge) (fun el hel => by
      obtain ⟨b, _, rfl⟩ := List.mem_map.1 hel
      rfl) fun i el j p hi hj => ?_
    rw [List.getElem?_map] at hi
    cases hb : s[i]? with
    | none => simp [hb] at hi
    | some b =>
      simp [hb] at hi
      subst hi
      cases j with
      | succ j => simp at hj
      | zero =>
        simp at hj
        subst hj
        refine ⟨.int .u8 b.toNat, ?_, .int _ _⟩
        show (if w.drew.heap.size = w.drew.heap.size then _ else _) = _
        rw [if_pos rfl]
        simp [hb]
  · rename_i e hs hd
    split at h
    case isFalse => cases h
    rename_i hc
    have he : P.underlying e = some (.int .u8) := by
      unfold isU8 at hc
      split at hc
      · rename_i h; exact h
      · cases hc
    split at h
    case h_2 => cases h
    rename_i c hcon
    split at h
    case h_2 => cases h
    rename_i s hby
    cases h
    have hall := bytesOf_all hby
    obtain ⟨ad, cap, rfl, hcap, hne⟩ := (content_RP hcon hX).slice_inv
    by_cases hc0 : c = []
    · subst hc0
      simp [bytesOf] at hby
      subst hby
      refine ⟨.string (ByteArray.mk [].toArray), w, G, ?_, Step.pure hf hw fun d _ => RA.of_RN (v := .pv (.str _)) (RP.str _)⟩
      rw [run_convert_bytes_string w src dst' e ad _ _ hs he hd]
      cases ad with
      | none => rfl
      | some ad =>
        exact run_bytesToString (P := P) w ad 0 cap [] (by simp [loadCells, loadCellsFrom])
    · obtain ⟨b, o, sz, rfl, hsz, hseg⟩ := hne hc0
      have hs1 : sz = 1 := by
        cases c with
        | nil => exact absurd rfl hc0
        | cons el c => rw [← hsz el (by simp), hall el (by simp)]
      subst hs1
      obtain ⟨ys, h1, h2, h3⟩ := seg_vals (by omega) hsz hseg
      obtain ⟨ns, rfl, rfl⟩ := bytesOf_ok hby h3
      refine ⟨_, w, G, ?_, Step.pure hf hw fun d _ => RA.of_RN (v := .pv (.str _)) (RP.str _)⟩
      rw [run_convert_bytes_string w src dst' e _ _ _ hs he hd]
      have hload : (loadCells ⟨b, o, none⟩ c.length).run P w = .ok (ns.map (Value.int .u8)).toArray w := by
        have := run_loadCells_list (P := P) w ⟨b, o, none⟩ (ns.map (Value.int .u8)) (fun j y hy => by
          have hadd : (⟨b, o, none⟩ : Addr).add j = ⟨b, o + j, none⟩ := by simp only [Addr.add]; split <;> simp_all
          rw [hadd]; exact hw.cell _ _ _ (h2 j y hy))
        rw [← this]; congr 2; omega
      rw [run_bytesToString w _ _ _ ns hload]
      have := fold_push ns []
      simp only [List.nil_append] at this
      rw [← this]; rfl
  · cases h
/-! ### Iterators over strings -/

theorem newIter_gr (hw : WI G w) (s : ByteArray) (pos : Nat) {o : Option Own} (ho : ∀ s, o ≠ some (.box s)) :
    Gr (fun _ => False) G w { G with ow := upd G.ow w.heap.size o } (w.alloc (.stringIter s pos)) ∧ WI { G with ow := upd G.ow w.heap.size o } (w.alloc (.stringIter s pos)) := by
  refine ⟨⟨⟨fun _ _ _ h => h, fun c hc hn => ⟨?_, heap_old w _ c hc, fun k => rfl⟩, by rw [alloc_size]; omega, rfl, rfl, rfl, fun k hk => rfl⟩, fun s b hb => hb, fun b ℓ hb _ => ⟨?_, heap_old w _ b (ow_lt hw hb), fun k => rfl⟩⟩, ⟨fun b k y h => ?_, fun b hb => ?_, fun b s hb k => ?_, fun s b hb => ?_, hw.tab.map fun c hc hn => ⟨by show upd G.ow w.heap.size _ c = none; unfold upd; rw [if_neg (by omega)]; exact hn, heap_old w _ c hc⟩⟩⟩
  · show upd G.ow w.heap.size _ c = none
    unfold upd; rw [if_neg (by omega)]; exact hn
  · have := ow_lt hw hb
    show upd G.ow w.heap.size _ b = _
    unfold upd; rw [if_neg (by omega)]; exact hb
  · rw [cell_alloc_old w _ (I_lt hw h)]; exact hw.cell b k y h
  · rw [alloc_size] at hb
    refine ⟨fun k => (hw.fresh b (by omega)).1 k, ?_⟩
    show upd G.ow w.heap.size _ b = none
    unfold upd; rw [if_neg (by omega)]; exact (hw.fresh b (by omega)).2
  · have hb' : upd G.ow w.heap.size o b = some (.box s) := hb
    unfold upd at hb'
    split at hb'
    · exact absurd hb' (ho s)
    · exact hw.boxI b s hb' k
  · have h1 := hw.bbow s b hb
    have h2 := ow_lt hw h1
    show upd G.ow w.heap.size _ b = _
    unfold upd; rw [if_neg (by omega)]; exact h1

theorem range_ok {t : TypeId} {X : AV} {ℓ : Own} (h : absRange P t X = some v) (hf : FR G w S a) (hw : WI G w) (hX : RA G w ℓ X x) :
    ∃ z w' G', (Instr.range t x).run P w = .ok z w' ∧ Step G w S a dst v none [] z G' w' := by
  unfold absRange at h
  split at h
  case h_2 => cases h
  rename_i s
  split at h
  case h_2 => cases h
  rename_i ht
  cases h
  cases hX.strv
  let ℓd : Own := match dst with | some d => .slot d | none => .ret
  have hℓd : ∀ s, some ℓd ≠ some (.box s) := fun s => by cases dst <;> simp [ℓd]
  obtain ⟨g, hw'⟩ := newIter_gr hw (ByteArray.mk s.toArray) 0 hℓd
  refine ⟨_, _, _, run_range_string w t _ ht, Step.of_gr hf hw g hw' (fun d hd => ?_) (fun _ h => h.elim) (fun s l hl => .inl ⟨hl, fun h => h, fun _ h => h⟩) (fun s hs hlk => hf.nob s hs hlk)⟩
  subst hd
  exact ⟨w.heap.size, rfl, by simp [upd, ℓd], heap_alloc_new w _⟩

theorem heap_setI (w : World) (b c : Nat) (o : Obj) (h : c ≠ b) : (w.heap.setIfInBounds b o)[c]? = w.heap[c]? := by
  rw [Array.getElem?_setIfInBounds_ne (Ne.symm h)]

theorem iter_set_gr {b u : Nat} {s s' : ByteArray} {pos pos' : Nat} (hw : WI G w) (hb : w.heap[b]? = some (.stringIter s pos)) (ho : G.ow b = some (.slot u)) :
    Gr (fun ℓ => ℓ = .slot u) G w G { w with heap := w.heap.setIfInBounds b (.stringIter s' pos') } ∧ WI G { w with heap := w.heap.setIfInBounds b (.stringIter s' pos') } := by
  refine ⟨⟨⟨fun _ _ _ h => h, fun c hc hn => ⟨hn, heap_setI w b c _ (fun e => by rw [e, ho] at hn; cases hn), fun k => rfl⟩, by simp, rfl, rfl, rfl, fun k hk => rfl⟩, fun s b hb => hb, fun c ℓ hc hne => ⟨hc, heap_setI w b c _ (fun e => by rw [e, ho] at hc; exact hne (Option.some.inj hc).symm), fun k => rfl⟩⟩, ⟨fun c k y h => ?_, fun c hc => hw.fresh c (by simpa using hc), hw.boxI, hw.bbow, hw.tab.map fun c hc hn => ⟨hn, heap_setI w b c _ (fun e => by rw [e, ho] at hn; cases hn)⟩⟩⟩
  have h0 := hw.cell c k y h
  have hne : c ≠ b := fun e => by
    subst e
    simp [World.cell?, hb] at h0
  rw [← h0]
  simp only [World.cell?]
  rw [heap_setI w b c _ hne]

theorem RT_pv {p : PV} {x : Value} (h : RP G.I p x) : RT G (.c (.pv p)) x := h

theorem next_ok {str : Bool} {X : Operand} {ty : TypeId} {d : Delta} (h : absNext dst str X (opd S.sl X) = some d) (hf : FR G w S a) (hw : WI G w) :
    ∃ v dg z w', d = .val v dg [] ∧ (Instr.next (a.eval X) str ty).run P w = .ok z w' ∧ Step G w S a dst v dg [] z G w' := by
  unfold absNext at h
  split at h
  case h_2 => cases h
  rename_i u s pos hv
  split at h
  case isFalse => cases h
  rename_i hc
  simp only [Bool.and_eq_true, bne_iff_ne, ne_eq] at hc
  obtain ⟨rfl, hdu⟩ := hc
  have hX := hf.opd (.tmp u)
  rw [hv] at hX
  obtain ⟨b, he, ho, hh⟩ : IterAt G w (.slot u) s pos (a.eval (.tmp u)) := hX
  have hsz : (ByteArray.mk s.toArray).size = s.length := by simp [ByteArray.size]
  split at h
  · rename_i hlt
    cases h
    obtain ⟨g, hw'⟩ := iter_set_gr (s' := ByteArray.mk s.toArray) (pos' := iterNext s pos) hw hh ho
    have hrun : (Instr.next (a.eval (.tmp u)) true ty).run P w = .ok (.tuple #[.bool true, .int .i64 pos, .int .i32 (Utf8.decode (ByteArray.mk s.toArray) pos).1]) { w with heap := w.heap.setIfInBounds b (.stringIter (ByteArray.mk s.toArray) (iterNext s pos)) } := by
      rw [he]
      have hbl : b < w.heap.size := (Array.getElem?_eq_some_iff.1 hh).1
      simp [Instr.next, getObj, setObj, Sem.run, hh, hsz, hlt, goInt, iterNext]
    refine ⟨_, _, _, _, rfl, hrun, ⟨g.ext, hw', fun d' hd => ?_, fun t ht => ?_, fun s l hl => (hf.box s l hl).gr hw g (by simp) (by simp), fun s hs hlk => hf.nob s hs hlk⟩⟩
    · exact ⟨_, rfl, .cons (RT_pv (.bool _)) (.cons (RT_pv (.int _ _)) (.cons (RT_pv (.int _ _)) .nil))⟩
    · by_cases htu : u = t
      · subst htu
        rw [if_pos rfl, show S.sl u = .c (.iter s pos) from hv]
        have hbl : b < w.heap.size := (Array.getElem?_eq_some_iff.1 hh).1
        exact ⟨b, he, ho, by simp [hbl]⟩
      · rw [if_neg (by simpa using htu)]
        exact (hf.slot t).gr g (by simpa using Ne.symm htu)
  · rename_i hlt
    cases h
    have hrun : (Instr.next (a.eval (.tmp u)) true ty).run P w = .ok (.tuple #[.bool false]) w := by
      rw [he]
      simp [Instr.next, getObj, Sem.run, hh, hsz, hlt]
    exact ⟨_, _, _, _, rfl, hrun, Step.pure hf hw fun d _ => ⟨_, rfl, .cons (RT_pv (.bool _)) .nil⟩⟩

/-! ### Looks into maps -/

theorem checkKey_int {key : TypeId} {k : IntKind} (hk : P.underlying key = some (.int k)) (e : Bool) (n : Nat) (v : Value) : (Instr.checkKey e (n + 1) key v).run P w = .ok () w := by
  unfold Instr.checkKey
  simp only [Sem.run_bind, run_underlying hk, Result.andThen_ok]
  rfl

theorem findNow_int {k : IntKind} {n : Int} : ∀ {es : List MapEntry} (i : Nat), es.all (fun e => match e.key with | .int k' _ => k' == k | _ => false) = true →
    (es.find? (keyIs k n) = none ∧ Instr.findNow (.int k) (.int k n) es i = some none) ∨ ∃ e j, es.find? (keyIs k n) = some e ∧ Instr.findNow (.int k) (.int k n) es i = some (some (j, e.val))
  | [], i, _ => .inl ⟨rfl, rfl⟩
  | e :: es, i, h => by
    rw [List.all_cons, Bool.and_eq_true] at h
    obtain ⟨h1, h2⟩ := h
    cases hke : e.key with
    | int k' m =>
      rw [hke] at h1
      have hkk : k' = k := by simpa using h1
      subst hkk
      by_cases hnm : n = m
      · right
        refine ⟨e, i, ?_, ?_⟩
        · rw [List.find?_cons]; simp [keyIs, hke, hnm]
        · rw [Instr.findNow, hke]; simp [Instr.sameNow, hnm]
      · have hf : keyIs k' n e = false := by simp [keyIs, hke, hnm]
        have hs : Instr.findNow (.int k') (.int k' n) (e :: es) i = Instr.findNow (.int k') (.int k' n) es (i + 1) := by
          have hb : (n == m) = false := by simpa using hnm
          rw [Instr.findNow, hke]; simp only [Instr.sameNow, if_true, hb]
        rw [List.find?_cons, hf, hs]
        exact findNow_int (i + 1) h2
    | _ => rw [hke] at h1; cases h1

theorem tvOf_RT {G : Gh} {w : World} {v : Value} {z : TV} (h : tvOf v = some z) : RT G z v := by
  have h3 := avOf_RA G w .ret v
  have h4 := avOf_own v
  unfold tvOf at h
  split at h
  · cases h
  · rename_i u hne hv
    cases h
    rw [hv] at h3 h4
    exact (h3.toRC (fun e => hne e)).to_RN (by cases u <;> first | rfl | cases h4)
  · rename_i l hv
    cases h
    rw [hv] at h3
    exact h3
  · cases h

theorem lookup_ok {t : TypeId} {X I' v : AV} {ℓ ℓ2 ℓ' : Own} {x i : Value} {comma : Bool} (h : absLookup P t X I' comma = some v) (hx : RA G w ℓ X x) (hi : RA G w ℓ2 I' i) :
    ∃ z, (Instr.lookup t x i comma).run P w = .ok z w ∧ isOwn v = false ∧ RA G w ℓ' v z := by
  unfold absLookup at h
  split at h
  case h_2 => cases h
  rename_i key elem es k n ht
  split at h
  case isFalse => cases h
  rename_i hc
  simp only [Bool.and_eq_true] at hc
  obtain ⟨⟨hk0, hcomma⟩, hall⟩ := hc
  have hk : P.underlying key = some (.int k) := by
    unfold isIntK at hk0
    split at hk0
    · rename_i k' hk'
      have : k' = k := by simpa using hk0
      rw [hk', this]
    · cases hk0
  subst hcomma
  cases hi.intv
  obtain ⟨b, clock, rfl, _, hh⟩ : MapAt G w ℓ es x := hx
  have hrun : ∀ (r : Option (Nat × Value)) , Instr.findNow (.int k) (.int k n) es 0 = some r → (Instr.lookup t (.map (some b)) (.int k n) true).run P w = (do
      let (v, ok) ← match r with
        | some (_, v) => (pure (v, true) : Sem (Value × Bool))
        | none => do pure (← zeroValue elem, false)
      pure (.tuple #[v, .bool ok]) : Sem Value).run P w := fun r hr => by
    unfold Instr.lookup
    have hget : (getObj b).run P w = .ok (.map es.toArray clock) w := by simp [getObj, Sem.run, hh]
    have hfind : (Instr.findKey key (.int k n) es).run P w = .ok r w := by
      unfold Instr.findKey
      simp only [Sem.run_bind, run_underlying hk, Result.andThen_ok, hr]
      rfl
    have hck := checkKey_int (w := w) hk es.toArray.isEmpty 9999 (.int k n)
    simp only [Sem.run_bind, run_underlying ht, Result.andThen_ok, hget, Sem.run_pure, hck, List.toList_toArray, hfind]
    cases r with
    | none => simp
    | some p => simp
  rcases findNow_int (n := n) 0 hall with ⟨h1, h2⟩ | ⟨e, j, h1, h2⟩
  · rw [h1] at h
    simp only at h
    split at h
    case h_2 => cases h
    rename_i z hz
    cases h
    obtain ⟨y, hy1, hy2⟩ := avOf_RT (G := G) (w := w) hz
    refine ⟨.tuple #[y, .bool false], ?_, rfl, [y, .bool false], rfl, .cons hy2 (.cons (RT_pv (.bool false)) .nil)⟩
    rw [hrun none h2]
    simp [hy1]
  · rw [h1] at h
    simp only at h
    split at h
    case h_2 => cases h
    rename_i z hz
    cases h
    refine ⟨.tuple #[e.val, .bool true], ?_, rfl, [e.val, .bool true], rfl, .cons (tvOf_RT (w := w) hz) (.cons (RT_pv (.bool true)) .nil)⟩
    rw [hrun (some (j, e.val)) h2]
    simp
end
end Go.Abs

namespace Go.Abs
open Go

/-- how a call ends -/
def REnd (n : Nat) (G' : Gh) (w' : World) (e : Ending) : Res → Prop
  | .ret v cs => ∃ x, e = .returned x ∧ RA G' w' .ret v x ∧ cs.length = n ∧ ∀ (i : Nat) (l : List CV), cs[i]? = some l → BoxR G' w' (LK + i) l
  | .pan v cs => ∃ x, e = .panicked [{ v := x, recovered := false }] ∧ RN G' v x ∧ cs.length = n ∧ ∀ (i : Nat) (l : List CV), cs[i]? = some l → BoxR G' w' (LK + i) l

/-- WHAT AN ANSWER OF THE INTERPRETER'S SAYS OF THE MODEL. -/
def Contract (P : Program) (f : FuncId) (args : List AV) (bxs : List (List CV)) (r : Res) : Prop :=
  ∀ (G : Gh) (w : World) (cargs : List Value), WI G w → All2 (fun v x => RA G w .ret v x) args cargs → (∀ v ∈ args, isOwn v = false) →
    (∀ (i : Nat) (l : List CV), bxs[i]? = some l → BoxR G w (LK + i) l) → (∀ s b, G.bb s = some b → ∃ i, i < bxs.length ∧ s = LK + i) →
    Calls P f cargs.toArray w fun e w' => ∃ G', Ext G w G' w' ∧ WI G' w' ∧ REnd bxs.length G' w' e r

section
variable {P : Program} {G G' : Gh} {w w' : World} {S : St} {a : Act} {dst dg : Option Nat} {v : AV} {x : Value} {L : List Nat}

theorem ren_bld {g : Nat → Option Nat} {v : CV} (h : v.ren g = .bld) : v = .bld := by
  cases v <;> simp only [CV.ren] at h <;> (try split at h) <;> first | rfl | cases h

theorem idx_some : ∀ {L : List Nat} {s i : Nat}, idx s L = some i → L[i]? = some s
  | [], s, i, h => by simp [idx] at h
  | b :: L, s, i, h => by
    unfold idx at h
    split at h
    · rename_i e; simp at h; subst h; simp [e]
    · simp only [Option.map_eq_some_iff] at h
      obtain ⟨j, hj, rfl⟩ := h
      simpa using idx_some hj

theorem idx_of_nodup : ∀ {L : List Nat} {s i : Nat}, L.Nodup → L[i]? = some s → idx s L = some i
  | [], s, i, _, h => by simp at h
  | b :: L, s, 0, _, h => by simp at h; subst h; simp [idx]
  | b :: L, s, i + 1, hn, h => by
    simp only [List.getElem?_cons_succ] at h
    have hmem : s ∈ L := List.mem_of_getElem? h
    have hne : b ≠ s := fun e => by subst e; exact (List.nodup_cons.1 hn).1 hmem
    simp [idx, hne, idx_of_nodup (List.nodup_cons.1 hn).2 h]

theorem idx_mem : ∀ {L : List Nat} {s : Nat}, s ∈ L → ∃ i, idx s L = some i
  | b :: L, s, h => by
    unfold idx
    by_cases e : b = s
    · exact ⟨0, by simp [e]⟩
    · rcases List.mem_cons.1 h with h1 | h1
      · exact absurd h1.symm e
      · obtain ⟨i, hi⟩ := idx_mem h1
        exact ⟨i + 1, by simp [e, hi]⟩

theorem dedup_nodup : ∀ l : List Nat, (dedup l).Nodup
  | [] => by simp [dedup]
  | a :: l => by
    unfold dedup
    split
    · exact dedup_nodup l
    · rename_i h
      exact List.nodup_cons.2 ⟨by simpa using h, dedup_nodup l⟩

theorem lend_back {s k : Nat} (h : lend L s = some k) : back L k = some s ∧ LK ≤ k := by
  unfold lend at h
  simp only [Option.map_eq_some_iff] at h
  obtain ⟨i, hi, rfl⟩ := h
  unfold back
  rw [if_pos (by omega), Nat.add_sub_cancel_left]
  exact ⟨idx_some hi, by omega⟩

theorem back_lend (hn : L.Nodup) {s k : Nat} (h : back L k = some s) : lend L s = some k := by
  unfold back at h
  split at h
  case isFalse => cases h
  rename_i hk
  unfold lend
  rw [idx_of_nodup hn h]
  simp; omega

theorem back_ge {s k : Nat} (h : back L k = some s) : LK ≤ k ∧ L[k - LK]? = some s := by
  unfold back at h
  split at h
  · rename_i hk; exact ⟨hk, h⟩
  · cases h

/-! ### The ghost that goes with a call -/

def lendOw (L : List Nat) : Option Own → Option Own
  | some (.box s) => (lend L s).map Own.box
  | some (.cell s k) => (lend L s).map fun t => Own.cell t k
  | _ => none

def lendG (G : Gh) (L : List Nat) : Gh := { I := G.I, bb := fun k => (back L k).bind G.bb, ow := fun b => lendOw L (G.ow b) }

theorem lend_WI (hn : L.Nodup) (hw : WI G w) : WI (lendG G L) w := by
  refine ⟨hw.cell, fun b hb => ⟨(hw.fresh b hb).1, ?_⟩, fun b s hb o => ?_, fun k b hb => ?_, hw.tab.map fun c _ h => ⟨by show lendOw L (G.ow c) = none; rw [h]; rfl, rfl⟩⟩
  · show lendOw L (G.ow b) = none
    rw [(hw.fresh b hb).2]; rfl
  · have hb' : lendOw L (G.ow b) = some (.box s) := hb
    cases ho : G.ow b with
    | none => rw [ho] at hb'; cases hb'
    | some ℓ =>
      rw [ho] at hb'
      cases ℓ <;> simp [lendOw] at hb'
      exact hw.boxI b _ ho o
  · have hb' : (back L k).bind G.bb = some b := hb
    cases hk : back L k with
    | none => rw [hk] at hb'; cases hb'
    | some s =>
      rw [hk] at hb'
      show lendOw L (G.ow b) = _
      rw [hw.bbow s b hb']
      simp [lendOw, back_lend hn hk]

theorem caps_ren {g : Nat → Option Nat} {bb bb' : Nat → Option Nat} (h : ∀ s k b, g s = some k → bb s = some b → bb' k = some b) : ∀ {caps caps' : List (Nat × Nat)} {vs : List Value}, capsTo g caps = some caps' →
    All2 (fun (c : Nat × Nat) v => ∃ b, bb c.1 = some b ∧ v = .pointer (some ⟨b, c.2, none⟩)) caps vs → All2 (fun (c : Nat × Nat) v => ∃ b, bb' c.1 = some b ∧ v = .pointer (some ⟨b, c.2, none⟩)) caps' vs
  | [], caps', _, hc, .nil => by simp [capsTo] at hc; subst hc; exact .nil
  | (s, o) :: caps, caps', v :: vs, hc, .cons h1 h2 => by
    unfold capsTo at hc
    split at hc
    case h_2 => cases hc
    rename_i k m hk hm
    cases hc
    obtain ⟨b, h3, h4⟩ := h1
    exact .cons ⟨b, h s k b hk h3, h4⟩ (caps_ren h hm h2)

/-- under other names -/
theorem RN.ren {G1 : Gh} {g : Nat → Option Nat} (hI : ∀ b o y, G.I b o = some y → G1.I b o = some y) (h : ∀ s k b, g s = some k → G.bb s = some b → G1.bb k = some b) {u : CV} (hu : RN G u x) : RN G1 (u.ren g) x := by
  have hone := hu.one
  cases u with
  | loc s off =>
    obtain ⟨b, h1, h2⟩ := hu
    simp only [CV.ren]
    split
    · rename_i k hk; exact ⟨b, h s k b hk h1, h2⟩
    · exact hone
  | fn f caps =>
    obtain ⟨vs, h1, h2⟩ := hu
    simp only [CV.ren]
    split
    · rename_i m hm; exact ⟨vs, h1, caps_ren h hm h2⟩
    · exact hone
  | cptr l =>
    obtain ⟨b, o, h1, h2⟩ := hu
    exact ⟨b, o, h1, fun j p hp => let ⟨y, h3, h4⟩ := h2 j p hp; ⟨y, hI _ _ _ h3, h4.mono hI⟩⟩
  | pv p => exact RP.mono hI hu
  | top => exact hu
  | nils => exact hu
  | nilp => exact hu
  | own e c => exact False.elim hu
  | iter s pos => exact False.elim hu
  | cmap es => exact False.elim hu
  | bld => exact hu

theorem RT.ren {G1 : Gh} {g : Nat → Option Nat} (hI : ∀ b o y, G.I b o = some y → G1.I b o = some y) (h : ∀ s k b, g s = some k → G.bb s = some b → G1.bb k = some b) {u : TV} (hu : RT G u x) : RT G1 (u.ren g) x := by
  cases u with
  | c u => exact RN.ren hI h hu
  | agg l => obtain ⟨vs, h1, h2⟩ := hu; exact ⟨vs, h1, All2.map_left (h2.imp fun _ _ _ h3 => h3.ren hI h)⟩

theorem isOwn_ren (g : Nat → Option Nat) (u : CV) (h : isOwn (.c u) = false) : isOwn (.c (u.ren g)) = false := by
  cases u with
  | loc s off => simp only [CV.ren]; split <;> rfl
  | fn f caps => simp only [CV.ren]; split <;> rfl
  | own e c => cases h
  | iter s pos => cases h
  | cmap es => cases h
  | _ => rfl

theorem RA.ren_plain {G1 : Gh} {w1 : World} {g : Nat → Option Nat} (hI : ∀ b o y, G.I b o = some y → G1.I b o = some y) (h : ∀ s k b, g s = some k → G.bb s = some b → G1.bb k = some b) {ℓ ℓ' : Own}
    (hv : isOwn v = false) (hu : RA G w ℓ v x) : RA G1 w1 ℓ' (v.ren g) x := by
  cases v with
  | c u =>
    by_cases ht : u = .top
    · subst ht; exact trivial
    · exact RA.of_RN (v := u.ren g) (((hu.toRC ht).to_RN (by cases u <;> first | rfl | cases hv)).ren hI h)
  | agg l => obtain ⟨vs, h1, h2⟩ := hu; exact ⟨vs, h1, All2.map_left (h2.imp fun _ _ _ h3 => h3.ren hI h)⟩
  | tup l => obtain ⟨vs, h1, h2⟩ := hu; exact ⟨vs, h1, All2.map_left (h2.imp fun _ _ _ h3 => h3.ren hI h)⟩

theorem lend_bb (s k b : Nat) (h : lend L s = some k) (hb : G.bb s = some b) : (lendG G L).bb k = some b := by
  show (back L k).bind G.bb = _
  rw [(lend_back h).1]; exact hb

theorem lend_BoxR (hn : L.Nodup) {i s : Nat} {l : List CV} (hi : L[i]? = some s) (h : BoxR G w s l) : BoxR (lendG G L) w (LK + i) (l.map (CV.ren (lend L))) := by
  obtain ⟨b, cs, ty, h1, h2, h3, h4⟩ := h
  have hl : lend L s = some (LK + i) := by unfold lend; rw [idx_of_nodup hn hi]; rfl
  refine ⟨b, cs, ty, lend_bb s _ b hl h1, h2, ⟨by simpa using h3.1, h3.2.map (fun v e => ren_bld e)⟩, fun k u hu => ?_⟩
  rw [List.getElem?_map, Option.map_eq_some_iff] at hu
  obtain ⟨u', hu', rfl⟩ := hu
  obtain ⟨y, h5, h6⟩ := h4 k u' hu'
  refine ⟨y, h5, ?_⟩
  by_cases ho : u'.plain = true
  · exact .of_RN (RN.ren (G := G) (G1 := lendG G L) (fun _ _ _ h => h) lend_bb (h6.to_RN ho))
  · cases u' <;> simp [CV.plain] at ho
    case iter s2 pos => exact IterAt.one h6
    case cmap es =>
      obtain ⟨b', clock, k1, k2, k3⟩ := (h6 : MapAt G w (.cell s k) es y)
      refine ⟨b', clock, k1, ?_, k3⟩
      show lendOw L (G.ow b') = _
      rw [k2]; simp [lendOw, hl]
    rename_i e c
    have h7 : OwnAt G w (.cell s k) e c y := h6
    show OwnAt (lendG G L) w (.cell (LK + i) k) e c y
    rcases h7 with ⟨h7, ad, h8, h9⟩ | ⟨hne, b', cap, cur, sz, k1, k2, k3⟩
    · refine .inl ⟨h7, ad, h8, h9.map fun b' hb' => ⟨?_, rfl⟩⟩
      show lendOw L (G.ow b') = _
      rw [hb']; simp [lendOw, hl]
    · refine .inr ⟨hne, b', cap, cur, sz, k1, ?_, k3⟩
      show lendOw L (G.ow b') = _
      rw [k2]; simp [lendOw, hl]

/-- the ghost behind the call: what was lent comes back, what was not is as it was -/
def backOw (L : List Nat) (o : Own) : Option Own → Option Own
  | some (.box k) => (back L k).map Own.box
  | some (.cell k j) => (back L k).map fun s => Own.cell s j
  | some .ret => some o
  | _ => none

def mergeG (G : Gh) (n : Nat) (L : List Nat) (o : Own) (G1 : Gh) : Gh :=
  { I := G1.I, bb := G.bb, ow := fun b => if b < n ∧ lendOw L (G.ow b) = none then G.ow b else backOw L o (G1.ow b) }

def lentCh (L : List Nat) (ℓ : Own) : Prop := ∃ s ∈ L, ℓ = .box s ∨ ∃ k, ℓ = .cell s k

theorem lendOw_none {ℓ : Own} (h : ¬ lentCh L ℓ) : lendOw L (some ℓ) = none := by
  have hn : ∀ s, s ∉ L → lend L s = none := fun s hs => by
    unfold lend
    cases hi : idx s L with
    | none => rfl
    | some i => exact absurd (List.mem_of_getElem? (idx_some hi)) hs
  cases ℓ with
  | box s =>
    have : s ∉ L := fun hs => h ⟨s, hs, .inl rfl⟩
    simp [lendOw, hn s this]
  | cell s k =>
    have : s ∉ L := fun hs => h ⟨s, hs, .inr ⟨k, rfl⟩⟩
    simp [lendOw, hn s this]
  | slot t => rfl
  | ret => rfl

theorem merge_gr {o : Own} {G1 : Gh} (hn : L.Nodup) (hw : WI G w) (hx : Ext (lendG G L) w G1 w') (hw1 : WI G1 w') (ho : ∀ s, o ≠ .box s) :
    Gr (lentCh L) G w (mergeG G w.heap.size L o G1) w' ∧ WI (mergeG G w.heap.size L o G1) w' := by
  refine ⟨⟨⟨hx.I, fun b hb hno => ?_, hx.size, hx.os, hx.output, hx.tape, fun _ _ => rfl⟩, fun _ _ h => h, fun b ℓ hb hne => ?_⟩, ⟨hw1.cell, fun b hb => ⟨(hw1.fresh b hb).1, ?_⟩, fun b s hb k => ?_, fun s b hb => ?_, hw.tab.map fun b hb hno => ?_⟩⟩
  · have h1 : (lendG G L).ow b = none := by show lendOw L (G.ow b) = none; rw [hno]; rfl
    have h2 := hx.old b hb h1
    refine ⟨?_, h2.2.1, h2.2.2⟩
    show (if b < w.heap.size ∧ lendOw L (G.ow b) = none then G.ow b else _) = none
    rw [if_pos ⟨hb, h1⟩]; exact hno
  · have hlt := ow_lt hw hb
    have h1 : (lendG G L).ow b = none := by show lendOw L (G.ow b) = none; rw [hb]; exact lendOw_none hne
    have h2 := hx.old b hlt h1
    refine ⟨?_, h2.2.1, h2.2.2⟩
    show (if b < w.heap.size ∧ lendOw L (G.ow b) = none then G.ow b else _) = some ℓ
    rw [if_pos ⟨hlt, h1⟩]; exact hb
  · show (if b < w.heap.size ∧ lendOw L (G.ow b) = none then G.ow b else backOw L o (G1.ow b)) = none
    have := hx.size
    rw [if_neg (by omega), (hw1.fresh b hb).2]; rfl
  · have hb' : (if b < w.heap.size ∧ lendOw L (G.ow b) = none then G.ow b else backOw L o (G1.ow b)) = some (.box s) := hb
    split at hb'
    · rename_i hc
      have h2 := hx.old b hc.1 hc.2
      show G1.I b k = none
      rw [h2.2.2 k]; exact hw.boxI b s hb' k
    · cases h3 : G1.ow b with
      | none => rw [h3] at hb'; cases hb'
      | some ℓ =>
        rw [h3] at hb'
        cases ℓ <;> simp [backOw] at hb'
        · exact hw1.boxI b _ h3 k
        · exact absurd hb' (ho s)
  · show (if b < w.heap.size ∧ lendOw L (G.ow b) = none then G.ow b else backOw L o (G1.ow b)) = some (.box s)
    have h1 := hw.bbow s b hb
    have hlt := ow_lt hw h1
    by_cases hc : lendOw L (G.ow b) = none
    · rw [if_pos ⟨hlt, hc⟩]; exact h1
    · rw [if_neg (fun e => hc e.2)]
      rw [h1] at hc
      cases hl : lend L s with
      | none => simp [lendOw, hl] at hc
      | some k =>
        have h2 := lend_bb (G := G) s k b hl hb
        have h3 := hx.lent k (lend_back hl).2
        rw [h2] at h3
        rw [hw1.bbow k b h3]
        simp [backOw, (lend_back hl).1]
  · have h1 : (lendG G L).ow b = none := by show lendOw L (G.ow b) = none; rw [hno]; rfl
    have h2 := hx.old b hb h1
    refine ⟨?_, h2.2.1⟩
    show (if b < w.heap.size ∧ lendOw L (G.ow b) = none then G.ow b else _) = none
    rw [if_pos ⟨hb, h1⟩]; exact hno

theorem merge_bb {G1 : Gh} (hx : Ext (lendG G L) w G1 w') (k s b : Nat) (h : back L k = some s) (hb : G1.bb k = some b) : G.bb s = some b := by
  have h1 := hx.lent k (back_ge h).1
  have h2 : (lendG G L).bb k = G.bb s := by show (back L k).bind G.bb = _; rw [h]; rfl
  rw [← h2, ← h1]; exact hb

theorem merge_own {o : Own} {G1 : Gh} (hx : Ext (lendG G L) w G1 w') {ℓ ℓ' : Own} (hℓ : backOw L o (some ℓ) = some ℓ') {e : TypeId} {c : List (List PV)} {y : Value} (h : OwnAt G1 w' ℓ e c y) : OwnAt (mergeG G w.heap.size L o G1) w' ℓ' e c y := by
  have key : ∀ b, G1.ow b = some ℓ → (if b < w.heap.size ∧ lendOw L (G.ow b) = none then G.ow b else backOw L o (G1.ow b)) = some ℓ' := fun b k2 => by
    rw [if_neg (fun ⟨h1, h2⟩ => by have := (hx.old b h1 h2).1; rw [k2] at this; cases this), k2]
    exact hℓ
  rcases h with ⟨h1, ad, h2, h3⟩ | ⟨hne, b, cap, cur, sz, k1, k2, k3⟩
  · exact .inl ⟨h1, ad, h2, h3.map fun b hb => ⟨key b hb, rfl⟩⟩
  · exact .inr ⟨hne, b, cap, cur, sz, k1, key b k2, k3⟩

theorem merge_map {o : Own} {G1 : Gh} (hx : Ext (lendG G L) w G1 w') {ℓ ℓ' : Own} (hℓ : backOw L o (some ℓ) = some ℓ') {es : List MapEntry} {y : Value} (h : MapAt G1 w' ℓ es y) : MapAt (mergeG G w.heap.size L o G1) w' ℓ' es y := by
  obtain ⟨b, clock, k1, k2, k3⟩ := h
  refine ⟨b, clock, k1, ?_, k3⟩
  show (if b < w.heap.size ∧ lendOw L (G.ow b) = none then G.ow b else backOw L o (G1.ow b)) = some ℓ'
  rw [if_neg (fun ⟨h1, h2⟩ => by have := (hx.old b h1 h2).1; rw [k2] at this; cases this), k2]
  exact hℓ

theorem merge_BoxR {o : Own} {G1 : Gh} (hn : L.Nodup) (hx : Ext (lendG G L) w G1 w') {i s : Nat} {l : List CV} (hi : L[i]? = some s) (h : BoxR G1 w' (LK + i) l) :
    BoxR (mergeG G w.heap.size L o G1) w' s (l.map (CV.ren (back L))) := by
  obtain ⟨b, cs, ty, h1, h2, h3, h4⟩ := h
  have hb : back L (LK + i) = some s := by unfold back; rw [if_pos (by omega), Nat.add_sub_cancel_left]; exact hi
  refine ⟨b, cs, ty, merge_bb hx _ s b hb h1, h2, ⟨by simpa using h3.1, h3.2.map (fun v e => ren_bld e)⟩, fun k u hu => ?_⟩
  rw [List.getElem?_map, Option.map_eq_some_iff] at hu
  obtain ⟨u', hu', rfl⟩ := hu
  obtain ⟨y, h5, h6⟩ := h4 k u' hu'
  refine ⟨y, h5, ?_⟩
  by_cases ho : u'.plain = true
  · exact .of_RN (RN.ren (G := G1) (G1 := mergeG G w.heap.size L o G1) (fun _ _ _ h => h) (merge_bb (G := G) hx) (h6.to_RN ho))
  · cases u' <;> simp [CV.plain] at ho
    case iter s2 pos => exact IterAt.one h6
    case cmap es => exact merge_map hx (by simp [backOw, hb]) (h6 : MapAt G1 w' (.cell (LK + i) k) es y)
    exact merge_own hx (by simp [backOw, hb]) (h6 : OwnAt G1 w' (.cell (LK + i) k) _ _ y)

theorem getBoxes_get {bx : Nat → Option (List CV)} : ∀ {L : List Nat} {cs : List (List CV)}, getBoxes bx L = some cs → cs.length = L.length ∧ ∀ (i : Nat) (l : List CV), cs[i]? = some l → ∃ s, L[i]? = some s ∧ bx s = some l
  | [], cs, h => by simp [getBoxes] at h; subst h; exact ⟨rfl, fun i l h => by simp at h⟩
  | s :: L, cs, h => by
    unfold getBoxes at h
    split at h
    case h_2 => cases h
    rename_i c m hc hm
    cases h
    obtain ⟨h1, h2⟩ := getBoxes_get hm
    refine ⟨by simp [h1], fun i l hi => ?_⟩
    cases i with
    | zero => simp at hi; subst hi; exact ⟨s, rfl, hc⟩
    | succ i => simpa using h2 i l (by simpa using hi)

/-- THE CALL, AS THE CALLER SEES IT. -/
theorem call_ok {g : FuncId} {args : List AV} {cargs : List Value} {cs : List (List CV)} {r : Res} {o : Own} (hn : L.Nodup) (hf : FR G w S a) (hw : WI G w) (ho : ∀ s, o ≠ .box s)
    (hg : getBoxes S.bx L = some cs) (hargs : All2 (fun v x => ∃ ℓ, RA G w ℓ v x) args cargs)
    (hc : Contract P g (args.map fun a => (a.deg).ren (lend L)) (cs.map fun c => c.map (CV.ren (lend L))) r) :
    Calls P g cargs.toArray w fun e w' => ∃ G', Gr (lentCh L) G w G' w' ∧ WI G' w' ∧ G'.bb = G.bb ∧
      match r with
      | .ret v cs' => ∃ x, e = .returned x ∧ RA G' w' o (v.ren (back L)) x ∧ cs'.length = L.length ∧ ∀ (i s : Nat) (l : List CV), L[i]? = some s → cs'[i]? = some l → BoxR G' w' s (l.map (CV.ren (back L)))
      | .pan v cs' => ∃ x, e = .panicked [{ v := x, recovered := false }] ∧ RN G' (v.ren (back L)) x ∧ cs'.length = L.length ∧ ∀ (i s : Nat) (l : List CV), L[i]? = some s → cs'[i]? = some l → BoxR G' w' s (l.map (CV.ren (back L))) := by
  obtain ⟨hlen, hget⟩ := getBoxes_get hg
  refine (hc (lendG G L) w cargs (lend_WI hn hw) (All2.map_left (hargs.imp fun v x _ ⟨ℓ, h⟩ => RA.ren_plain (G := G) (G1 := lendG G L) (w := w) (fun _ _ _ h => h) lend_bb (isOwn_deg v) (h.deg (ℓ' := ℓ)))) ?_ ?_ ?_).mono ?_
  · intro v hv
    obtain ⟨u, _, rfl⟩ := List.mem_map.1 hv
    have h1 := isOwn_deg u
    cases hd : u.deg with
    | c u' => rw [hd] at h1; show isOwn (.c (u'.ren _)) = false; exact isOwn_ren _ _ h1
    | agg l => rfl
    | tup l => rfl
  · intro i l hl
    rw [List.getElem?_map, Option.map_eq_some_iff] at hl
    obtain ⟨l', hl', rfl⟩ := hl
    obtain ⟨s, hs, hb⟩ := hget i l' hl'
    exact lend_BoxR hn hs (hf.box s l' hb)
  · intro s b hb
    have hb' : (back L s).bind G.bb = some b := hb
    cases hk : back L s with
    | none => rw [hk] at hb'; cases hb'
    | some t =>
      obtain ⟨h1, h2⟩ := back_ge hk
      have := (List.getElem?_eq_some_iff.1 h2).1
      exact ⟨s - LK, by simp [hlen]; exact this, by omega⟩
  · rintro e w' ⟨G1, hx, hw1, hr⟩
    obtain ⟨g1, hw2⟩ := merge_gr (o := o) hn hw hx hw1 ho
    refine ⟨_, g1, hw2, rfl, ?_⟩
    have hl : (cs.map fun c => c.map (CV.ren (lend L))).length = L.length := by simp [hlen]
    cases r with
    | ret v cs' =>
      obtain ⟨x, h1, h2, h3, h4⟩ := hr
      refine ⟨x, h1, ?_, by rw [h3, hl], fun i s l hi hl' => merge_BoxR hn hx hi (h4 i l hl')⟩
      by_cases hv : isOwn v = true
      · cases v with
        | c u =>
          cases u <;> first | (cases hv; done) | skip
          case iter s2 pos => exact trivial
          case cmap es => exact merge_map hx rfl (h2 : MapAt G1 w' .ret es x)
          exact merge_own hx rfl (h2 : OwnAt G1 w' .ret _ _ x)
        | agg l => cases hv
        | tup l => cases hv
      · exact RA.ren_plain (G := G1) (G1 := mergeG G w.heap.size L o G1) (fun _ _ _ h => h) (merge_bb (G := G) hx) (by simpa using hv) h2
    | pan v cs' =>
      obtain ⟨x, h1, h2, h3, h4⟩ := hr
      exact ⟨x, h1, RN.ren (G := G1) (G1 := mergeG G w.heap.size L o G1) (fun _ _ _ h => h) (merge_bb (G := G) hx) h2, by rw [h3, hl], fun i s l hi hl' => merge_BoxR hn hx hi (h4 i l hl')⟩
end
end Go.Abs

namespace Go.Abs
open Go

/-- what an operation's run says of the interpreter's answer -/
def Upon (P : Program) (G : Gh) (w : World) (S : St) (a : Act) (dst : Option Nat) (r : Result Next) : Delta → Prop
  | .val v dg bs =>
    (∃ x w' G', (r = .ok (.value x) w' ∨ (r = .ok .skip w' ∧ x = undef)) ∧ Step G w S a dst v dg bs x G' w') ∨
    (∃ f args, r = .ok (.enter f args) w ∧ Calls P f args w fun e w' => ∃ x G', e = .returned x ∧ Step G w S a dst v dg bs x G' w')
  | .pan v bs =>
    (∃ x, r = .halt (.panic x) w ∧ RN G v x ∧ bs = []) ∨
    (∃ f args, r = .ok (.enter f args) w ∧ Calls P f args w fun e w' => ∃ x G', e = .panicked [{ v := x, recovered := false }] ∧ RN G' v x ∧ Ext G w G' w' ∧ WI G' w' ∧ FR G' w' { S with bx := setBoxes S.bx bs } a)

section
variable {K : Cfg} {call : CallF} {G : Gh} {w : World} {S : St} {a : Act} {apps : List Nat} {o : Oper} {d : Delta}

theorem zip_set : ∀ {L : List Nat} {m : List (List CV)} {f : Nat → Option (List CV)}, L.Nodup → m.length = L.length → ∀ s, setBoxes f (L.zip m) s = match idx s L with | some i => m[i]? | none => f s
  | [], m, f, _, h, s => by
    have : m = [] := List.eq_nil_of_length_eq_zero (by simpa using h)
    subst this; rfl
  | b :: L, [], f, _, h, s => by simp at h
  | b :: L, c :: m, f, hn, h, s => by
    obtain ⟨h1, h2⟩ := List.nodup_cons.1 hn
    have ih := zip_set (f := upd f b (some c)) h2 (by simpa using h) s
    show setBoxes (upd f b (some c)) (L.zip m) s = _
    rw [ih, show idx s (b :: L) = if b = s then some 0 else (idx s L).map (· + 1) from rfl]
    by_cases hs : b = s
    · subst hs
      have : idx b L = none := by
        cases hi : idx b L with
        | none => rfl
        | some i => exact absurd (List.mem_of_getElem? (idx_some hi)) h1
      simp [this, upd]
    · simp only [if_neg hs]
      cases idx s L with
      | none => simp [upd, Ne.symm hs]
      | some i => simp

theorem zipBox_box {G' : Gh} {w' : World} {L : List Nat} {cs' : List (List CV)} (hn : L.Nodup) (hl : cs'.length = L.length) (hf : FR G w S a) (hw : WI G w) (g : Gr (lentCh L) G w G' w') (hbb : G'.bb = G.bb)
    (hb : ∀ (i s : Nat) (l : List CV), L[i]? = some s → cs'[i]? = some l → BoxR G' w' s (l.map (CV.ren (back L)))) :
    (∀ s l, setBoxes S.bx (zipBox L cs') s = some l → BoxR G' w' s l) ∧ (∀ s, setBoxes S.bx (zipBox L cs') s = none → s < LK → G'.bb s = none) := by
  have hz := fun s => zip_set (f := S.bx) (m := cs'.map fun c => c.map (CV.ren (back L))) hn (by simpa using hl) s
  refine ⟨fun s l h => ?_, fun s h hlk => ?_⟩
  · unfold zipBox at h
    rw [hz s] at h
    cases hi : idx s L with
    | none =>
      rw [hi] at h
      have hs : s ∉ L := fun hm => by obtain ⟨i, h2⟩ := idx_mem hm; rw [hi] at h2; cases h2
      refine (hf.box s l h).gr hw g ?_ (fun k => ?_)
      · rintro ⟨t, ht, h1 | ⟨k, h1⟩⟩
        · cases h1; exact hs ht
        · cases h1
      · rintro ⟨t, ht, h1 | ⟨k', h1⟩⟩
        · cases h1
        · cases h1; exact hs ht
    | some i =>
      rw [hi] at h
      simp only [List.getElem?_map, Option.map_eq_some_iff] at h
      obtain ⟨l', hl', rfl⟩ := h
      exact hb i s l' (idx_some hi) hl'
  · unfold zipBox at h
    rw [hz s] at h
    cases hi : idx s L with
    | none => rw [hi] at h; rw [hbb]; exact hf.nob s h hlk
    | some i =>
      rw [hi] at h
      have hlt : i < L.length := (List.getElem?_eq_some_iff.1 (idx_some hi)).1
      simp [hl, hlt] at h

theorem ptrs_flat {L : List Nat} : ∀ (u : CV), u.flat = true → u.ren (lend L) = u
  | .loc _ _, h => by cases h
  | .fn f caps, h => by
    have : caps = [] := by simpa [CV.flat] using h
    subst this; rfl
  | .top, _ => rfl
  | .pv _, _ => rfl
  | .own _ _, _ => rfl
  | .bld, _ => rfl
  | .nils, _ => rfl
  | .nilp, _ => rfl
  | .cptr _, _ => rfl
  | .cmap _, _ => rfl

theorem flat_ren {g : Nat → Option Nat} : ∀ (u : CV), u.flat = true → u.ren g = u
  | .loc _ _, h => by cases h
  | .fn f caps, h => by
    have : caps = [] := by simpa [CV.flat] using h
    subst this; rfl
  | .top, _ => rfl
  | .pv _, _ => rfl
  | .own _ _, _ => rfl
  | .bld, _ => rfl
  | .nils, _ => rfl
  | .nilp, _ => rfl
  | .cptr _, _ => rfl
  | .cmap _, _ => rfl

theorem map_flat_ren {g : Nat → Option Nat} {l : List CV} (h : l.all CV.flat = true) : l.map (CV.ren g) = l := by
  induction l with
  | nil => rfl
  | cons u l ih =>
    simp only [List.all_cons, Bool.and_eq_true] at h
    simp [flat_ren u h.1, ih h.2]

theorem av_flat_ren {g : Nat → Option Nat} {v : AV} (h : v.flat = true) : v.ren g = v := by
  cases v with
  | c u => simp only [AV.ren, flat_ren u h]
  | agg l => simp only [AV.ren, map_flat_ren (l := l) h]
  | tup l =>
    simp only [AV.ren]
    congr 1
    have h' : l.all TV.flat = true := h
    clear h
    induction l with
    | nil => rfl
    | cons u l ih =>
      simp only [List.all_cons, Bool.and_eq_true] at h'
      rw [List.map_cons, ih h'.2]
      congr 1
      cases u with
      | c u => simp only [TV.ren, flat_ren u h'.1]
      | agg m => simp only [TV.ren, map_flat_ren (l := m) h'.1]

theorem av_flat_deg {v : AV} (h : v.flat = true) : v.deg.flat = true := by
  cases v with
  | c u => cases u <;> first | exact h | rfl
  | agg l => exact h
  | tup l => exact h

theorem deg_ren (g : Nat → Option Nat) (v : AV) : v.deg.ren g = (v.ren g).deg := by
  cases v with
  | c u =>
    cases u with
    | loc s off => simp only [AV.deg, CV.deg, AV.ren, CV.ren]; split <;> rfl
    | fn f caps => simp only [AV.deg, CV.deg, AV.ren, CV.ren]; split <;> rfl
    | _ => rfl
  | agg l => rfl
  | tup l => rfl

theorem lentCh_nil {ℓ : Own} : ¬ lentCh [] ℓ := by rintro ⟨s, hs, _⟩; simp at hs

/-- a call, from the contract -/
theorem doCall_ok {own : Bool} {g : FuncId} {args : List AV} {cargs : List Value} (h : doCall call own S.bx g args = some d) (hf : FR G w S a) (hw : WI G w)
    (hcall : ∀ args bxs r, call g args bxs = some r → Contract K.P g args bxs r) (hargs : All2 (fun v x => ∃ ℓ, RA G w ℓ v x) args cargs) (dst : Option Nat) :
    match d with
    | .val v dg bs => Calls K.P g cargs.toArray w fun e w' => ∃ x G', e = .returned x ∧ Step G w S a dst v dg bs x G' w'
    | .pan v bs => Calls K.P g cargs.toArray w fun e w' => ∃ x G', e = .panicked [{ v := x, recovered := false }] ∧ RN G' v x ∧ Ext G w G' w' ∧ WI G' w' ∧ FR G' w' { S with bx := setBoxes S.bx bs } a := by
  let o : Own := match dst with | some d => .slot d | none => .ret
  have hob : ∀ s, o ≠ .box s := fun s => by cases dst <;> simp [o]
  unfold doCall at h
  split at h
  · rename_i hflat
    have hren : (args.map fun a => (a.deg).ren (lend [])) = args.map AV.deg := by
      apply List.map_congr_left
      intro v hv
      exact av_flat_ren (av_flat_deg (List.all_eq_true.1 hflat v hv))
    split at h
    · rename_i v hr
      split at h
      case isFalse => cases h
      rename_i hvf
      cases h
      have := call_ok (o := o) (L := []) (cs := []) (by simp) hf hw hob rfl hargs (r := .ret v []) (by rw [hren]; exact hcall _ _ _ hr)
      refine this.mono ?_
      rintro e w' ⟨G', gr, hw', hbb, x, h1, h2, h3, _⟩
      rw [av_flat_ren hvf] at h2
      refine ⟨x, G', h1, Step.of_gr hf hw gr hw' (fun d hd => ?_) (fun t ht => (lentCh_nil ht).elim) (fun s l hl => .inl ⟨hl, lentCh_nil, fun _ => lentCh_nil⟩) (fun s hs hlk => by rw [hbb]; exact hf.nob s hs hlk)⟩
      subst hd
      by_cases ho : own = true
      · rw [if_pos ho]; exact h2
      · rw [if_neg ho]; exact h2.deg
    · rename_i v hr
      split at h
      case isFalse => cases h
      rename_i hvf
      cases h
      have := call_ok (o := o) (L := []) (cs := []) (by simp) hf hw hob rfl hargs (r := .pan v []) (by rw [hren]; exact hcall _ _ _ hr)
      refine this.mono ?_
      rintro e w' ⟨G', gr, hw', hbb, x, h1, h2, h3, _⟩
      rw [flat_ren v hvf] at h2
      refine ⟨x, G', h1, h2, gr.ext, hw', hf.size, fun t => (hf.slot t).gr gr lentCh_nil, fun s l hl => (hf.box s l hl).gr hw gr lentCh_nil (fun _ => lentCh_nil), fun s hs hlk => by rw [hbb]; exact hf.nob s hs hlk⟩
    · cases h
  · have hn := dedup_nodup (args.flatMap AV.ptrs)
    generalize dedup (args.flatMap AV.ptrs) = L at h hn
    simp only at h
    split at h
    case h_1 => cases h
    rename_i cs hcs
    split at h
    · rename_i v cs' hr
      split at h
      case isFalse => cases h
      rename_i hlen
      cases h
      have := call_ok (o := o) hn hf hw hob hcs hargs (hcall _ _ _ hr)
      refine this.mono ?_
      rintro e w' ⟨G', gr, hw', hbb, x, h1, h2, h3, h4⟩
      obtain ⟨hb1, hb2⟩ := zipBox_box hn hlen hf hw gr hbb h4
      refine ⟨x, G', h1, Step.of_gr hf hw gr hw' (fun d hd => ?_) (fun t ht => ?_) (fun s l hl => .inr (hb1 s l hl)) hb2⟩
      · subst hd
        by_cases ho : own = true
        · rw [if_pos ho]; exact h2
        · rw [if_neg ho, deg_ren]; exact h2.deg
      · obtain ⟨s, _, h5 | ⟨k, h5⟩⟩ := ht <;> cases h5
    · rename_i v cs' hr
      split at h
      case isFalse => cases h
      rename_i hlen
      cases h
      have := call_ok (o := o) hn hf hw hob hcs hargs (hcall _ _ _ hr)
      refine this.mono ?_
      rintro e w' ⟨G', gr, hw', hbb, x, h1, h2, h3, h4⟩
      obtain ⟨hb1, hb2⟩ := zipBox_box hn hlen hf hw gr hbb h4
      exact ⟨x, G', h1, h2, gr.ext, hw', hf.size, fun t => (hf.slot t).gr gr (by rintro ⟨s, _, h5 | ⟨k, h5⟩⟩ <;> cases h5), hb1, hb2⟩
    · cases h

theorem rparts (hf : FR G w S a) : ∀ (ps : List (Nat × Operand)), All2 (RPart G w) (ps.map fun p => (p.1, opd S.sl p.2)) (ps.map fun p => (p.1, a.eval p.2))
  | [] => .nil
  | p :: ps => .cons ⟨rfl, _, hf.opd p.2⟩ (rparts hf ps)

theorem rargs (hf : FR G w S a) : ∀ (xs : List Operand), All2 (fun v x => ∃ ℓ, RA G w ℓ v x) (xs.map (opd S.sl)) (xs.map a.eval)
  | [] => .nil
  | x :: xs => .cons ⟨_, hf.opd x⟩ (rargs hf xs)

theorem ropt (hf : FR G w S a) (x : Option Operand) : RO G w (x.map (opd S.sl)) (x.map a.eval) := by
  cases x with
  | none => exact trivial
  | some x => exact ⟨_, hf.opd x⟩

theorem run_callFunc {g : FuncId} {fn : Func} {args : Array Value} (h : K.P.funcs[g]? = some fn) (hn : fn.name ≠ "runtime.NumGoroutine") (hb : fn.body.isSome = true) : (callFunc g args).run K.P w = .ok (.enter g args) w := by
  have hb' : fn.body ≠ none := by cases hx : fn.body <;> simp_all
  simp [callFunc, h, hn, hb']

theorem okAV_inv {r : Option AV} (h : okAV r = some d) : ∃ v, r = some v ∧ d = .val v none [] := by
  cases r with
  | none => cases h
  | some v => cases h; exact ⟨v, rfl, rfl⟩
theorem okPV_inv {r : Option PV} (h : okPV r = some d) : ∃ p, r = some p ∧ d = .val (.c (.pv p)) none [] := by
  cases r with
  | none => cases h
  | some v => cases h; exact ⟨v, rfl, rfl⟩

theorem upon_pure {r : Result Next} {v : AV} {x : Value} (hf : FR G w S a) (hw : WI G w) (hr : r = .ok (.value x) w) (hv : ∀ d, o.dst = some d → RA G w (.slot d) v x) : Upon K.P G w S a o.dst r (.val v none []) :=
  .inl ⟨x, w, G, .inl hr, Step.pure hf hw hv⟩

theorem locs_ok : ∀ {l : List AV} {m : List (Nat × Nat)} {xs : List Value}, locs l = some m → All2 (fun v x => ∃ ℓ, RA G w ℓ v x) l xs → All2 (fun (c : Nat × Nat) (v : Value) => ∃ b, G.bb c.1 = some b ∧ v = .pointer (some ⟨b, c.2, none⟩)) m xs
  | [], m, _, h, .nil => by simp [locs] at h; subst h; exact .nil
  | v :: l, m, x :: xs, h, .cons hx hxs => by
    unfold locs at h
    split at h
    · rename_i heq; cases heq
    · rename_i s o' l' heq
      cases heq
      simp only [Option.map_eq_some_iff] at h
      obtain ⟨m', hm, rfl⟩ := h
      obtain ⟨ℓ, hx⟩ := hx
      exact .cons hx (locs_ok hm hxs)
    · cases h

theorem absCall_ok {c : Call} {ty : TypeId} (h : absCall K call S.bx (opd S.sl) c = some d) (hf : FR G w S a) (hw : WI G w)
    (hgood : ∀ g, K.good g = true → ∃ fn, K.P.funcs[g]? = some fn ∧ fn.name ≠ "runtime.NumGoroutine" ∧ fn.body.isSome = true)
    (hcall : ∀ g args bxs r, K.good g = true → call g args bxs = some r → Contract K.P g args bxs r) :
    Upon K.P G w S a o.dst ((do let d ← resolve a.eval c ty; invoke d.target d.args : Sem Next).run K.P w) d := by
  unfold absCall at h
  split at h
  · rename_i b hb
    have hres : ∀ k : Builtin, c.callee = .builtin k → (resolve a.eval c ty).run K.P w = .ok { target := .builtin k c.argTypes ty (c.args.map fun | .const _ => true | _ => false), args := c.args.map a.eval } w := fun k hk => by
      unfold resolve; rw [hk]; rfl
    split at h
    · split at h
      case h_2 => cases h
      rename_i x t hx ht
      obtain ⟨p, hp, rfl⟩ := okPV_inv h
      obtain ⟨z, h1, h2⟩ := len_ok (ty := ty) hp (hf.opd x)
      refine upon_pure hf hw (x := z) ?_ (fun d _ => RA.of_RN (v := .pv p) h2)
      have ea : c.args.map a.eval = #[a.eval x] := by apply Array.ext'; simp [hx]
      have et : c.argTypes = #[t] := by apply Array.ext'; simp [ht]
      simp [hres _ hb, invoke, builtin, ea, et, h1]
    · obtain ⟨p, hp, rfl⟩ := okPV_inv h
      obtain ⟨z, h1, h2⟩ := max_ok (P := K.P) (ts := c.argTypes) (t := ty) hp (rargs hf c.args.toList)
      refine upon_pure hf hw (x := z) ?_ (fun d _ => RA.of_RN (v := .pv p) h2)
      have ea : c.args.map a.eval = (c.args.toList.map a.eval).toArray := by apply Array.ext'; simp
      simp only [Sem.run_bind, hres _ hb, Result.andThen_ok, invoke, builtin, ea, h1, Sem.run_pure]
    · obtain ⟨p, hp, rfl⟩ := okPV_inv h
      obtain ⟨z, h1, h2⟩ := min_ok (P := K.P) (ts := c.argTypes) (t := ty) hp (rargs hf c.args.toList)
      refine upon_pure hf hw (x := z) ?_ (fun d _ => RA.of_RN (v := .pv p) h2)
      have ea : c.args.map a.eval = (c.args.toList.map a.eval).toArray := by apply Array.ext'; simp
      simp only [Sem.run_bind, hres _ hb, Result.andThen_ok, invoke, builtin, ea, h1, Sem.run_pure]
    · split at h
      case h_2 => cases h
      rename_i s x hargs
      split at h
      case h_2 => cases h
      rename_i v hv
      have ea : c.args.map a.eval = #[a.eval s, a.eval x] := by apply Array.ext'; simp [hargs]
      have fin : ∀ dg, (∃ u, s = .tmp u ∧ dg = if isOwn (opd S.sl s) then some u else none) ∨ (∃ k, s = .const k ∧ dg = none) → d = .val v dg [] → Upon K.P G w S a o.dst ((do let d ← resolve a.eval c ty; invoke d.target d.args : Sem Next).run K.P w) d := by
        intro dg hdg hd
        subst hd
        obtain ⟨z, w', G', h1, h2⟩ := append_ok (ty := ty) (dst := o.dst) hv hf hw (hf.opd x) hdg
        refine .inl ⟨z, w', G', .inl ?_, h2⟩
        rw [Array.toArray_toList] at h1
        simp only [Sem.run_bind, hres _ hb, Result.andThen_ok, invoke, builtin, ea, h1, Sem.run_pure]
      split at h
      · rename_i u hs
        cases h
        exact fin _ (.inl ⟨u, rfl, by rw [if_pos hs]⟩) rfl
      · rename_i u hs
        cases h
        exact fin _ (.inl ⟨u, rfl, by rw [if_neg (by simp [hs])]⟩) rfl
      · rename_i k
        cases h
        exact fin _ (.inr ⟨k, rfl, rfl⟩) rfl
      · cases h
    · cases h
  · rename_i f hb
    split at h
    case h_2 => cases h
    rename_i g caps hfv
    split at h
    case isFalse => cases h
    rename_i hg
    have hF := hf.opd f
    rw [hfv] at hF
    obtain ⟨vs, hvs, hcaps⟩ : ∃ vs : List Value, a.eval f = .func (.func g) #[] vs.toArray ∧ All2 (fun (c : Nat × Nat) (v : Value) => ∃ b, G.bb c.1 = some b ∧ v = .pointer (some ⟨b, c.2, none⟩)) caps vs := hF
    obtain ⟨fn, hfn, hname, hbody⟩ := hgood g hg
    have hrun : ((do let d ← resolve a.eval c ty; invoke d.target d.args : Sem Next)).run K.P w = .ok (.enter g (c.args.toList.map a.eval ++ vs).toArray) w := by
      have e : (c.args.toList.map a.eval ++ vs).toArray = c.args.map a.eval ++ vs.toArray := by apply Array.ext'; simp
      have hr : (resolve a.eval c ty) = pure { target := .fn (.func g) vs.toArray, args := c.args.map a.eval } := by
        unfold resolve; rw [hb]; simp [hvs, Deferred.ofValue]
      rw [hr, e]
      simp only [Sem.run_bind, Sem.run_pure, Result.andThen_ok, invoke]
      exact run_callFunc hfn hname hbody
    have hall : All2 (fun v x => ∃ ℓ, RA G w ℓ v x) (c.args.toList.map (opd S.sl) ++ caps.map fun x => AV.c (.loc x.1 x.2)) (c.args.toList.map a.eval ++ vs) :=
      (rargs hf _).append (All2.map_left (hcaps.imp fun c v _ h => ⟨.ret, h⟩))
    have := doCall_ok (K := K) h hf hw (fun args bxs r => hcall g args bxs r hg) hall o.dst
    rw [hrun]
    cases d with
    | val v dg bs => exact .inr ⟨_, _, rfl, this⟩
    | pan v bs => exact .inr ⟨_, _, rfl, this⟩
  · cases h

/-- EACH OPERATION. -/
theorem op_ok (h : absOp K call apps S.bx (opd S.sl) o = some d) (hf : FR G w S a) (hw : WI G w)
    (hgood : ∀ g, K.good g = true → ∃ fn, K.P.funcs[g]? = some fn ∧ fn.name ≠ "runtime.NumGoroutine" ∧ fn.body.isSome = true)
    (hcall : ∀ g args bxs r, K.good g = true → call g args bxs = some r → Contract K.P g args bxs r)
    (hst : (match o.op with | .store .. => true | _ => false) = true → o.dst = none) :
    Upon K.P G w S a o.dst ((execOp a.eval o).run K.P w) d := by
  unfold absOp at h
  split at h
  · rename_i x hop
    obtain ⟨v, dg, G', rfl, hs⟩ := takeOver_ok h hf hw
    exact .inl ⟨_, w, G', .inl (by simp [execOp, hop]), hs⟩
  · rename_i x hop
    obtain ⟨v, dg, G', rfl, hs⟩ := takeOver_ok h hf hw
    exact .inl ⟨_, w, G', .inl (by simp [execOp, hop]), hs⟩
  · rename_i c x y hop
    split at h
    case h_2 => cases h
    rename_i t ht
    cases h
    have hc := hf.opd c
    rw [ht] at hc
    have hcv := hc.boolv
    cases t
    · exact upon_pure hf hw (x := a.eval y) (by simp [execOp, hop, hcv, asBool]) fun d _ => (hf.opd y).deg
    · exact upon_pure hf hw (x := a.eval x) (by simp [execOp, hop, hcv, asBool]) fun d _ => (hf.opd x).deg
  · rename_i t hop
    split at h
    case h_2 => cases h
    rename_i l hl
    obtain ⟨i, z, _, _, hz, _, hcells⟩ := zeroCells_inv (G := G) (w := w) hl
    obtain ⟨v, bs, G', rfl, hs⟩ := newBox_ok (ty := t) h hf hw (markB_RN hcells) (markB_bld (zero_noBld hl))
    refine .inl ⟨_, _, G', .inl ?_, hs⟩
    simp [execOp, hop, Instr.alloc, hz, newVar, newRow]
  · rename_i t x hop
    split at h
    case h_2 => cases h
    rename_i l hl
    obtain ⟨xs, hxc, hxs⟩ := cellsOf_ok (ℓ := .ret) hl (isOwn_deg _) ((hf.opd x).deg)
    obtain ⟨v, bs, G', rfl, hs⟩ := newBox_ok (ty := t) h hf hw hxs (fun e => absurd (List.mem_of_getElem? e) (cellsOf_noBld ‹_›))
    refine .inl ⟨_, _, G', .inl ?_, hs⟩
    simp [execOp, hop, Instr.box, hxc, newVar, newRow]
  · rename_i t parts hop
    obtain ⟨v, hv, rfl⟩ := okAV_inv h
    obtain ⟨z, h1, h2, h3⟩ := build_ok (ℓ := .ret) (parts' := parts.map fun p => (p.1, a.eval p.2)) hv (by simpa using rparts hf parts.toList)
    exact upon_pure hf hw (x := z) (by simp [execOp, hop, h1]) fun d _ => h3.place h2
  · rename_i t len parts hop
    obtain ⟨v, hv, rfl⟩ := okAV_inv h
    obtain ⟨z, w', G', h1, h2⟩ := buildSlice_ok (dst := o.dst) (parts' := parts.map fun p => (p.1, a.eval p.2)) hv hf hw (by simpa using rparts hf parts.toList)
    exact .inl ⟨z, w', G', .inl (by simp [execOp, hop, h1]), h2⟩
  · rename_i t x hop
    obtain ⟨v, bs, z, G', rfl, h1, h2, _⟩ := load_ok h hf hw (hf.opd x)
    exact .inl ⟨z, w, G', .inl (by simp [execOp, hop, h1]), h2⟩
  · rename_i t x y hop
    have hd := hst (by rw [hop])
    obtain ⟨v, dg, bs, w', G', rfl, h1, h2⟩ := store_ok (dst := o.dst) h hf hw (hf.opd x) hd
    exact .inl ⟨undef, w', G', .inr ⟨by simp [execOp, hop, h1], rfl⟩, h2⟩
  · rename_i x hop
    have hx := hf.opd x
    split at h
    · rename_i s off hv
      cases h
      rw [hv] at hx
      obtain ⟨b, hb, he⟩ : ∃ b, G.bb s = some b ∧ a.eval x = .pointer (some ⟨b, off, none⟩) := hx
      exact upon_pure hf hw (x := a.eval x) (by simp [execOp, hop, he]) fun d _ => ⟨b, hb, he⟩
    · rename_i l hv
      cases h
      rw [hv] at hx
      obtain ⟨b, o', he, hl⟩ : ∃ b o, a.eval x = .pointer (some ⟨b, o, none⟩) ∧ ∀ (j : Nat) (p : PV), l[j]? = some p → ∃ y, G.I b (o + j) = some y ∧ RP G.I p y := hx
      exact upon_pure hf hw (x := a.eval x) (by simp [execOp, hop, he]) fun d _ => ⟨b, o', he, hl⟩
    · rename_i f c hv
      cases h
      rw [hv] at hx
      obtain ⟨vs, he, hl⟩ : ∃ vs : List Value, a.eval x = .func (.func f) #[] vs.toArray ∧ All2 (fun (c : Nat × Nat) (v : Value) => ∃ b, G.bb c.1 = some b ∧ v = .pointer (some ⟨b, c.2, none⟩)) c vs := hx
      exact upon_pure hf hw (x := a.eval x) (by simp [execOp, hop, he]) fun d _ => ⟨vs, he, hl⟩
    · cases h
  · rename_i op t x y yt hop
    obtain ⟨p, hp, rfl⟩ := okPV_inv h
    obtain ⟨z, h1, h2⟩ := bin_ok (P := K.P) hp (hf.opd x) (hf.opd y) x y
    refine upon_pure hf hw (x := z) ?_ fun d _ => RA.of_RN (v := .pv p) h2
    have e : execOp a.eval o = (do pure (Next.value (← (do eqGuard op t x y (a.eval x) (a.eval y); Go.binOp op t (a.eval x) (a.eval y))))) := by simp only [execOp, hop]
    rw [e, Sem.run_bind, h1]
    rfl
  · rename_i op t x hop
    obtain ⟨p, hp, rfl⟩ := okPV_inv h
    obtain ⟨z, h1, h2⟩ := un_ok (P := K.P) hp (hf.opd x)
    exact upon_pure hf hw (x := z) (by simp [execOp, hop, h1]) fun d _ => RA.of_RN (v := .pv p) h2
  · rename_i s t x hop
    obtain ⟨v, hv, rfl⟩ := okAV_inv h
    obtain ⟨z, w', G', h1, h2⟩ := conv_ok (dst := o.dst) hv hf hw (hf.opd x)
    exact .inl ⟨z, w', G', .inl (by simp [execOp, hop, h1]), h2⟩
  · rename_i t x hop
    obtain ⟨v, hv, rfl⟩ := okAV_inv h
    obtain ⟨z, h1, h2, h3⟩ := mkIface_ok (P := K.P) (ℓ' := .ret) hv (hf.opd x)
    exact upon_pure hf hw (x := z) (by simp [execOp, hop, h1]) fun d _ => h3.place h2
  · rename_i f first caps hop
    split at h
    case isFalse => cases h
    rename_i hfirst
    split at h
    case h_2 => cases h
    rename_i l hl
    cases h
    have hlo := locs_ok hl (rargs hf caps.toList)
    have he : first = #[] := by simpa using hfirst
    subst he
    refine upon_pure hf hw (x := .func (.func f) #[] (caps.toList.map a.eval).toArray) ?_ fun d _ => ⟨_, rfl, hlo⟩
    have e : (caps.toList.map a.eval).toArray = caps.map a.eval := by apply Array.ext'; simp
    rw [e]
    simp [execOp, hop, Instr.makeFunc]
  · rename_i t x lo hi mx hop
    obtain ⟨v, hv, rfl⟩ := okAV_inv h
    obtain ⟨z, h1, p, rfl, h2⟩ := slice_ok (P := K.P) hv (hf.opd x) (ropt hf lo) (ropt hf hi) (ropt hf mx)
    exact upon_pure hf hw (x := z) (by simp [execOp, hop, h1]) fun d _ => RA.of_RN (v := .pv p) h2
  · rename_i t x f hop
    obtain ⟨v, hv, rfl⟩ := okAV_inv h
    obtain ⟨z, h1, u, rfl, h2, h3, h4⟩ := fieldAddr_ok (P := K.P) hv (hf.opd x)
    exact upon_pure hf hw (x := z) (by simp [execOp, hop, h1]) fun d _ => RA.of_RN h4
  · rename_i t x f hop
    obtain ⟨v, hv, rfl⟩ := okAV_inv h
    obtain ⟨z, h1, h2, h3⟩ := field_ok (P := K.P) (ℓ' := .ret) hv (hf.opd x)
    exact upon_pure hf hw (x := z) (by simp [execOp, hop, h1]) fun d _ => h3.place h2
  · rename_i t x i hop
    obtain ⟨v, hv, rfl⟩ := okAV_inv h
    obtain ⟨z, h1, u, rfl, h2⟩ := indexAddr_ok (P := K.P) hv (hf.opd x) (hf.opd i)
    exact upon_pure hf hw (x := z) (by simp [execOp, hop, h1]) fun d _ => RA.of_RN h2
  · rename_i t x i hop
    obtain ⟨v, hv, rfl⟩ := okAV_inv h
    obtain ⟨z, h1, p, rfl, h2⟩ := index_ok (P := K.P) hv (hf.opd x) (hf.opd i)
    exact upon_pure hf hw (x := z) (by simp [execOp, hop, h1]) fun d _ => RA.of_RN (v := .pv p) h2
  · rename_i x xt t ok hop
    obtain ⟨v, hv, rfl⟩ := okAV_inv h
    obtain ⟨z, h1, h2, h3⟩ := assert_ok (P := K.P) (xT := xt) (ℓ' := .ret) hv (hf.opd x)
    exact upon_pure hf hw (x := z) (by simp [execOp, hop, h1]) fun d _ => h3.place h2
  · rename_i x i hop
    obtain ⟨v, hv, rfl⟩ := okAV_inv h
    obtain ⟨z, h1, h2, h3⟩ := extract_ok (P := K.P) (w := w) (ℓ' := .ret) hv (hf.opd x)
    exact upon_pure hf hw (x := z) (by simp [execOp, hop, h1]) fun d _ => h2.place h3
  · rename_i t x hop
    obtain ⟨v, hv, rfl⟩ := okAV_inv h
    obtain ⟨z, w', G', h1, h2⟩ := range_ok (dst := o.dst) hv hf hw (hf.opd x)
    exact .inl ⟨z, w', G', .inl (by simp [execOp, hop, h1]), h2⟩
  · rename_i t x i comma hop
    obtain ⟨v, hv, rfl⟩ := okAV_inv h
    obtain ⟨z, h1, h2, h3⟩ := lookup_ok (P := K.P) (ℓ' := .ret) hv (hf.opd x) (hf.opd i)
    exact upon_pure hf hw (x := z) (by simp [execOp, hop, h1]) fun d _ => h3.place h2
  · rename_i x str hop
    obtain ⟨v, dg, z, w', rfl, h1, h2⟩ := next_ok (P := K.P) (ty := o.type) h hf hw
    exact .inl ⟨z, w', G, .inl (by simp [execOp, hop, h1]), h2⟩
  · rename_i c hop
    have := absCall_ok (ty := o.type) (o := o) h hf hw hgood hcall
    have e : execOp a.eval o = (do let d ← resolve a.eval c o.type; invoke d.target d.args) := by simp [execOp, hop]
    rw [e]; exact this
  · rename_i x hop
    have hx := hf.opd x
    split at h
    · rename_i t p hv
      cases h
      rw [hv] at hx
      have hx' : RP G.I (.ifc t p) (a.eval x) := hx
      refine .inl ⟨a.eval x, ?_, hx', rfl⟩
      have he : ∃ u, a.eval x = .iface t u := by
        generalize a.eval x = y at hx'
        cases hx'; exact ⟨_, rfl⟩
      obtain ⟨u, he⟩ := he
      simp [execOp, hop, he, Instr.panic]
    · rename_i t l hv
      cases h
      rw [hv] at hx
      have hx' : RP G.I (.ifa t l) (a.eval x) := hx
      refine .inl ⟨a.eval x, ?_, hx', rfl⟩
      have he : ∃ u, a.eval x = .iface t u := by
        generalize a.eval x = y at hx'
        cases hx'; exact ⟨_, rfl⟩
      obtain ⟨u, he⟩ := he
      simp [execOp, hop, he, Instr.panic]
    · cases h
  · cases h
end
end Go.Abs

namespace Go.Abs
open Go

structure Sound (K : Cfg) (call : CallF) : Prop where
  good : ∀ g, K.good g = true → ∃ fn, K.P.funcs[g]? = some fn ∧ fn.name ≠ "runtime.NumGoroutine" ∧ fn.body.isSome = true
  call : ∀ g args bxs r, K.good g = true → call g args bxs = some r → Contract K.P g args bxs r

def Out.exit' : Out → Exit
  | .norm => .normal
  | .exit i => .exit i
  | .ret => .ret
  | .pan _ => .normal

/-- what has to be shown of where a piece of code comes out -/
def Post (G : Gh) (w : World) (df : List Deferred) (r : Out × St) (Q : Exit → Act → World → Prop) : Prop :=
  ∀ a' w' G', Ext G w G' w' → WI G' w' → FR G' w' r.2 a' → a'.defers = df →
    match r.1 with
    | .pan v => ∀ x, RN G' v x → Q (.panic [{ v := x, recovered := false }]) a' w'
    | o => Q o.exit' a' w'

theorem Post.ext {G G' : Gh} {w w' : World} {df : List Deferred} {r : Out × St} {Q : Exit → Act → World → Prop} (h : Post G w df r Q) (hx : Ext G w G' w') : Post G' w' df r Q :=
  fun a2 w2 G2 h1 h2 h3 h4 => h a2 w2 G2 (hx.trans h1) h2 h3 h4

section
variable {K : Cfg} {call : CallF} {G : Gh} {w : World} {S : St} {a : Act} {o : Oper} {ops : List Oper} {Q : Exit → Act → World → Prop}

theorem put_defers (a : Act) (d : Option Nat) (x : Value) : (a.put d x).defers = a.defers := by cases d <;> rfl

theorem guard_ok {b : Bool} (h : guardA ops S o = some b) (hf : FR G w S a) : Region.wanted o (yielded ops.toArray a.tmps) = b := by
  unfold guardA at h
  unfold Region.wanted
  cases hg : o.guard with
  | none => rw [hg] at h; simp at h; simp [h]
  | some gw =>
    obtain ⟨j, want⟩ := gw
    rw [hg] at h
    simp only at h ⊢
    unfold yielded
    have hj : ops.toArray[j]? = ops[j]? := by simp
    rw [hj]
    cases hd : (ops[j]?).bind (·.dst) with
    | none => rw [hd] at h; simp at h; simp [h]
    | some d =>
      rw [hd] at h
      simp only at h
      have hs := hf.slot d
      simp only [Option.bind_some]
      cases hv : S.sl d with
      | c v =>
        rw [hv] at h hs
        cases v with
        | pv p =>
          cases p with
          | bool c =>
            simp at h
            have e := RA.boolv hs
            rw [Array.getD_eq_getD_getElem?] at e
            cases ht : a.tmps[d]? with
            | none => rw [ht] at e; cases e
            | some y =>
              rw [ht] at e
              simp at e
              subst e
              simp
              rw [← h]
          | _ => cases h
        | _ => cases h
      | agg l => rw [hv] at h; cases h
      | tup l =>
        rw [hv] at h hs
        simp at h
        obtain ⟨vs, e, _⟩ := hs
        rw [Array.getD_eq_getD_getElem?] at e
        cases ht : a.tmps[d]? with
        | none => simp [← h]
        | some y =>
          rw [ht] at e
          simp at e
          subst e
          simp [← h]

theorem fr_skip (hf : FR G w S a) {S' : St} (hp : S.put o.dst (.tup []) = some S') (hw : WI G w) : FR G w S' (a.put o.dst undef) := by
  have := Step.frame (x := undef) hf (Step.pure (dst := o.dst) (v := .tup []) (x := undef) hf hw fun d _ => ⟨[], rfl, .nil⟩) (S' := S') (by simpa [setBoxes, St.degAt] using hp)
  exact this

/-- ONE OPERATION OF A REGION, what follows behind a variable. -/
theorem step_ok (hs : Sound K call) {r : Out × St} (h : stepOp K call ops o S = some r) (hf : FR G w S a) (hw : WI G w)
    (hst : (match o.op with | .store .. => o.dst.isNone | _ => true) = true) (N : Act → World → Prop)
    (hN : match r.1 with
      | .norm => ∀ a' w' G', Ext G w G' w' → WI G' w' → FR G' w' r.2 a' → a'.defers = a.defers → N a' w'
      | _ => Post G w a.defers r Q) :
    if Region.wanted o (yielded ops.toArray a.tmps) then o.wp K.P a w N Q ∨ (o.asks K.P a w ∧ LetsOut Q) else N (a.put o.dst undef) w := by
  unfold stepOp at h
  split at h
  · cases h
  · rename_i hg
    rw [guard_ok hg hf]
    simp only [Option.map_eq_some_iff] at h
    obtain ⟨S', hS', rfl⟩ := h
    simp only at hN
    exact hN _ w G (.refl _ _) hw (fr_skip hf hS' hw) (put_defers a _ _)
  · rename_i hg
    rw [guard_ok hg hf]
    refine .inl ?_
    split at h
    · cases h
    · rename_i v bs hop
      cases h
      have := op_ok hop hf hw hs.good hs.call (fun e => by
        cases ho : o.op <;> simp [ho] at e hst
        exact hst)
      unfold Oper.wp
      rcases this with ⟨x, hr, hv, rfl⟩ | ⟨f, args, hr, hc⟩
      · rw [hr, Oper.upon_panic]
        simp only at hN
        exact hN a w G (.refl _ _) hw hf rfl x hv
      · rw [hr, Oper.upon_enter]
        refine hc.mono ?_
        rintro e w' ⟨x, G', rfl, hv, hx, hw', hf'⟩
        simp only at hN
        exact hN a w' G' hx hw' hf' rfl x hv
    · rename_i v dg bs hop
      simp only [Option.map_eq_some_iff] at h
      obtain ⟨S', hS', rfl⟩ := h
      simp only at hN
      have := op_ok hop hf hw hs.good hs.call (fun e => by
        cases ho : o.op <;> simp [ho] at e hst
        exact hst)
      unfold Oper.wp
      rcases this with ⟨x, w', G', hr, hstep⟩ | ⟨f, args, hr, hc⟩
      · have hfr := hstep.frame hf hS'
        rcases hr with hr | ⟨hr, rfl⟩
        · rw [hr, Oper.upon_value]
          exact hN _ w' G' hstep.ext hstep.wi hfr (put_defers a _ _)
        · rw [hr, Oper.upon_skip]
          exact hN _ w' G' hstep.ext hstep.wi hfr (put_defers a _ _)
      · rw [hr, Oper.upon_enter]
        refine hc.mono ?_
        rintro e w' ⟨x, G', rfl, hstep⟩
        exact hN _ w' G' hstep.ext hstep.wi (hstep.frame hf hS') (put_defers a _ _)

theorem stepOp_out {r : Out × St} (h : stepOp K call ops o S = some r) : r.1 = .norm ∨ ∃ v, r.1 = .pan v := by
  unfold stepOp at h
  split at h
  · cases h
  · simp only [Option.map_eq_some_iff] at h
    obtain ⟨S', _, rfl⟩ := h
    exact .inl rfl
  · split at h
    · cases h
    · cases h; exact .inr ⟨_, rfl⟩
    · simp only [Option.map_eq_some_iff] at h
      obtain ⟨S', _, rfl⟩ := h
      exact .inl rfl

/-- THE ORDER OF THE TEXT. -/
theorem run_ok (hs : Sound K call) : ∀ (l : List Oper) {S : St} {G : Gh} {w : World} {a : Act} {r : Out × St}, runOps K call ops l S = some r → FR G w S a → WI G w → storesOK l = true →
    Post G w a.defers r Q → wpList K.P ops.toArray Q l a w
  | [], S, G, w, a, r, h, hf, hw, _, hp => by
    simp [runOps] at h
    subst h
    exact hp a w G (.refl _ _) hw hf rfl
  | o :: l, S, G, w, a, r, h, hf, hw, hst, hp => by
    simp only [storesOK, List.all_cons, Bool.and_eq_true] at hst
    unfold runOps at h
    split at h
    · rename_i S1 h1
      refine step_ok hs h1 hf hw hst.1 _ fun a' w' G' hx hw' hf' hd => ?_
      exact run_ok hs l h hf' hw' hst.2 (by rw [hd]; exact hp.ext hx)
    · rename_i hne
      refine step_ok hs h hf hw hst.1 _ ?_
      rcases stepOp_out h with h1 | ⟨v, h1⟩
      · obtain ⟨r1, r2⟩ := r
        simp only at h1
        subst h1
        exact (hne _ h).elim
      · rw [h1]; exact hp
end
end Go.Abs
