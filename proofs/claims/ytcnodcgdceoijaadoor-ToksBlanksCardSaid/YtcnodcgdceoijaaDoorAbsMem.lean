/-
  THE ABSTRACT INTERPRETER: stores, new boxes, new slices.
-/
import Derived.Test.YtcnodcgdceoijaaDoorAbsStep
set_option linter.unusedSimpArgs false
set_option linter.unusedVariables false
namespace Go.Abs
open Go

section
variable {P : Program} {G G' G1 G2 : Gh} {w w' w1 w2 : World} {S : St} {a : Act} {dst : Option Nat} {v : AV} {dg : Option Nat} {bs : List (Nat × List CV)} {x : Value}

theorem Gr.trans {c1 c2 : Own → Prop} (g : Gr c1 G w G1 w1) (k : Gr c2 G1 w1 G2 w2) : Gr (fun ℓ => c1 ℓ ∨ c2 ℓ) G w G2 w2 :=
  ⟨g.ext.trans k.ext, fun s b h => k.bb s b (g.bb s b h), fun b ℓ h hn =>
    have h1 := g.keep b ℓ h (fun e => hn (.inl e))
    have h2 := k.keep b ℓ h1.1 (fun e => hn (.inr e))
    ⟨h2.1, h2.2.1.trans h1.2.1, fun o => (h2.2.2 o).trans (h1.2.2 o)⟩⟩

theorem setRow_size (w : World) (g : Nat) (cs : Array Value) : (w.setRow g cs).heap.size = w.heap.size := by simp [World.setRow]

theorem ow_lt (hw : WI G w) {b : Nat} {ℓ : Own} (h : G.ow b = some ℓ) : b < w.heap.size := by
  rcases Nat.lt_or_ge b w.heap.size with h1 | h1
  · exact h1
  · have := (hw.fresh b h1).2; rw [h] at this; cases this

/-- a box is written -/
theorem setRow_gr (hw : WI G w) {s b : Nat} {cs new : Array Value} {ty : TypeId} (hb : G.bb s = some b) (_hh : w.heap[b]? = some (.cells cs ty (0, 0))) :
    Gr (fun ℓ => ℓ = .box s) G w G (w.setRow b new) ∧ WI G (w.setRow b new) := by
  have ho := hw.bbow s b hb
  refine ⟨⟨⟨fun _ _ _ h => h, fun c _ hc => ⟨hc, setRow_other w b c new (fun e => by rw [e, ho] at hc; cases hc), fun _ => rfl⟩, by rw [setRow_size]; exact Nat.le_refl _, rfl, rfl, rfl, fun _ _ => rfl⟩,
      fun _ _ h => h, fun c ℓ hc hne => ⟨hc, setRow_other w b c new (fun e => hne (by rw [e, ho] at hc; exact (Option.some.inj hc).symm)), fun _ => rfl⟩⟩,
    ⟨fun c o y h => ?_, fun c hc => hw.fresh c (by rw [setRow_size] at hc; exact hc), hw.boxI, hw.bbow, hw.tab.map fun c _ hc => ⟨hc, setRow_other w b c new (fun e => by rw [e, ho] at hc; cases hc)⟩⟩⟩
  have hne : c ≠ b := fun e => by have := hw.boxI b s ho o; rw [← e, h] at this; cases this
  rw [cell_setRow_other w b new ⟨c, o, none⟩ hne]
  exact hw.cell c o y h

theorem run_storeAt {t : TypeId} {b off : Nat} {cs : Array Value} {ty : TypeId} {y : Value} {xs : List Value} (hh : w.heap[b]? = some (.cells cs ty (0, 0))) (hc : y.cells = xs.toArray) (hs : szOf P t = some xs.length)
    (hfit : off + xs.length ≤ cs.size) (h1 : ∀ u ∈ xs, u.oneCell' = true) :
    (Instr.storeAt t (.pointer (some ⟨b, off, none⟩)) y).run P w = .ok () (w.setRow b (cs.toList.take off ++ xs ++ cs.toList.drop (off + xs.length)).toArray) := by
  have := run_storeCells_at P b off ty xs 0 cs w hh (by simpa using hfit) h1
  simp only [Nat.add_zero] at this
  simp [Instr.storeAt, Instr.sureAddr, storeVar, run_sizeOf' hs, hc, this]

theorem setAt_get (l : List CV) (off : Nat) (vs : List CV) (h : off + vs.length ≤ l.length) (k : Nat) :
    (setAt l off vs)[k]? = if off ≤ k ∧ k < off + vs.length then vs[k - off]? else l[k]? := by
  unfold setAt
  rw [List.append_assoc]
  by_cases h1 : k < off
  · rw [List.getElem?_append_left (by simp; omega), List.getElem?_take_of_lt h1, if_neg (by omega)]
  · rw [List.getElem?_append_right (by simp; omega)]
    simp only [List.length_take, Nat.min_eq_left (show off ≤ l.length by omega)]
    by_cases h2 : k < off + vs.length
    · rw [List.getElem?_append_left (by omega), if_pos ⟨by omega, h2⟩]
    · rw [List.getElem?_append_right (by omega), if_neg (by omega), List.getElem?_drop]
      congr 1; omega

theorem setArr_get (cs : Array Value) (off : Nat) (xs : List Value) (h : off + xs.length ≤ cs.size) (k : Nat) :
    (cs.toList.take off ++ xs ++ cs.toList.drop (off + xs.length)).toArray[k]? = if off ≤ k ∧ k < off + xs.length then xs[k - off]? else cs[k]? := by
  simp only [List.getElem?_toArray]
  rw [List.append_assoc]
  by_cases h1 : k < off
  · rw [List.getElem?_append_left (by simp; omega), List.getElem?_take_of_lt h1, if_neg (by omega)]
    simp
  · rw [List.getElem?_append_right (by simp; omega)]
    simp only [List.length_take, Array.length_toList, Nat.min_eq_left (show off ≤ cs.size by omega)]
    by_cases h2 : k < off + xs.length
    · rw [List.getElem?_append_left (by omega), if_pos ⟨by omega, h2⟩]
    · rw [List.getElem?_append_right (by omega), if_neg (by omega), List.getElem?_drop, Array.getElem?_toList]
      congr 1; omega

theorem setArr_size (cs : Array Value) (off : Nat) (xs : List Value) (h : off + xs.length ≤ cs.size) : (cs.toList.take off ++ xs ++ cs.toList.drop (off + xs.length)).toArray.size = cs.size := by
  simp; omega

theorem cvOf_noBld (v : Value) : cvOf v ≠ .bld := by
  unfold cvOf
  split <;> simp

theorem zero_noBld {t : TypeId} {l : List CV} (h : zeroCells P t = some l) : CV.bld ∉ l := by
  unfold zeroCells at h
  split at h
  case h_2 => cases h
  split at h
  case h_2 => cases h
  split at h
  case isFalse => cases h
  cases h
  intro hm
  obtain ⟨v, _, e⟩ := List.mem_map.1 hm
  exact cvOf_noBld v e

theorem markB_RN {t : TypeId} {l : List CV} {cs : List Value} (h : All2 (RN G) l cs) : All2 (RN G) (markB t l) cs := by
  unfold markB
  split
  · cases l with
    | nil => exact h
    | cons v l =>
      cases h with
      | cons h1 h2 =>
        cases v <;> first | exact .cons h1 h2 | skip
  · exact h

theorem markB_bld {t : TypeId} {l : List CV} (h : CV.bld ∉ l) : Bld t (markB t l) := fun e => by
  unfold markB at e
  split at e
  · rename_i hc; simpa using hc
  · exact absurd (List.mem_of_getElem? e) h

theorem cellsOf_noBld {A : AV} {vs : List CV} (h : cellsOfAV A = some vs) : CV.bld ∉ vs := by
  unfold cellsOfAV at h
  split at h
  · cases h
  · cases h
  · cases h
  · rename_i v _ hne _; cases h; intro hm; simp at hm; exact hne hm.symm
  · rename_i l
    split at h
    case isFalse => cases h
    rename_i hc
    cases h
    intro hm
    simp only [Bool.and_eq_true] at hc
    have := List.all_eq_true.1 hc.2 _ hm
    cases this
  · cases h

theorem store_ok {t : TypeId} {A : AV} {X : Operand} {y : Value} {ℓ : Own} {d : Delta} (h : absStore P S.bx t A X (opd S.sl X) = some d) (hf : FR G w S a) (hw : WI G w) (hA : RA G w ℓ A y)
    (hdst : dst = none) :
    ∃ v dg bs w' G', d = .val v dg bs ∧ (Instr.storeAt t y (a.eval X)).run P w = .ok () w' ∧ Step G w S a dst v dg bs undef G' w' := by
  subst hdst
  unfold absStore at h
  split at h
  case h_2 => cases h
  rename_i s off
  split at h
  case h_2 => cases h
  rename_i cells vs hbx hvs
  split at h
  case isFalse => cases h
  rename_i hc
  obtain ⟨hsz, hfit⟩ := hc
  obtain ⟨b, hb, rfl⟩ : ∃ b, G.bb s = some b ∧ y = .pointer (some ⟨b, off, none⟩) := hA
  obtain ⟨b', cs, ty, hb', hh, ⟨hcs, hbl⟩, hcells⟩ := hf.box s cells hbx
  rw [hb] at hb'; cases hb'
  have hX := hf.opd X
  -- what is common: values xs for vs, after a step of the ghost alone
  have main : ∀ (xs : List Value) (G1 : Gh) (ch : Own → Prop) (dg : Option Nat), (a.eval X).cells = xs.toArray → xs.length = vs.length → Gr ch G w G1 w → WI G1 w → G1.bb = G.bb →
      (∀ k u, vs[k]? = some u → ∃ x, xs[k]? = some x ∧ RC G1 w (.cell s (off + k)) u x) → (∀ t, ch (.slot t) → dg = some t) → (∀ s', ¬ ch (.box s')) → (∀ s' k, ¬ ch (.cell s' k)) → (∀ t, dg = some t → (S.sl t).isIter = false) →
      ∃ w' G', (Instr.storeAt t (.pointer (some ⟨b, off, none⟩)) (a.eval X)).run P w = .ok () w' ∧ Step G w S a none (.tup []) dg [(s, setAt cells off vs)] undef G' w' := by
    intro xs G1 ch dg hxc hxl g1 hw1 hbb hvals hsl hbo hce hit
    have hfit' : off + xs.length ≤ cs.size := by omega
    have hone : ∀ u ∈ xs, u.oneCell' = true := fun u hu => by
      obtain ⟨k, hk⟩ := List.mem_iff_getElem?.1 hu
      have hlt : k < vs.length := by have := (List.getElem?_eq_some_iff.1 hk).1; omega
      obtain ⟨z, h1, h2⟩ := hvals k vs[k] (by simp)
      rw [hk] at h1; cases h1
      exact h2.one
    have hrun := run_storeAt (P := P) (t := t) hh hxc (by rw [hxl]; exact hsz) hfit' hone
    obtain ⟨g2, hw2⟩ := setRow_gr hw1 (s := s) (by rw [hbb]; exact hb) hh (new := (cs.toList.take off ++ xs ++ cs.toList.drop (off + xs.length)).toArray)
    have hlt : b < w.heap.size := (Array.getElem?_eq_some_iff.1 hh).1
    refine ⟨_, G1, hrun, Step.of_gr hf hw (g1.trans g2) hw2 (fun d e => by cases e) (fun t ht => ?_) (fun s' l hl => ?_) (fun s' hs' hlk => ?_) hit⟩
    · rcases ht with h1 | h1
      · exact .inr (hsl t h1)
      · cases h1
    · rw [setBoxes_one] at hl
      split at hl
      · rename_i he
        subst he
        cases hl
        refine .inr ⟨b, _, ty, by rw [hbb]; exact hb, setRow_heap w b cs _ ty _ hh, ⟨by rw [setArr_size _ _ _ hfit', setAt_length _ _ _ hfit, hcs], fun e => by
          rw [setAt_get _ _ _ hfit] at e
          split at e
          · exact absurd (List.mem_of_getElem? e) (cellsOf_noBld hvs)
          · exact hbl e⟩, fun k u hu => ?_⟩
        rw [setAt_get _ _ _ hfit] at hu
        rw [setArr_get _ _ _ hfit']
        split at hu
        · rename_i hk
          obtain ⟨z, h1, h2⟩ := hvals _ _ hu
          rw [if_pos (by omega)]
          have e : off + (k - off) = k := by omega
          rw [e] at h2
          exact ⟨z, h1, h2.gr g2 (by simp)⟩
        · rename_i hk
          rw [if_neg (by omega)]
          obtain ⟨z, h1, h2⟩ := hcells _ _ hu
          exact ⟨z, h1, (h2.gr g1 (hce _ _)).gr g2 (by simp)⟩
      · rename_i he
        refine .inl ⟨hl, fun e => ?_, fun k e => ?_⟩
        · rcases e with e | e
          · exact hbo _ e
          · cases e; exact he rfl
        · rcases e with e | e
          · exact hce _ _ e
          · cases e
    · rw [setBoxes_one] at hs'
      split at hs'
      · cases hs'
      · rw [hbb]; exact hf.nob s' hs' hlk
  split at h
  · rename_i ho
    split at h
    case h_2 => cases h
    rename_i u
    cases h
    have hu : ∃ e c, opd S.sl (.tmp u) = .c (.own e c) := by
      cases hv : opd S.sl (.tmp u) with
      | c v => 
        rw [hv] at ho hvs
        cases v with
        | own e c => exact ⟨_, _, rfl⟩
        | iter s pos => exact absurd hvs (by simp [cellsOfAV])
        | _ => cases ho
      | agg l => rw [hv] at ho; cases ho
      | tup l => rw [hv] at ho; cases ho
    obtain ⟨e, c, hc⟩ := hu
    rw [hc] at hvs hX
    simp [cellsOfAV] at hvs
    subst hvs
    have hX' : OwnAt G w (.slot u) e c (a.eval (.tmp u)) := hX
    obtain ⟨G1, g1, hw1, hown, hbb⟩ := own_give (ℓ' := .cell s off) hw hX' (by simp) (by simp)
    have hone : (a.eval (.tmp u)).oneCell' = true := (RC.deg (ℓ := .slot u) (v := .own e c) hX').one
    obtain ⟨w', G', h1, h2⟩ := main [a.eval (.tmp u)] G1 _ (some u) (by rw [cells_one hone]) rfl g1 hw1 hbb
      (fun k z hz => by
        cases k with
        | zero => simp at hz; subst hz; exact ⟨_, rfl, hown⟩
        | succ k => simp at hz)
      (fun t ht => by cases ht; rfl) (fun s' h => by cases h) (fun s' k h => by cases h) (fun t e => by cases e; rw [show S.sl u = .c (.own e c) from hc]; rfl)
    exact ⟨_, _, _, w', G', rfl, h1, h2⟩
  · rename_i ho
    cases h
    obtain ⟨xs, hxc, hxs⟩ := cellsOf_ok hvs (by simpa using ho) hX
    obtain ⟨w', G', h1, h2⟩ := main xs G (fun _ => False) none hxc hxs.length.symm (.refl _ _) hw rfl
      (fun k z hz => let ⟨y, h1, h2⟩ := hxs.get hz; ⟨y, h1, .of_RN h2⟩) (fun _ h => h.elim) (fun _ h => h) (fun _ _ h => h) (fun _ e => by cases e)
    exact ⟨_, _, _, w', G', rfl, h1, h2⟩

/-! ### New boxes -/

def Gh.box (G : Gh) (d b : Nat) : Gh := { G with bb := upd G.bb d (some b), ow := upd G.ow b (some (.box d)) }

theorem alloc_size (w : World) (o : Obj) : (w.alloc o).heap.size = w.heap.size + 1 := by show (w.heap.push o).size = _; simp

theorem heap_old (w : World) (o : Obj) (r : Nat) (h : r < w.heap.size) : (w.alloc o).heap[r]? = w.heap[r]? := by
  show (w.heap.push o)[r]? = _
  rw [Array.getElem?_push_lt h, Array.getElem?_eq_getElem h]

theorem cell_alloc_old (w : World) (o : Obj) {b off : Nat} (h : b < w.heap.size) : (w.alloc o).cell? ⟨b, off, none⟩ = w.cell? ⟨b, off, none⟩ := by
  simp [World.cell?, heap_old w o b h]

theorem I_lt (hw : WI G w) {b o : Nat} {y : Value} (h : G.I b o = some y) : b < w.heap.size := by
  rcases Nat.lt_or_ge b w.heap.size with h1 | h1
  · exact h1
  · have := (hw.fresh b h1).1 o; rw [h] at this; cases this

theorem newBox_ok {l : List CV} {cs : List Value} {ty : TypeId} {d : Delta} (h : newBox S.bx dst l = some d) (hf : FR G w S a) (hw : WI G w) (hc : All2 (RN G) l cs) (hbl : Bld ty l) :
    ∃ v bs G', d = .val v none bs ∧ Step G w S a dst v none bs (.pointer (some ⟨w.heap.size, 0, none⟩)) G' (w.alloc (.cells cs.toArray ty)) := by
  unfold newBox at h
  split at h
  case h_2 => cases h
  rename_i dd
  split at h
  case isFalse => cases h
  rename_i hcond
  obtain ⟨hd, hno⟩ := hcond
  cases h
  have hno' : S.bx dd = none := by simpa using hno
  have hbb : G.bb dd = none := hf.nob dd hno' hd
  have hnew : (w.alloc (.cells cs.toArray ty)).heap[w.heap.size]? = some (.cells cs.toArray ty (0, 0)) := heap_alloc_new w _
  have g : Gr (fun _ => False) G w (G.box dd w.heap.size) (w.alloc (.cells cs.toArray ty)) := by
    refine ⟨⟨fun _ _ _ h => h, fun c hc ho => ⟨?_, heap_old w _ c hc, fun _ => rfl⟩, by rw [alloc_size]; omega, rfl, rfl, rfl, fun k hk => ?_⟩, fun s b hb => ?_, fun b ℓ hb _ => ⟨?_, heap_old w _ b (ow_lt hw hb), fun _ => rfl⟩⟩
    · show upd G.ow w.heap.size _ c = none
      unfold upd; rw [if_neg (by omega)]; exact ho
    · show upd G.bb dd _ k = _
      unfold upd; rw [if_neg (by omega)]
    · show upd G.bb dd _ s = _
      unfold upd; rw [if_neg (fun e => by rw [e, hbb] at hb; cases hb)]; exact hb
    · show upd G.ow w.heap.size _ b = _
      have := ow_lt hw hb
      unfold upd; rw [if_neg (by omega)]; exact hb
  have hw' : WI (G.box dd w.heap.size) (w.alloc (.cells cs.toArray ty)) := by
    refine ⟨fun b o y hI => ?_, fun b hb => ?_, fun b s hb o => ?_, fun s b hb => ?_, hw.tab.map fun c hc ho => ⟨(g.ext.old c hc ho).1, (g.ext.old c hc ho).2.1⟩⟩
    · rw [cell_alloc_old w _ (I_lt hw hI)]; exact hw.cell b o y hI
    · rw [alloc_size] at hb
      refine ⟨(hw.fresh b (by omega)).1, ?_⟩
      show upd G.ow w.heap.size _ b = none
      unfold upd; rw [if_neg (by omega)]; exact (hw.fresh b (by omega)).2
    · have hb' : upd G.ow w.heap.size (some (.box dd)) b = some (.box s) := hb
      unfold upd at hb'
      split at hb'
      · rename_i he; subst he; exact (hw.fresh _ (Nat.le_refl _)).1 o
      · exact hw.boxI b s hb' o
    · have hb' : upd G.bb dd (some w.heap.size) s = some b := hb
      show upd G.ow w.heap.size _ b = _
      unfold upd at hb' ⊢
      split at hb'
      · rename_i he; subst he; cases hb'; rw [if_pos rfl]
      · have h1 := hw.bbow s b hb'
        have h2 := ow_lt hw h1
        rw [if_neg (by omega)]; exact h1
  refine ⟨_, _, G.box dd w.heap.size, rfl, Step.of_gr hf hw g hw' (fun d' e => ?_) (fun _ h => h.elim) (fun s l' hl => ?_) (fun s hs hlk => ?_)⟩
  · cases e
    exact ⟨w.heap.size, by simp [Gh.box, upd], rfl⟩
  · rw [setBoxes_one] at hl
    split at hl
    · rename_i he
      subst he
      cases hl
      refine .inr ⟨w.heap.size, cs.toArray, ty, by simp [Gh.box, upd], hnew, ⟨by simp [hc.length], hbl⟩, fun k u hu => ?_⟩
      obtain ⟨z, h1, h2⟩ := hc.get hu
      exact ⟨z, by simpa using h1, .of_RN (h2.gr g)⟩
    · exact .inl ⟨hl, fun h => h, fun _ h => h⟩
  · rw [setBoxes_one] at hs
    split at hs
    · cases hs
    · rename_i he
      show upd G.bb dd _ s = none
      unfold upd; rw [if_neg he]; exact hf.nob s hs hlk

/-! ### New rows -/

def Gh.row (G : Gh) (b : Nat) (f : Nat → Option Value) (o : Option Own) : Gh := { G with I := fun c k => if c = b then f k else G.I c k, ow := upd G.ow b o }

/-- a new block whose cells never turn (those that 'f' gives) -/
theorem newRow_gr (hw : WI G w) {cs : Array Value} {ty : TypeId} {fz : Nat × Nat} {f : Nat → Option Value} {o : Option Own} (hf : ∀ k y, f k = some y → cs[k]? = some y) (ho : ∀ s, o ≠ some (.box s)) :
    Gr (fun _ => False) G w (G.row w.heap.size f o) (w.alloc (.cells cs ty fz)) ∧ WI (G.row w.heap.size f o) (w.alloc (.cells cs ty fz)) := by
  have hI : ∀ b k y, G.I b k = some y → (G.row w.heap.size f o).I b k = some y := fun b k y h => by
    have := I_lt hw h
    show (if b = _ then f k else G.I b k) = _
    rw [if_neg (by omega)]; exact h
  refine ⟨⟨⟨hI, fun c hc hn => ⟨?_, heap_old w _ c hc, fun k => ?_⟩, by rw [alloc_size]; omega, rfl, rfl, rfl, fun k hk => rfl⟩, fun s b hb => hb, fun b ℓ hb _ => ⟨?_, heap_old w _ b (ow_lt hw hb), fun k => ?_⟩⟩, ⟨fun b k y h => ?_, fun b hb => ?_, fun b s hb k => ?_, fun s b hb => ?_, hw.tab.map fun c hc hn => ⟨by show upd G.ow w.heap.size _ c = none; unfold upd; rw [if_neg (by omega)]; exact hn, heap_old w _ c hc⟩⟩⟩
  · show upd G.ow w.heap.size _ c = none
    unfold upd; rw [if_neg (by omega)]; exact hn
  · show (if c = _ then f k else G.I c k) = _
    rw [if_neg (by omega)]
  · have := ow_lt hw hb
    show upd G.ow w.heap.size _ b = _
    unfold upd; rw [if_neg (by omega)]; exact hb
  · have := ow_lt hw hb
    show (if b = _ then f k else G.I b k) = _
    rw [if_neg (by omega)]
  · have h' : (if b = w.heap.size then f k else G.I b k) = some y := h
    split at h'
    · rename_i he; subst he
      rw [cell_of_heap (heap_alloc_new w _)]; exact hf k y h'
    · rw [cell_alloc_old w _ (I_lt hw h')]; exact hw.cell b k y h'
  · rw [alloc_size] at hb
    refine ⟨fun k => ?_, ?_⟩
    · show (if b = _ then f k else G.I b k) = _
      rw [if_neg (by omega)]; exact (hw.fresh b (by omega)).1 k
    · show upd G.ow w.heap.size _ b = none
      unfold upd; rw [if_neg (by omega)]; exact (hw.fresh b (by omega)).2
  · have hb' : upd G.ow w.heap.size o b = some (.box s) := hb
    unfold upd at hb'
    split at hb'
    · exact absurd hb' (ho s)
    · have := ow_lt hw hb'
      show (if b = _ then f k else G.I b k) = _
      rw [if_neg (by omega)]; exact hw.boxI b s hb' k
  · have h1 := hw.bbow s b hb
    have h2 := ow_lt hw h1
    show upd G.ow w.heap.size _ b = _
    unfold upd; rw [if_neg (by omega)]; exact h1

theorem chunks_get (n : Nat) : ∀ (k : Nat) (l : List PV) (i : Nat) (el : List PV), (chunks n l k)[i]? = some el → el = (l.drop (i * n)).take n
  | 0, l, i, el, h => by simp [chunks] at h
  | k + 1, l, 0, el, h => by simp [chunks] at h; simp [h]
  | k + 1, l, i + 1, el, h => by
    simp only [chunks, List.getElem?_cons_succ] at h
    rw [chunks_get n k _ i el h, List.drop_drop]
    congr 2
    rw [Nat.add_mul]; omega

theorem chunks_length (n : Nat) : ∀ (k : Nat) (l : List PV), (chunks n l k).length = k
  | 0, l => rfl
  | k + 1, l => by simp [chunks, chunks_length n k]

theorem chunks_all (n : Nat) : ∀ (k : Nat) (l : List PV), l.length = k * n → ∀ el ∈ chunks n l k, el.length = n
  | 0, l, _, el, h => by simp [chunks] at h
  | k + 1, l, hl, el, h => by
    simp only [chunks, List.mem_cons] at h
    rw [Nat.add_mul] at hl
    rcases h with rfl | h
    · simp; omega
    · exact chunks_all n k _ (by simp; omega) el h

theorem reps_ok : ∀ (n : Nat) {z : List CV} {zs : List Value}, All2 (RN G) z zs → All2 (RN G) (reps z n) ((List.range (n * zs.length)).map fun i => zs[i % zs.length]!)
  | 0, z, zs, h => by simp [reps]; exact .nil
  | n + 1, z, zs, h => by
    have ih := reps_ok n h
    simp only [reps]
    have e : (List.range ((n + 1) * zs.length)).map (fun i => zs[i % zs.length]!) = zs ++ (List.range (n * zs.length)).map fun i => zs[i % zs.length]! := by
      rw [Nat.add_mul, Nat.one_mul, Nat.add_comm, List.range_add, List.map_append, List.map_map]
      congr 1
      · apply List.ext_getElem?
        intro i
        by_cases hi : i < zs.length
        · simp [hi, Nat.mod_eq_of_lt hi]
        · simp [hi]
      · apply List.map_congr_left
        intro i _
        simp
    rw [e]
    exact h.append ih

theorem buildSlice_ok {t : TypeId} {len : Nat} {parts : List (Nat × AV)} {parts' : Array (Nat × Value)} (h : absBuildSlice P t len parts = some v) (hf : FR G w S a) (hw : WI G w) (hp : All2 (RPart G w) parts parts'.toList) :
    ∃ x w' G', (Instr.buildSlice t len parts').run P w = .ok x w' ∧ Step G w S a dst v none [] x G' w' := by
  unfold absBuildSlice at h
  split at h
  case h_2 => cases h
  rename_i e hu
  split at h
  case h_2 => cases h
  rename_i n z hn hz
  split at h
  case isFalse => cases h
  rename_i hc
  obtain ⟨hzl, hpos, hlim⟩ := hc
  split at h
  case h_2 => cases h
  rename_i l hl
  split at h
  case h_2 => cases h
  rename_i ps hps
  cases h
  obtain ⟨i, zv, hi, hzz, hzrun, hzlen, hzcells⟩ := zeroCells_inv (G := G) (w := w) hz
  have hsz : zv.cells.size = n := by rw [← hzlen, hzl]
  have hreps := reps_ok len hzcells
  simp only [Array.length_toList, hsz] at hreps
  obtain ⟨cs', h1, h2⟩ := fill_ok (G := G) (w := w) (place' := fun i => some (i * n, n)) (cs := ((Array.range (len * n)).map (zv.cells[· % n]!))) (fun _ => rfl) hl hp (by
    have e : ((Array.range (len * n)).map (zv.cells[· % n]!)).toList = (List.range (len * n)).map fun i => zv.cells.toList[i % n]! := by
      simp only [Array.toList_map, Array.toList_range]
      apply List.map_congr_left
      intro i _
      have : i % n < zv.cells.size := by rw [hsz]; exact Nat.mod_lt _ hpos
      simp [this]
    rw [e]; exact hreps)
  have hlen : l.length = len * n := by
    have hfl : ∀ (parts : List (Nat × AV)) (cells l : List CV), fillCells (fun i => some (i * n, n)) cells parts = some l → l.length = cells.length := by
      intro parts
      induction parts with
      | nil => intro cells l h; simp [fillCells] at h; rw [h]
      | cons p parts ih =>
        intro cells l h
        obtain ⟨i, x⟩ := p
        unfold fillCells at h
        split at h
        case h_2 => cases h
        rename_i off size vs ho hvs
        split at h
        case isFalse => cases h
        rename_i hcc
        rw [ih _ _ h, setAt_length _ _ _ hcc.2]
    have hr : (reps z len).length = len * n := by rw [hreps.length]; simp
    rw [hfl _ _ _ hl, hr]
  have hall := pvs_RP hps h2
  have hpl : ps.length = len * n := by
    rw [hall.length, ← h2.length, hlen]
  have hcsz : cs'.size = len * n := by rw [← Array.length_toList, ← h2.length, hlen]
  have hrun : (Instr.buildSlice t len parts').run P w = .ok (.slice (some ⟨w.heap.size, 0, none⟩) len len) (w.alloc (.cells cs' e)) := by
    have hl24 : ¬ (16777216 < len * n) := by omega
    by_cases h0 : len * n = 0
    · have hl0 : len = 0 := by rcases Nat.mul_eq_zero.1 h0 with h | h; exact h; omega
      subst hl0
      have he : ∀ f : Nat → Value, (Array.range (0 * n)).map f = #[] := fun f => by apply Array.ext'; simp
      rw [he] at h1
      simp only [Instr.buildSlice, Sem.run_bind, run_underlying hu, run_sizeOf' hn, Result.andThen_ok, he, h1]
      simp [newRow]
    · simp [Instr.buildSlice, run_underlying hu, run_sizeOf' hn, hl24, h0, hzrun, hsz, h1, newRow]
  obtain ⟨g, hw'⟩ := newRow_gr hw (cs := cs') (ty := e) (fz := (0, 0)) (f := fun k => cs'[k]?) (o := dst.map Own.slot) (fun k y h => h) (fun s => by cases dst <;> simp)
  refine ⟨_, _, _, hrun, Step.of_gr hf hw g hw' (fun d hd => ?_) (fun _ h => h.elim) (fun s l hl => .inl ⟨hl, fun h => h, fun _ h => h⟩) (fun s hs hlk => hf.nob s hs hlk)⟩
  subst hd
  by_cases h0 : len = 0
  · subst h0; exact .inl ⟨rfl, _, rfl, .inr ⟨w.heap.size, cs', e, rfl, by simp [Gh.row, upd], heap_alloc_new w _⟩⟩
  · have hcl := chunks_length n len ps
    refine .inr ⟨fun e => by rw [e] at hcl; simp at hcl; omega, w.heap.size, len, cs', n, by rw [hcl], by simp [Gh.row, upd], heap_alloc_new w _, by omega, by rw [hcsz], hpos, chunks_all n len ps hpl, fun i el j p hi hj => ?_, fun o ho => ?_⟩
    · have hel := chunks_get n len ps i el hi
      rw [hel, List.getElem?_take] at hj
      split at hj
      case isFalse => cases hj
      rw [List.getElem?_drop] at hj
      obtain ⟨y, hy1, hy2⟩ := hall.get hj
      refine ⟨y, ?_, hy2.mono g.ext.I⟩
      show (if w.heap.size = w.heap.size then _ else _) = _
      rw [if_pos rfl]
      simpa using hy1
    · show (if w.heap.size = w.heap.size then _ else _) = _
      rw [if_pos rfl, hcl] at *
      simp [hcsz]; exact ho
end
end Go.Abs
