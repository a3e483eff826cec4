/-
  THE ABSTRACT INTERPRETER: 'x.f = append(x.f, y[i])', whose last operations come in an order that is drawn: a zero element is appended, the true one stored into it, the header stored: before or behind.
-/
import Derived.Test.YtcnodcgdceoijaaDoorAbsAny
set_option linter.unusedSimpArgs false
set_option linter.unusedVariables false
namespace Go.Abs
open Go

section
variable {P : Program} {G G' : Gh} {w w' : World} {S : St} {a : Act} {x y : Value}

/-- a slice that is about to get one element more: its header counts it, its cells have room for it -/
structure Pend (G : Gh) (w : World) (ℓ : Own) (e : TypeId) (sz : Nat) (c : List (List PV)) (b cap : Nat) : Prop where
  ow : G.ow b = some ℓ
  row : ∃ cur, w.heap[b]? = some (.cells cur e (0, 0)) ∧ cap * sz = cur.size
  cap : c.length + 1 ≤ cap
  pos : 0 < sz
  szs : ∀ el ∈ c, el.length = sz
  seg : Seg G.I b 0 sz c
  free : ∀ o, c.length * sz ≤ o → G.I b o = none

theorem Pend.gr {ch : Own → Prop} {ℓ : Own} {e : TypeId} {sz : Nat} {c : List (List PV)} {b cap : Nat} (h : Pend G w ℓ e sz c b cap) (g : Gr ch G w G' w') (hc : ¬ ch ℓ) : Pend G' w' ℓ e sz c b cap := by
  obtain ⟨k1, k2, k3⟩ := g.keep b ℓ h.ow hc
  obtain ⟨cur, h1, h2⟩ := h.row
  exact ⟨k1, ⟨cur, k2.trans h1, h2⟩, h.cap, h.pos, h.szs, h.seg.mono g.ext.I, fun o ho => (k3 o).trans (h.free o ho)⟩

theorem touch_gr (hw : WI G w) {ℓ ℓ' : Own} {b : Nat} {cur new : Array Value} {e : TypeId} (hg : w.heap[b]? = some (.cells cur e (0, 0))) (ho : G.ow b = some ℓ) (hℓ : ∀ s, ℓ ≠ .box s) (hℓ' : ∀ s, ℓ' ≠ .box s)
    (hkeep : ∀ k y, G.I b k = some y → new[k]? = some y) : Gr (fun o => o = ℓ) G w (G.give b ℓ') (w.setRow b new) ∧ WI (G.give b ℓ') (w.setRow b new) := by
  obtain ⟨g, hw'⟩ := give_gr (ℓ' := ℓ') hw ho hℓ hℓ'
  refine ⟨⟨⟨g.ext.I, fun c hc hn => ⟨(g.ext.old c hc hn).1, setRow_other w b c new (fun e => by rw [e, ho] at hn; cases hn), fun _ => rfl⟩, by rw [setRow_size]; exact Nat.le_refl _, rfl, rfl, rfl, fun _ _ => rfl⟩, g.bb,
    fun c m hm hne => ⟨(g.keep c m hm hne).1, setRow_other w b c new (fun e => hne (by rw [e, ho] at hm; exact (Option.some.inj hm).symm)), fun _ => rfl⟩⟩,
    ⟨fun c k y h => ?_, fun c hc => hw'.fresh c (by rw [setRow_size] at hc; exact hc), hw'.boxI, hw'.bbow, hw.tab.map fun c hc hn => ⟨(g.ext.old c hc hn).1, setRow_other w b c new (fun e => by rw [e, ho] at hn; cases hn)⟩⟩⟩
  have h' : G.I c k = some y := h
  by_cases hcb : c = b
  · subst hcb
    rw [setRow_cell_same hg]; exact hkeep k y h'
  · rw [cell_setRow_other w b new ⟨c, k, none⟩ hcb]; exact hw.cell c k y h'

theorem pend_new (hw : WI G w) {c : List (List PV)} {ys : List Value} {arr : Array Value} {e : TypeId} {sz cap : Nat} {ℓ : Own} (hpos : 0 < sz) (hsz : ∀ el ∈ c, el.length = sz) (hys : All2 (RP G.I) c.flatten ys)
    (harr : ∀ (k : Nat) (y : Value), ys[k]? = some y → arr[k]? = some y) (hcap : c.length + 1 ≤ cap) (hsize : cap * sz = arr.size) (hℓ : ∀ s, ℓ ≠ .box s) :
    ∃ G', Gr (fun _ => False) G w G' (w.alloc (.cells arr e)) ∧ WI G' (w.alloc (.cells arr e)) ∧ G'.bb = G.bb ∧ Pend G' (w.alloc (.cells arr e)) ℓ e sz c w.heap.size cap := by
  have hl := flat_length sz c hsz
  have hyl : ys.length = c.length * sz := by rw [← hys.length, hl]
  obtain ⟨g, hw'⟩ := newRow_gr hw (cs := arr) (ty := e) (fz := (0, 0)) (f := fun k => ys[k]?) (o := some ℓ) harr (fun s h => hℓ s (Option.some.inj h))
  refine ⟨_, g, hw', rfl, by simp [Gh.row, upd], ⟨arr, heap_alloc_new w _, hsize⟩, hcap, hpos, hsz, ?_, fun o ho => ?_⟩
  · refine seg_of_vals hsz (ys := ys) (fun k y h => ?_) (hys.imp fun p y _ h => h.mono g.ext.I)
    show (if w.heap.size = w.heap.size then _ else _) = _
    rw [if_pos rfl, Nat.zero_add]; exact h
  · show (if w.heap.size = w.heap.size then _ else _) = _
    rw [if_pos rfl, List.getElem?_eq_none (by omega)]

theorem pushHead_content {v : AV} {ca : List (List PV)} (h : pushHead v = some ca) : content v = some ca := by
  unfold pushHead at h
  split at h <;> first | exact h | cases h

theorem Gr.weaken {ch ch' : Own → Prop} (g : Gr ch G w G' w') (h : ∀ o, ch o → ch' o) : Gr ch' G w G' w' := ⟨g.ext, g.bb, fun b ℓ hb hn => g.keep b ℓ hb fun hc => hn (h ℓ hc)⟩

theorem push_append {t e ty : TypeId} {s d : Nat} {X v0 : AV} {ca : List (List PV)} {pl : List PV} {ℓ : Own} {sz : Nat} (ht : P.underlying t = some (.slice e)) (h : absAppend P [t, t] (S.sl s) X = some v0) (hca : pushHead (S.sl s) = some ca)
    (hpl : content X = some [pl]) (hs : szOf P e = some sz) (hf : FR G w S a) (hw : WI G w) (hX : RA G w ℓ X y) :
    ∃ w' G' b cap, (Builtin.append_ #[t, t] ty #[a.tmps.getD s undef, y]).run P w = .ok (.slice (some ⟨b, 0, none⟩) (ca.length + 1) cap) w' ∧ Gr (fun o => o = .slot s) G w G' w' ∧ WI G' w' ∧ G'.bb = G.bb ∧ Pend G' w' (.slot d) e sz ca b cap := by
  unfold absAppend at h
  simp only [ht] at h
  split at h
  case h_1 => cases h
  case h_3 => cases h
  rename_i c1 cb i hc1 hcb hi hnp
  have e1 := pushHead_content hca
  rw [e1] at hc1
  cases hc1
  have e2 : cb = [pl] := by
    simp only [appNew, ht, hpl] at hcb
    exact (Option.some.inj hcb).symm
  subst e2
  have hsi : sz = i.size := by
    unfold szOf at hs; rw [hi] at hs; exact (Option.some.inj hs).symm
  subst hsi
  split at h
  case isFalse => cases h
  rename_i hcond
  obtain ⟨hlim, hby, hpos, hz, hsa, hsb, hot⟩ := hcond
  have hsa' : ∀ el ∈ ca, el.length = i.size := fun el hel => by simpa using List.all_eq_true.1 hsa el hel
  have hsb' : ∀ el ∈ [pl], el.length = i.size := fun el hel => by simpa using List.all_eq_true.1 hsb el hel
  cases hzz : i.zero with
  | none => simp [hzz] at hz
  | some z =>
  have hzs : z.cells.size = i.size := by simpa [hzz] using hz
  obtain ⟨hu, news, hnews, hnall⟩ := appNew_ok hcb hw hX hpos hsb'
  have A : AppT P t t e i z := ⟨ht, hu, hi, hzz, hzs, hpos, hby⟩
  have hS := hf.slot s
  have hnl : news.length = i.size := by rw [← hnall.length, flat_length _ _ hsb']; simp
  have hnews : Brings P w i.size 1 y news := by simpa using hnews
  -- a new row, with what there was
  have newrow : ∀ (ad : Option Addr) (cap : Nat) (olds : List Value), a.tmps.getD s undef = .slice ad ca.length cap → (Builtin.firstCells i.size ca.length (.slice ad ca.length cap)).run P w.drew = .ok olds.toArray w.drew → All2 (RP G.I) ca.flatten olds → cap < ca.length + 1 →
      ∃ w' G' b cap', (Builtin.append_ #[t, t] ty #[a.tmps.getD s undef, y]).run P w = .ok (.slice (some ⟨b, 0, none⟩) (ca.length + 1) cap') w' ∧ Gr (fun o => o = .slot s) G w G' w' ∧ WI G' w' ∧ G'.bb = G.bb ∧ Pend G' w' (.slot d) e i.size ca b cap' := by
    intro ad cap olds he hold hos hcap
    rw [he]
    have hrun := run_append_new (ty := ty) A (ad := ad) (n := ca.length) (m := 1) (cap := cap) hnews hold hcap (by simpa using hlim)
    obtain ⟨gd, hwd⟩ := drew_gr hw
    have hge := grownCap_ge w (ca.length + 1) cap e
    have hol : olds.length = ca.length * i.size := by rw [← hos.length, flat_length _ _ hsa']
    obtain ⟨G', g, hw', hbb, hp⟩ := pend_new (w := w.drew) (ℓ := .slot d) (c := ca) (ys := olds) (arr := olds.toArray ++ news.toArray ++ Builtin.zeroCells z.cells (grownCap w (ca.length + 1) cap e - (ca.length + 1))) (e := e) (cap := grownCap w (ca.length + 1) cap e) hwd hpos hsa' hos
      (fun k y hk => by
        have hlt := (List.getElem?_eq_some_iff.1 hk).1
        rw [Array.append_assoc, Array.getElem?_append_left (by simpa using hlt)]; simpa using hk) hge
      (by
        simp only [Array.size_append, List.size_toArray, size_zeroCells', hzs, hnl, hol]
        rw [← Nat.succ_mul, ← Nat.add_mul]
        congr 1; omega) (by simp)
    exact ⟨_, G', _, _, hrun, (gd.trans g).weaken (fun o h => by simp at h), hw', hbb, hp⟩
  have hcases : (∃ ad, a.tmps.getD s undef = .slice ad 0 0 ∧ ca = []) ∨ (ca ≠ [] ∧ OwnAt G w (.slot s) e ca (a.tmps.getD s undef)) := by
    unfold pushHead at hca
    split at hca
    · rename_i e' c' heq
      cases hca
      rw [heq] at hS
      have hS' : OwnAt G w (.slot s) e' ca (a.tmps.getD s undef) := hS
      rcases hS' with ⟨h1, ad, h2, h3⟩ | h1
      · exact .inl ⟨ad, h2, h1⟩
      · have hee : e' = e := by
          rw [heq] at hot
          rcases hot with hot | hot | hot
          · cases hot
          · exact Option.some.inj hot
          · exact absurd (by simpa using hot) h1.1
        subst hee
        exact .inr ⟨h1.1, .inr h1⟩
    · rename_i heq
      cases hca
      rw [heq] at hS
      exact .inl ⟨none, hS, rfl⟩
    · cases hca
  rcases hcases with ⟨ad, h1, rfl⟩ | ⟨hne, hown⟩
  · exact newrow ad 0 [] h1 (by cases ad <;> simp [Builtin.firstCells, loadCells, loadCellsFrom]) .nil (by simp)
  · rcases hown with ⟨h0, _⟩ | ⟨_, b, cap, cur, sz, hx, how, hheap, hcap, hcur, hsz0, hszs, hseg, hfree⟩
    · exact absurd h0 hne
    have hsz : sz = i.size := by
      cases ca with
      | nil => exact absurd rfl hne
      | cons el c => rw [← hszs el (by simp), hsa' el (by simp)]
    subst hsz
    obtain ⟨ys, hy1, hy2, hy3⟩ := seg_vals hpos hsa' hseg
    by_cases hroom : ca.length + 1 ≤ cap
    · rw [hx]
      have hfit : ca.length * i.size + news.length ≤ cur.size := by rw [hnl, ← hcur, ← Nat.succ_mul]; exact Nat.mul_le_mul_right _ hroom
      have hrun := run_append_in (ty := ty) A (g := b) (n := ca.length) (m := 1) (cap := cap) hnews hheap hroom hfit (fields_one hnall)
      obtain ⟨g, hw'⟩ := touch_gr (ℓ' := .slot d) (new := (cur.toList.take (ca.length * i.size) ++ news ++ cur.toList.drop (ca.length * i.size + news.length)).toArray) hw hheap how (by simp) (by simp) (fun k y hk => by
        have hlt : k < ca.length * i.size := by
          rcases Nat.lt_or_ge k (ca.length * i.size) with h | h
          · exact h
          · rw [hfree k h] at hk; cases hk
        rw [setArr_get _ _ _ hfit, if_neg (by omega)]
        have := hw.cell b k y hk
        rw [cell_of_heap hheap] at this; exact this)
      refine ⟨_, _, b, cap, hrun, g, hw', rfl, by simp [Gh.give, upd], ⟨_, setRow_heap w b cur _ e _ hheap, by rw [setArr_size _ _ _ hfit]; exact hcur⟩, hroom, hpos, hsa', hseg, hfree⟩
    · refine newrow _ cap ys hx ?_ hy3 (by omega)
      refine run_firstCells_some (P := P) w.drew i.size ca.length ⟨b, 0, none⟩ ca.length cap ys hy1 fun j y hj => ?_
      have hadd : (⟨b, 0, none⟩ : Addr).add j = ⟨b, 0 + j, none⟩ := by simp only [Addr.add]; split <;> simp_all
      rw [hadd]
      exact (drew_gr hw).2.cell _ _ _ (hy2 j y hj)

/-! ### The frame -/

theorem FR.top (h : FR G w S a) (l : List Nat) : FR G w { S with sl := topAt S.sl l } a :=
  ⟨h.size, fun t => by show RA G w _ (topAt S.sl l t) _; unfold topAt; split; exact trivial; exact h.slot t, h.box, h.nob⟩

theorem FR.gr_slot (h : FR G w S a) (hw : WI G w) {d : Nat} (g : Gr (fun ℓ => ℓ = .slot d) G w G' w') (hbb : G'.bb = G.bb) (ht : S.sl d = .c .top) : FR G' w' S a :=
  ⟨h.size, fun t => by
    by_cases htd : t = d
    · subst htd; rw [ht]; exact trivial
    · exact (h.slot t).gr g (fun e => htd (by cases e; rfl)), fun s l hl => (h.box s l hl).gr hw g (by simp) (by simp), fun s hs hlk => by rw [hbb]; exact h.nob s hs hlk⟩

theorem FR.put_top (h : FR G w S a) {d : Nat} (ht : S.sl d = .c .top) (z : Value) : FR G w S (a.put (some d) z) :=
  ⟨by simpa [Act.put] using h.size, fun t => by
    rw [Act.getD_put]
    by_cases htd : t = d
    · subst htd; rw [ht]; exact trivial
    · rw [if_neg (fun e => htd e.1)]; exact h.slot t, h.box, h.nob⟩

/-- the header is stored -/
theorem hdr_store (hf : FR G w S a) (hw : WI G w) {bs bP off : Nat} {cells : List CV} (hbx : S.bx bs = some cells) (hbb : G.bb bs = some bP) (hlt : off < cells.length) {v : Value} (hv : v.oneCell' = true) {t : TypeId} (hs : szOf P t = some 1) :
    ∃ w', (Instr.storeAt t (.pointer (some ⟨bP, off, none⟩)) v).run P w = .ok () w' ∧ Gr (fun ℓ => ℓ = .box bs) G w G w' ∧ WI G w' ∧ FR G w' { S with bx := upd S.bx bs (some (setAt cells off [.top])) } a ∧ ∃ cs ty, w'.heap[bP]? = some (.cells cs ty (0, 0)) ∧ cs[off]? = some v := by
  obtain ⟨b', cs, ty, hb', hh, ⟨hcs, hbl⟩, hcells⟩ := hf.box bs cells hbx
  rw [hbb] at hb'; cases hb'
  have hfit : off + [v].length ≤ cs.size := by simp; omega
  have hrun := run_storeAt (P := P) (t := t) (xs := [v]) hh (cells_one hv) hs hfit (by simpa using hv)
  obtain ⟨g, hw'⟩ := setRow_gr hw (s := bs) hbb hh (new := (cs.toList.take off ++ [v] ++ cs.toList.drop (off + [v].length)).toArray)
  refine ⟨_, hrun, g, hw', ⟨hf.size, fun t => (hf.slot t).gr g (by simp), fun s l hl => ?_, fun s hs hlk => ?_⟩, _, ty, setRow_heap w bP cs _ ty _ hh, ?_⟩
  · have hl' : upd S.bx bs (some (setAt cells off [.top])) s = some l := hl
    unfold upd at hl'
    split at hl'
    · rename_i he
      subst he
      cases hl'
      refine ⟨bP, _, ty, hbb, setRow_heap w bP cs _ ty _ hh, ⟨by rw [setArr_size _ _ _ hfit, setAt_length _ _ _ (by simp; omega), hcs], fun e => ?_⟩, fun k u hu => ?_⟩
      · rw [setAt_one _ _ _ hlt] at e
        split at e
        · cases e
        · exact hbl e
      · rw [setAt_one _ _ _ hlt] at hu
        rw [setArr_get _ _ _ hfit]
        split at hu
        · rename_i hk
          subst hk
          cases hu
          rw [if_pos (by simp)]
          exact ⟨v, by simp, hv⟩
        · rename_i hk
          rw [if_neg (by simp; omega)]
          obtain ⟨z, h1, h2⟩ := hcells _ _ hu
          exact ⟨z, h1, h2.gr g (by simp)⟩
    · rename_i he
      exact (hf.box s l hl').gr hw g (fun e => he (by cases e; rfl)) (by simp)
  · have hs' : upd S.bx bs (some (setAt cells off [.top])) s = none := hs
    unfold upd at hs'
    split at hs'
    · cases hs'
    · exact hf.nob s hs' hlk
  · rw [setArr_get _ _ _ hfit, if_pos (by simp)]; simp

/-- the element is stored -/
theorem elem_store (hf : FR G w S a) (hw : WI G w) {d b cap sz : Nat} {e : TypeId} {ca : List (List PV)} {ps : List PV} (ht : S.sl d = .c .top) (hp : Pend G w (.slot d) e sz ca b cap) {v : Value} {xs : List Value} (hc : v.cells = xs.toArray) (hxs : All2 (RP G.I) ps xs) (hl : ps.length = sz) (hs : szOf P e = some sz) :
    ∃ w' G', (Instr.storeAt e (.pointer (some ⟨b, ca.length * sz, none⟩)) v).run P w = .ok () w' ∧ Gr (fun ℓ => ℓ = .slot d) G w G' w' ∧ WI G' w' ∧ FR G' w' S a ∧ G'.bb = G.bb ∧ OwnAt G' w' (.slot d) e (ca ++ [ps]) (.slice (some ⟨b, 0, none⟩) (ca.length + 1) cap) := by
  obtain ⟨cur, hrow, hcur⟩ := hp.row
  have hxl : xs.length = sz := by rw [← hxs.length, hl]
  have hfit : ca.length * sz + xs.length ≤ cur.size := by rw [hxl, ← hcur, ← Nat.succ_mul]; exact Nat.mul_le_mul_right _ hp.cap
  have hone := fields_one hxs
  have hrun := run_storeAt (P := P) (t := e) (xs := xs) hrow hc (by rw [hxl]; exact hs) hfit hone
  obtain ⟨g, hw'⟩ := extRow_gr (ℓ' := .slot d) hw hrow hfit hp.ow (by simp) (by simp) hp.free
  have hlens : ∀ el ∈ ca ++ [ps], el.length = sz := fun el hel => by
    rcases List.mem_append.1 hel with h | h
    · exact hp.szs el h
    · simp at h; subst h; exact hl
  refine ⟨_, _, hrun, g, hw', hf.gr_slot hw g rfl ht, rfl, .inr ⟨by simp, b, cap, _, sz, by simp, by simp [Gh.ext, upd], setRow_heap w b cur _ e _ hrow, by simpa using hp.cap, by rw [setArr_size _ _ _ hfit]; exact hcur, hp.pos, hlens, ?_, fun o ho => ?_⟩⟩
  · obtain ⟨ys, hy1, hy2, hy3⟩ := seg_vals hp.pos hp.szs hp.seg
    refine seg_of_vals hlens (ys := ys ++ xs) (fun k y hk => ?_) ?_
    · show (if b = b ∧ ca.length * sz ≤ 0 + k ∧ 0 + k < ca.length * sz + xs.length then xs[0 + k - ca.length * sz]? else G.I b (0 + k)) = _
      by_cases hlt : k < ys.length
      · rw [List.getElem?_append_left hlt] at hk
        rw [if_neg (by omega)]; exact hy2 k y hk
      · rw [List.getElem?_append_right (by omega)] at hk
        have hkl := (List.getElem?_eq_some_iff.1 hk).1
        rw [if_pos ⟨rfl, by omega, by omega⟩, ← hk]
        congr 1; omega
    · rw [List.flatten_append]
      exact (hy3.append (by simpa using hxs)).imp fun p y _ h => h.mono g.ext.I
  · show (if b = b ∧ ca.length * sz ≤ o ∧ o < ca.length * sz + xs.length then xs[o - ca.length * sz]? else G.I b o) = none
    rw [List.length_append, Nat.add_mul] at ho
    simp at ho
    rw [if_neg (by omega)]; exact hp.free o (by omega)
end

/-! ### What the last six operations are -/

section
variable {o : Oper}

theorem appOf_inv {s l d t : Nat} (h : appOf o = some (s, l, d, t)) : (∃ c, o.op = .call c ∧ c.callee = .builtin .append ∧ c.args = #[.tmp s, .tmp l] ∧ c.argTypes = #[t, t]) ∧ o.dst = some d ∧ o.guard = none := by
  unfold appOf at h
  split at h
  · rename_i c d' h1 h2 h3
    split at h
    · rename_i s' l' t' u h4 h5 h6
      split at h
      · rename_i e
        subst e
        cases h
        exact ⟨⟨c, h1, h4, Array.toList_inj.1 h5, Array.toList_inj.1 h6⟩, h2, h3⟩
      · cases h
    · cases h
  · cases h

theorem ixOf_inv {t x n d : Nat} (h : ixOf o = some (t, x, n, d)) : o.op = .indexAddr t (.tmp x) (.tmp n) ∧ o.dst = some d ∧ o.guard = none := by
  unfold ixOf at h
  split at h
  · rename_i h1 h2 h3; cases h; exact ⟨h1, h2, h3⟩
  · cases h

theorem stOf_inv {t x v : Nat} (h : stOf o = some (t, x, v)) : o.op = .store t (.tmp x) (.tmp v) ∧ o.dst = none ∧ o.guard = none := by
  unfold stOf at h
  split at h
  · rename_i h1 h2 h3; cases h; exact ⟨h1, h2, h3⟩
  · cases h

theorem ncOf_inv {x d : Nat} (h : ncOf o = some (x, d)) : o.op = .nilCheck (.tmp x) ∧ o.dst = some d ∧ o.guard = none := by
  unfold ncOf at h
  split at h
  · rename_i h1 h2 h3; cases h; exact ⟨h1, h2, h3⟩
  · cases h

theorem faOf_inv {t x f d : Nat} (h : faOf o = some (t, x, f, d)) : o.op = .fieldAddr t (.tmp x) f ∧ o.dst = some d ∧ o.guard = none := by
  unfold faOf at h
  split at h
  · rename_i h1 h2 h3; cases h; exact ⟨h1, h2, h3⟩
  · cases h

theorem pushOf_inv {l : List Oper} {x : Push} (h : pushOf l = some x) : ∃ A I W N F H, l = [A, I, W, N, F, H] ∧ appOf A = some (x.s, x.l, x.d, x.t) ∧ ixOf I = some (x.t, x.d, x.n, x.i) ∧ stOf W = some (x.e, x.i, x.v) ∧ ncOf N = some (x.p, x.q) ∧
    faOf F = some (x.st, x.q, x.fld, x.r) ∧ stOf H = some (x.t, x.r, x.d) ∧ allNe [x.d, x.i, x.q, x.r, x.n] = true ∧ allNe [x.d, x.i, x.q, x.r, x.v] = true ∧ allNe [x.d, x.i, x.q, x.r, x.p] = true := by
  unfold pushOf at h
  split at h
  case h_2 => cases h
  rename_i A I W N F H
  split at h
  case h_2 => cases h
  rename_i h1 h2 h3 h4 h5 h6
  split at h
  case isFalse => cases h
  rename_i hc
  obtain ⟨rfl, rfl, rfl, rfl, rfl, rfl, rfl, hn⟩ := hc
  cases h
  exact ⟨A, I, W, N, F, H, rfl, h1, h2, h3, h4, h5, h6, hn⟩
end

section
variable {P : Program} {ops : List Oper} {Q : Exit → Act → World → Prop} {a : Act} {w w' : World} {N : Act → World → Prop} {o : Oper} {i : Nat}

theorem wpOp_value {z : Value} (ho : ops[i]? = some o) (hg : o.guard = none) (hr : (execOp a.eval o).run P w = .ok (.value z) w') (hk : N (a.put o.dst z) w') : wpOp P ops.toArray Q i N a w := by
  unfold wpOp
  have : ops.toArray[i]? = some o := by simpa using ho
  simp only [this]
  rw [if_pos (by simp [Region.wanted, hg])]
  refine .inl ?_
  unfold Oper.wp
  rw [hr, Oper.upon_value]; exact hk

theorem wpOp_skip (ho : ops[i]? = some o) (hg : o.guard = none) (hr : (execOp a.eval o).run P w = .ok .skip w') (hk : N (a.put o.dst undef) w') : wpOp P ops.toArray Q i N a w := by
  unfold wpOp
  have : ops.toArray[i]? = some o := by simpa using ho
  simp only [this]
  rw [if_pos (by simp [Region.wanted, hg])]
  refine .inl ?_
  unfold Oper.wp
  rw [hr, Oper.upon_skip]; exact hk

theorem pushL_i (m : Nat) {i j : Nat} (hi : i < 2) : (pushL m true i j).setIfInBounds (m + 1 + i) true = pushL m true (i + 1) j := by
  unfold pushL
  apply Array.ext'
  simp only [Array.toList_setIfInBounds]
  rw [List.set_append, if_neg (by simp; omega)]
  congr 1
  have : i = 0 ∨ i = 1 := by omega
  rcases this with rfl | rfl <;> simp [Nat.add_assoc, Nat.add_sub_cancel_left]

theorem pushL_j (m : Nat) {i j : Nat} (hj : j < 3) : (pushL m true i j).setIfInBounds (m + 3 + j) true = pushL m true i (j + 1) := by
  unfold pushL
  apply Array.ext'
  simp only [Array.toList_setIfInBounds]
  rw [List.set_append, if_neg (by simp; omega)]
  congr 1
  have : j = 0 ∨ j = 1 ∨ j = 2 := by omega
  rcases this with rfl | rfl | rfl <;> simp [Nat.add_assoc, Nat.add_sub_cancel_left]

theorem pushL_a (m : Nat) : (pushL m false 0 0).setIfInBounds m true = pushL m true 0 0 := by
  unfold pushL
  apply Array.ext'
  simp only [Array.toList_setIfInBounds]
  rw [List.set_append, if_neg (by simp)]
  simp
end

section
variable {K : Cfg} {ops : List Oper} {Q : Exit → Act → World → Prop} {S S2 S3 : St}

/-- where the last five stand: 'i' of the row of the element, 'j' of the row of the header are done -/
structure PI (x : Push) (ca : List (List PV)) (ps : List PV) (sz bs off0 off bP b cap : Nat) (S2 S3 : St) (G0 : Gh) (w0 : World) (df : List Deferred) (i j : Nat) (G : Gh) (a : Act) (w : World) : Prop where
  ext : Ext G0 w0 G w
  wi : WI G w
  fr : FR G w (if j = 3 then S3 else S2) a
  df : a.defers = df
  hd : a.tmps.getD x.d undef = .slice (some ⟨b, 0, none⟩) (ca.length + 1) cap
  hn : ∃ k, a.tmps.getD x.n undef = .int k ca.length
  hv : ∃ xs : List Value, (a.tmps.getD x.v undef).cells = xs.toArray ∧ All2 (RP G.I) ps xs
  hp : a.tmps.getD x.p undef = .pointer (some ⟨bP, off0, none⟩)
  hbb : G.bb bs = some bP
  hi : 1 ≤ i → a.tmps.getD x.i undef = .pointer (some ⟨b, ca.length * sz, none⟩)
  hq : 1 ≤ j → a.tmps.getD x.q undef = .pointer (some ⟨bP, off0, none⟩)
  hr : 2 ≤ j → a.tmps.getD x.r undef = .pointer (some ⟨bP, off, none⟩)
  pend : i < 2 → Pend G w (.slot x.d) x.e sz ca b cap
  own : 2 ≤ i → OwnAt G w (.slot x.d) x.e (ca ++ [ps]) (.slice (some ⟨b, 0, none⟩) (ca.length + 1) cap)
  hdr : 3 ≤ j → ∃ cs ty, w.heap[bP]? = some (.cells cs ty (0, 0)) ∧ cs[off]? = some (.slice (some ⟨b, 0, none⟩) (ca.length + 1) cap)

theorem allNe5 {a b c d e : Nat} (h : allNe [a, b, c, d, e] = true) : a ≠ b ∧ a ≠ c ∧ a ≠ d ∧ a ≠ e ∧ b ≠ c ∧ b ≠ d ∧ b ≠ e ∧ c ≠ d ∧ c ≠ e ∧ d ≠ e := by
  simp [allNe] at h
  obtain ⟨⟨h1, h2, h3, h4⟩, ⟨h5, h6, h7⟩, ⟨h8, h9⟩, h10⟩ := h
  exact ⟨h1, h2, h3, h4, h5, h6, h7, h8, h9, h10⟩

theorem put_at (a : Act) {d t : Nat} (z : Value) (h : t ≠ d) : (a.put (some d) z).tmps.getD t undef = a.tmps.getD t undef := by
  rw [Act.getD_put, if_neg (fun e => h e.1)]
theorem put_at_same (a : Act) {d : Nat} (z : Value) (h : d < a.tmps.size) : (a.put (some d) z).tmps.getD d undef = z := by
  rw [Act.getD_put, if_pos ⟨rfl, h⟩]

theorem five_wp {x : Push} {m : Nat} {ca : List (List PV)} {ps : List PV} {sz bs off0 off bP b cap : Nat} {cells : List CV} {G0 : Gh} {w0 : World} {df : List Deferred}
    (hx : pushOf (ops.drop m) = some x) (ht : tailOK ops m = true) {e : TypeId} (hut : K.P.underlying x.t = some (.slice e)) (hee : e = x.e) (hsz : szOf K.P x.e = some ps.length) (hps : sz = ps.length) (hs1 : szOf K.P x.t = some 1)
    (hfa : absFieldAddr K.P x.st (.c (.loc bs off0)) x.fld = some (.c (.loc bs off))) (hlt : off < cells.length)
    (hS2 : ∀ t ∈ [x.d, x.i, x.q, x.r], S2.sl t = .c .top) (hnt : ∀ t ∈ [x.d, x.i, x.q, x.r], t < S2.nt) (hb2 : S2.bx bs = some cells) (hS3 : S3 = { S2 with bx := upd S2.bx bs (some (setAt cells off [.top])) })
    (hQ : ∀ a' w' G', PI x ca ps sz bs off0 off bP b cap S2 S3 G0 w0 df 2 3 G' a' w' → Q .normal a' w') :
    ∀ (k i j : Nat), i ≤ 2 → j ≤ 3 → (2 - i) + (3 - j) = k → ∀ (G : Gh) (a : Act) (w : World), PI x ca ps sz bs off0 off bP b cap S2 S3 G0 w0 df i j G a w → wpAny K.P .any ops.toArray Q k (pushL m true i j) a w := by
  obtain ⟨A, I, W, N, F, H, hl, hA, hI, hW, hN, hF, hH, hn1, hn2, hn3⟩ := pushOf_inv hx
  obtain ⟨hI1, hI2, hI3⟩ := ixOf_inv hI
  obtain ⟨hW1, hW2, hW3⟩ := stOf_inv hW
  obtain ⟨hN1, hN2, hN3⟩ := ncOf_inv hN
  obtain ⟨hF1, hF2, hF3⟩ := faOf_inv hF
  obtain ⟨hH1, hH2, hH3⟩ := stOf_inv hH
  obtain ⟨ndi, ndq, ndr, ndn, niq, nir, nin, nqr, nqn, nrn⟩ := allNe5 hn1
  obtain ⟨-, -, -, ndv, -, -, niv, -, nqv, nrv⟩ := allNe5 hn2
  obtain ⟨-, -, -, ndp, -, -, nip, -, nqp, nrp⟩ := allNe5 hn3
  have at' : ∀ (k : Nat) (o : Oper), [A, I, W, N, F, H][k]? = some o → ops[m + k]? = some o := fun k o h => by rw [← hl, List.getElem?_drop] at h; exact h
  have hready : ∀ i j, i ≤ 2 → j ≤ 3 → Region.ready .any ops.toArray (pushL m true i j) = (if i < 2 then [m + 1 + i] else []) ++ (if j < 3 then [m + 3 + j] else []) := fun i j hi hj => by
    unfold tailOK at ht
    simp only [Bool.and_eq_true] at ht
    have := List.all_eq_true.1 ht.2 i (List.mem_range.2 (by omega))
    have := List.all_eq_true.1 this j (List.mem_range.2 (by omega))
    simpa using this
  have h3 : ∀ t ∈ [x.d, x.i, x.q, x.r], ∀ j, (if j = 3 then S3 else S2).sl t = .c .top := fun t h j => by
    split
    · rw [hS3]; exact hS2 t h
    · exact hS2 t h
  have hn3' : ∀ j, (if j = 3 then S3 else S2).nt = S2.nt := fun j => by split <;> first | rw [hS3] | rfl
  intro k
  induction k with
  | zero =>
    intro i j hi hj hk G a w h
    have : i = 2 ∧ j = 3 := by omega
    obtain ⟨rfl, rfl⟩ := this
    exact ⟨by rw [hready 2 3 hi hj]; rfl, hQ a w G h⟩
  | succ k ih =>
    intro i j hi hj hk G a w h
    have hsize : ∀ t ∈ [x.d, x.i, x.q, x.r], t < a.tmps.size := fun t ht => by rw [h.fr.size, hn3']; exact hnt t ht
    refine ⟨fun e => ?_, fun y hy => ?_⟩
    · rw [hready i j hi hj] at e
      simp at e; omega
    rw [hready i j hi hj, List.mem_append] at hy
    rcases hy with hy | hy
    · split at hy
      case isFalse => simp at hy
      rename_i hi2
      simp at hy
      subst hy
      rw [pushL_i m hi2]
      have hcase : i = 0 ∨ i = 1 := by omega
      rcases hcase with rfl | rfl
      · -- the address of the element
        have hp := h.pend (by omega)
        obtain ⟨kn, hkn⟩ := h.hn
        refine wpOp_value (o := I) (z := .pointer (some ⟨b, ca.length * sz, none⟩)) (w' := w) (by rw [show m + 1 + 0 = m + 1 by omega]; exact at' 1 I rfl) hI3 ?_ ?_
        · have hadd : (⟨b, 0, none⟩ : Addr).add (ca.length * sz) = ⟨b, ca.length * sz, none⟩ := by
            simp only [Addr.add]; split <;> simp_all
          have hev1 : a.eval (.tmp x.d) = .slice (some ⟨b, 0, none⟩) (ca.length + 1) cap := h.hd
          have hev2 : a.eval (.tmp x.n) = .int kn ca.length := hkn
          have hin : (0 : Int) ≤ (ca.length : Int) ∧ (ca.length : Int) < ((ca.length + 1 : Nat) : Int) := ⟨by omega, by omega⟩
          simp only [execOp, hI1, hev1, hev2, Instr.indexAt, Sem.run_bind, asIntOf, Sem.run_pure, run_underlying hut, Result.andThen_ok, Sem.run_ite]
          rw [if_pos hin]
          simp [run_sizeOf' (show szOf K.P e = some sz by rw [hee, hps]; exact hsz), hadd]
        · rw [hI2]
          refine ih 1 j (by omega) hj (by omega) G _ w ⟨h.ext, h.wi, h.fr.put_top (h3 _ (by simp) j) _, h.df, ?_, ?_, ?_, ?_, h.hbb, fun _ => ?_, fun hh => ?_, fun hh => ?_, fun _ => hp, fun hh => by omega, h.hdr⟩
          · rw [put_at _ _ ndi]; exact h.hd
          · rw [put_at _ _ (Ne.symm nin)]; exact h.hn
          · rw [put_at _ _ (Ne.symm niv)]; exact h.hv
          · rw [put_at _ _ (Ne.symm nip)]; exact h.hp
          · exact put_at_same _ _ (hsize _ (by simp))
          · rw [put_at _ _ (Ne.symm niq)]; exact h.hq hh
          · rw [put_at _ _ (Ne.symm nir)]; exact h.hr hh
      · -- the element
        have hp := h.pend (by omega)
        obtain ⟨xs, hxc, hxs⟩ := h.hv
        obtain ⟨w', G', hrun, g, hw', hf', hbb, hown⟩ := elem_store (P := K.P) h.fr h.wi (h3 x.d (by simp) j) hp hxc hxs hps.symm (by rw [hps]; exact hsz)
        refine wpOp_skip (o := W) (w' := w') (by rw [show m + 1 + 1 = m + 2 by omega]; exact at' 2 W rfl) hW3 ?_ ?_
        · have hev1 : a.eval (.tmp x.i) = .pointer (some ⟨b, ca.length * sz, none⟩) := h.hi (by omega)
          have hev2 : a.eval (.tmp x.v) = a.tmps.getD x.v undef := rfl
          simp only [execOp, hW1, hev1, hev2, Sem.run_bind, hrun, Result.andThen_ok, Sem.run_pure]
        · rw [hW2]
          have hne : 3 ≤ j → ∃ cs ty, w'.heap[bP]? = some (.cells cs ty (0, 0)) ∧ cs[off]? = some (.slice (some ⟨b, 0, none⟩) (ca.length + 1) cap) := fun hh => by
            obtain ⟨cs, ty, h1, h2⟩ := h.hdr hh
            have := (g.keep bP _ (h.wi.bbow bs bP h.hbb) (by simp)).2.1
            exact ⟨cs, ty, this.trans h1, h2⟩
          exact ih 2 j (by omega) hj (by omega) G' _ w' ⟨h.ext.trans g.ext, hw', hf', h.df, h.hd, h.hn, ⟨xs, hxc, hxs.imp fun _ _ _ h => h.mono g.ext.I⟩, h.hp, by rw [hbb]; exact h.hbb, fun _ => h.hi (by omega), h.hq, h.hr, fun hh => by omega, fun _ => hown, hne⟩
    · split at hy
      case isFalse => simp at hy
      rename_i hj3
      simp at hy
      subst hy
      rw [pushL_j m hj3]
      have hcase : j = 0 ∨ j = 1 ∨ j = 2 := by omega
      rcases hcase with rfl | rfl | rfl
      · refine wpOp_value (o := N) (z := .pointer (some ⟨bP, off0, none⟩)) (w' := w) (by exact at' 3 N rfl) hN3 ?_ ?_
        · have hev : a.eval (.tmp x.p) = .pointer (some ⟨bP, off0, none⟩) := h.hp
          simp [execOp, hN1, hev]
        · rw [hN2]
          refine ih i 1 hi (by omega) (by omega) G _ w ⟨h.ext, h.wi, h.fr.put_top (h3 x.q (by simp) 0) _, h.df, ?_, ?_, ?_, ?_, h.hbb, fun hh => ?_, fun hh => ?_, fun hh => by omega, h.pend, h.own, fun hh => by omega⟩
          · rw [put_at _ _ ndq]; exact h.hd
          · rw [put_at _ _ (Ne.symm nqn)]; exact h.hn
          · rw [put_at _ _ (Ne.symm nqv)]; exact h.hv
          · rw [put_at _ _ (Ne.symm nqp)]; exact h.hp
          · rw [put_at _ _ niq]; exact h.hi hh
          · exact put_at_same _ _ (hsize _ (by simp))
      · have hev : a.eval (.tmp x.q) = .pointer (some ⟨bP, off0, none⟩) := h.hq (by omega)
        have hra : RA G w .ret (.c (.loc bs off0)) (.pointer (some ⟨bP, off0, none⟩)) := ⟨bP, h.hbb, rfl⟩
        obtain ⟨z, h1, u, h2, _, _, h4⟩ := fieldAddr_ok (P := K.P) hfa hra
        cases h2
        obtain ⟨bP', h5, rfl⟩ : ∃ b, G.bb bs = some b ∧ z = .pointer (some ⟨b, off, none⟩) := h4
        rw [h.hbb] at h5
        cases h5
        refine wpOp_value (o := F) (z := .pointer (some ⟨bP, off, none⟩)) (w' := w) (by rw [show m + 3 + 1 = m + 4 by omega]; exact at' 4 F rfl) hF3 ?_ ?_
        · simp only [execOp, hF1, hev, Sem.run_bind, h1, Result.andThen_ok, Sem.run_pure]
        · rw [hF2]
          refine ih i 2 hi (by omega) (by omega) G _ w ⟨h.ext, h.wi, h.fr.put_top (h3 x.r (by simp) 1) _, h.df, ?_, ?_, ?_, ?_, h.hbb, fun hh => ?_, fun hh => ?_, fun hh => ?_, h.pend, h.own, fun hh => by omega⟩
          · rw [put_at _ _ ndr]; exact h.hd
          · rw [put_at _ _ (Ne.symm nrn)]; exact h.hn
          · rw [put_at _ _ (Ne.symm nrv)]; exact h.hv
          · rw [put_at _ _ (Ne.symm nrp)]; exact h.hp
          · rw [put_at _ _ nir]; exact h.hi hh
          · rw [put_at _ _ nqr]; exact h.hq (by omega)
          · exact put_at_same _ _ (hsize _ (by simp))
      · have hf2 : FR G w S2 a := h.fr
        have hev1 : a.eval (.tmp x.r) = .pointer (some ⟨bP, off, none⟩) := h.hr (by omega)
        have hev2 : a.eval (.tmp x.d) = .slice (some ⟨b, 0, none⟩) (ca.length + 1) cap := h.hd
        obtain ⟨w', hrun, g, hw', hf', cs, ty, hh1, hh2⟩ := hdr_store (P := K.P) hf2 h.wi hb2 h.hbb hlt (v := .slice (some ⟨b, 0, none⟩) (ca.length + 1) cap) rfl hs1
        refine wpOp_skip (o := H) (w' := w') (by rw [show m + 3 + 2 = m + 5 by omega]; exact at' 5 H rfl) hH3 ?_ ?_
        · simp only [execOp, hH1, hev1, hev2, Sem.run_bind, hrun, Result.andThen_ok, Sem.run_pure]
        · rw [hH2]
          exact ih i 3 hi (by omega) (by omega) G _ w' ⟨h.ext.trans g.ext, hw', by rw [if_pos rfl, hS3]; exact hf', h.df, h.hd, h.hn, h.hv, h.hp, h.hbb, h.hi, fun _ => h.hq (by omega), fun _ => h.hr (by omega), fun hh => (h.pend hh).gr g (by simp), fun hh => (h.own hh).gr g (by simp), fun _ => ⟨cs, ty, hh1, hh2⟩⟩

/-- THE LAST SIX. -/
theorem tail_wp {x : Push} {m : Nat} {S' : St} {G : Gh} {w : World} {a : Act} (hx : pushOf (ops.drop m) = some x) (ht : tailOK ops m = true) (hend : pushEnd K x S = some S') (hf : FR G w S a) (hw : WI G w)
    (hQ : ∀ a' w' G', Ext G w G' w' → WI G' w' → FR G' w' S' a' → a'.defers = a.defers → Q .normal a' w') : wpAny K.P .any ops.toArray Q 6 (pushL m false 0 0) a w := by
  unfold pushEnd at hend
  split at hend
  case h_2 => cases hend
  rename_i e v0 ca pl kk k bs off0 hut happ hca hpl hkn hp
  split at hend
  case h_2 => cases hend
  rename_i vs cells bs1 off hvs hbx hfa
  split at hend
  case h_2 => cases hend
  rename_i ps hps
  split at hend
  case isFalse => cases hend
  rename_i hc
  obtain ⟨rfl, rfl, rfl, hno, hsz, hs1, hlt, hd1, hd2, hd3, hd4⟩ := hc
  cases hend
  obtain ⟨A, I, W, N, F, H, hl, hA, hI, hW, hN, hF, hH, hn1, hn2, hn3⟩ := pushOf_inv hx
  obtain ⟨⟨c, hA1, hA2, hA3, hA4⟩, hA5, hA6⟩ := appOf_inv hA
  obtain ⟨ndi, ndq, ndr, ndn, niq, nir, nin, nqr, nqn, nrn⟩ := allNe5 hn1
  obtain ⟨-, -, -, ndv, -, -, niv, -, nqv, nrv⟩ := allNe5 hn2
  obtain ⟨-, -, -, ndp, -, -, nip, -, nqp, nrp⟩ := allNe5 hn3
  have hrdy : Region.ready .any ops.toArray (pushL m false 0 0) = [m] := by
    unfold tailOK at ht
    simp only [Bool.and_eq_true] at ht
    simpa using ht.1.2
  refine ⟨fun e => (by rw [hrdy] at e; cases e), fun y hy => ?_⟩
  rw [hrdy] at hy
  simp at hy
  subst hy
  rw [pushL_a]
  obtain ⟨w1, G1, b, cap, hrun, g, hw1, hbb, hpend⟩ := push_append (ty := A.type) (d := x.d) hut happ hca hpl hsz hf hw (hf.slot x.l)
  have hAt : ops[y]? = some A := by
    have : (ops.drop y)[0]? = some A := by rw [hl]; rfl
    rw [List.getElem?_drop] at this; exact this
  refine wpOp_value (o := A) (z := .slice (some ⟨b, 0, none⟩) (ca.length + 1) cap) (w' := w1) hAt hA6 ?_ ?_
  · have hres : (resolve a.eval c A.type).run K.P w = .ok { target := .builtin .append c.argTypes A.type (c.args.map fun | .const _ => true | _ => false), args := c.args.map a.eval } w := by
      unfold resolve; rw [hA2]; rfl
    have ea : c.args.map a.eval = #[a.tmps.getD x.s undef, a.tmps.getD x.l undef] := by rw [hA3]; apply Array.ext'; simp [Act.eval]
    simp only [execOp, hA1, Sem.run_bind, hres, Result.andThen_ok, invoke, builtin, ea, hA4, hrun, Sem.run_pure]
  · rw [hA5]
    -- the state without what turns
    have hf1 : FR G w { S with sl := topAt S.sl [x.s, x.d, x.i, x.q, x.r] } a := hf.top _
    have hsl : ∀ t ∈ [x.s, x.d, x.i, x.q, x.r], topAt S.sl [x.s, x.d, x.i, x.q, x.r] t = .c .top := fun t h => by unfold topAt; rw [if_pos (by simpa using h)]
    have hf2 := (hf1.gr_slot hw g hbb (hsl x.s (by simp))).put_top (d := x.d) (hsl x.d (by simp)) (.slice (some ⟨b, 0, none⟩) (ca.length + 1) cap)
    have hnv := hf.slot x.n
    rw [hkn] at hnv
    have hint : a.tmps.getD x.n undef = .int kk ca.length := hnv.intv
    have hpv := hf.slot x.p
    rw [hp] at hpv
    obtain ⟨bP, hbP, hpe⟩ : ∃ b, G.bb bs1 = some b ∧ a.tmps.getD x.p undef = .pointer (some ⟨b, off0, none⟩) := hpv
    obtain ⟨xs, hxc, hxs⟩ := cellsOf_ok hvs hno (hf.slot x.v)
    have hxr := pvs_RP hps hxs
    refine five_wp (S2 := { S with sl := topAt S.sl [x.s, x.d, x.i, x.q, x.r] }) (S3 := { S with sl := topAt S.sl [x.s, x.d, x.i, x.q, x.r], bx := upd S.bx bs1 (some (setAt cells off [.top])) }) (G0 := G) (w0 := w) (df := a.defers) (bs := bs1) (off0 := off0) (off := off) (bP := bP) (b := b) (cap := cap) (ca := ca) (ps := ps)
      hx ht hut rfl hsz rfl hs1 hfa hlt (fun t h => hsl t (List.mem_cons_of_mem _ h)) (fun t h => by simp at h; rcases h with rfl | rfl | rfl | rfl <;> assumption) hbx rfl (fun a' w' G' h => ?_) 5 0 0 (by omega) (by omega) rfl G1 _ w1
      ⟨g.ext, hw1, hf2, rfl, put_at_same _ _ (by rw [hf.size]; exact hd1), ⟨kk, by rw [put_at _ _ (Ne.symm ndn)]; exact hint⟩, ⟨xs, by rw [put_at _ _ (Ne.symm ndv)]; exact hxc, hxr.imp fun _ _ _ h => h.mono g.ext.I⟩, by rw [put_at _ _ (Ne.symm ndp)]; exact hpe, by rw [hbb]; exact hbP, fun h => by omega, fun h => by omega, fun h => by omega, fun _ => hpend, fun h => by omega, fun h => by omega⟩
    -- all is done: the box owns the slice
    have hfr := h.fr
    rw [if_pos rfl] at hfr
    obtain ⟨cs, ty, hh1, hh2⟩ := h.hdr (by omega)
    obtain ⟨G2, g2, hw2, hown, hbb2⟩ := own_give (ℓ' := .cell bs1 off) h.wi (h.own (by omega)) (by simp) (by simp)
    have hfr2 := hfr.gr_slot h.wi g2 hbb2 (hsl x.d (by simp))
    refine hQ a' w' G2 (h.ext.trans g2.ext) hw2 ⟨hfr2.size, hfr2.slot, fun s l hl => ?_, fun s hs hlk => ?_⟩ h.df
    · have hl' : upd S.bx bs1 (some (setAt cells off [.own x.e (ca ++ [ps])])) s = some l := hl
      unfold upd at hl'
      split at hl'
      · rename_i he
        subst he
        cases hl'
        obtain ⟨b', cs', ty', hb', hh', ⟨hcs, hbl⟩, hcells⟩ := hfr2.box s (setAt cells off [.top]) (by show upd S.bx s _ s = _; simp [upd])
        have hbe : b' = bP := by rw [hbb2, h.hbb] at hb'; exact (Option.some.inj hb').symm
        subst hbe
        rw [hh1] at hh'
        cases hh'
        refine ⟨b', cs, ty, hb', hh1, ⟨by rw [setAt_length _ _ _ (by simp; omega)]; rw [setAt_length _ _ _ (by simp; omega)] at hcs; exact hcs, fun e => ?_⟩, fun k u hu => ?_⟩
        · rw [setAt_one _ _ _ hlt] at e
          split at e
          · cases e
          · rename_i hk
            refine hbl ?_
            rw [setAt_one _ _ _ hlt, if_neg hk]; exact e
        · rw [setAt_one _ _ _ hlt] at hu
          split at hu
          · rename_i hk
            subst hk
            cases hu
            exact ⟨_, hh2, hown⟩
          · rename_i hk
            exact hcells k u (by rw [setAt_one _ _ _ hlt, if_neg hk]; exact hu)
      · rename_i he
        exact hfr2.box s l (by show upd S.bx bs1 _ s = _; unfold upd; rw [if_neg he]; exact hl')
    · have hs' : upd S.bx bs1 (some (setAt cells off [.own x.e (ca ++ [ps])])) s = none := hs
      unfold upd at hs'
      split at hs'
      · cases hs'
      · rename_i he
        exact hfr2.nob s (by show upd S.bx bs1 _ s = _; unfold upd; rw [if_neg he]; exact hs') hlk
end
end Go.Abs
