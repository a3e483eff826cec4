/-
  THE ABSTRACT INTERPRETER: what one operation leaves: the frame of the proof, and the operations that touch memory.
-/
import Derived.Test.YtcnodcgdceoijaaDoorAbsPure2
set_option linter.unusedSimpArgs false
set_option linter.unusedVariables false
namespace Go.Abs
open Go

/-- What stands behind an operation that yielded 'x' and left the world 'w''. -/
structure Step (G : Gh) (w : World) (S : St) (a : Act) (dst : Option Nat) (v : AV) (dg : Option Nat) (bs : List (Nat × List CV)) (x : Value) (G' : Gh) (w' : World) : Prop where
  ext : Ext G w G' w'
  wi : WI G' w'
  val : ∀ d, dst = some d → RA G' w' (.slot d) v x
  slot : ∀ t, dst ≠ some t → RA G' w' (.slot t) (if dg = some t then (S.sl t).gv else S.sl t) (a.tmps.getD t undef)
  box : ∀ s l, setBoxes S.bx bs s = some l → BoxR G' w' s l
  nob : ∀ s, setBoxes S.bx bs s = none → s < LK → G'.bb s = none

section
variable {P : Program} {G G' : Gh} {w w' : World} {S : St} {a : Act} {dst : Option Nat} {v : AV} {dg : Option Nat} {bs : List (Nat × List CV)} {x : Value}

theorem Act.getD_put (a : Act) (d : Nat) (x : Value) (t : Nat) : (a.put (some d) x).tmps.getD t undef = if t = d ∧ d < a.tmps.size then x else a.tmps.getD t undef := by
  simp only [Act.put, Array.getD_eq_getD_getElem?, Array.getElem?_setIfInBounds]
  by_cases h : d = t
  · subst h
    by_cases h2 : d < a.tmps.size
    · simp [h2]
    · simp [h2]
  · rw [if_neg h, if_neg (fun e => h e.1.symm)]

/-- the frame behind it -/
theorem Step.frame (h : FR G w S a) (k : Step G w S a dst v dg bs x G' w') {S' : St} (hp : ((({ S with bx := setBoxes S.bx bs } : St).degAt dg).put dst v) = some S') :
    FR G' w' S' (a.put dst x) := by
  have key : ∀ (sl : Nat → AV), (∀ t, sl t = if dg = some t then (S.sl t).gv else S.sl t) →
      (({ sl := sl, bx := setBoxes S.bx bs, nt := S.nt } : St).put dst v) = some S' → FR G' w' S' (a.put dst x) := fun sl hsl hp => by
    unfold St.put at hp
    cases dst with
    | none =>
      simp at hp
      subst hp
      exact ⟨h.size, fun t => by show RA G' w' (.slot t) (sl t) _; rw [hsl t]; exact k.slot t (by simp), k.box, k.nob⟩
    | some d =>
      simp only at hp
      split at hp
      case isFalse => cases hp
      rename_i hd
      simp at hp
      subst hp
      refine ⟨by simp [Act.put, h.size], fun t => ?_, k.box, k.nob⟩
      rw [Act.getD_put]
      by_cases ht : t = d
      · subst ht
        rw [if_pos ⟨rfl, by rw [h.size]; exact hd⟩]
        simp only [upd, if_true]
        exact k.val _ rfl
      · rw [if_neg (fun e => ht e.1)]
        simp only [upd, if_neg ht]
        rw [hsl t]
        exact k.slot t (fun e => ht (by simpa using e.symm))
  cases dg with
  | none => exact key S.sl (fun t => by simp) hp
  | some u =>
    refine key (upd S.sl u (S.sl u).gv) (fun t => ?_) hp
    unfold upd
    by_cases ht : t = u
    · subst ht; simp
    · rw [if_neg ht, if_neg (fun e => ht (by simpa using e.symm))]

/-- nothing but a value -/
theorem Step.pure (h : FR G w S a) (hw : WI G w) (hv : ∀ d, dst = some d → RA G w (.slot d) v x) : Step G w S a dst v none [] x G w :=
  ⟨.refl _ _, hw, hv, fun t _ => by simpa using h.slot t, h.box, h.nob⟩

/-- a step that turns some owners' blocks, and no box's -/
theorem Step.of_gr {ch : Own → Prop} (h : FR G w S a) (hw : WI G w) (g : Gr ch G w G' w') (hw' : WI G' w') (hv : ∀ d, dst = some d → RA G' w' (.slot d) v x)
    (hs : ∀ t, ch (.slot t) → dst = some t ∨ dg = some t)
    (hb : ∀ s l, setBoxes S.bx bs s = some l → (S.bx s = some l ∧ ¬ ch (.box s) ∧ ∀ k, ¬ ch (.cell s k)) ∨ BoxR G' w' s l)
    (hn : ∀ s, setBoxes S.bx bs s = none → s < LK → G'.bb s = none)
    (hi : ∀ t, dg = some t → (S.sl t).isIter = false := by intro _ e; cases e) : Step G w S a dst v dg bs x G' w' where
  ext := g.ext
  wi := hw'
  val := hv
  slot t ht := by
    by_cases hd : dg = some t
    · rw [if_pos hd, gv_deg (hi t hd)]
      exact ((h.slot t).deg (ℓ' := .ret)).gr_plain g (isOwn_deg _)
    · rw [if_neg hd]
      refine (h.slot t).gr g (fun hc => ?_)
      rcases hs t hc with h1 | h1
      · exact ht h1
      · exact hd h1
  box s l hl := by
    rcases hb s l hl with ⟨h1, h2, h3⟩ | h1
    · exact (h.box s l h1).gr hw g h2 h3
    · exact h1
  nob := hn

/-! ### The right to append goes over -/

def Gh.give (G : Gh) (b : Nat) (ℓ : Own) : Gh := { G with ow := upd G.ow b (some ℓ) }

/-- the block of an owned slice goes to another owner -/
theorem give_gr {ℓ ℓ' : Own} {b : Nat} (hw : WI G w) (ho : G.ow b = some ℓ) (hℓ : ∀ s, ℓ ≠ .box s) (hℓ' : ∀ s, ℓ' ≠ .box s) : Gr (fun o => o = ℓ) G w (G.give b ℓ') w ∧ WI (G.give b ℓ') w := by
  have hlt : b < w.heap.size := by
    rcases Nat.lt_or_ge b w.heap.size with h | h
    · exact h
    · have := (hw.fresh b h).2; rw [ho] at this; cases this
  refine ⟨⟨⟨fun _ _ _ h => h, fun c _ hc => ⟨?_, rfl, fun _ => rfl⟩, Nat.le_refl _, rfl, rfl, rfl, fun _ _ => rfl⟩, fun _ _ h => h, fun c m hm hne => ⟨?_, rfl, fun _ => rfl⟩⟩, ⟨hw.cell, fun c hc => ⟨(hw.fresh c hc).1, ?_⟩, fun c s hs => ?_, fun s c hs => ?_, hw.tab.map fun c _ hc => ⟨by show upd G.ow b _ c = none; unfold upd; rw [if_neg (fun e => by rw [e, ho] at hc; cases hc)]; exact hc, rfl⟩⟩⟩
  · show upd G.ow b _ c = none
    unfold upd; rw [if_neg (fun e => by rw [e, ho] at hc; cases hc)]; exact hc
  · show upd G.ow b _ c = some m
    unfold upd; rw [if_neg (fun e => hne (by rw [e, ho] at hm; exact (Option.some.inj hm).symm))]; exact hm
  · show upd G.ow b _ c = none
    unfold upd; rw [if_neg (by omega)]; exact (hw.fresh c hc).2
  · have hs' : upd G.ow b (some ℓ') c = some (.box s) := hs
    unfold upd at hs'
    split at hs'
    · exact absurd (Option.some.inj hs') (hℓ' s)
    · exact hw.boxI c s hs'
  · show upd G.ow b _ c = _
    have h1 := hw.bbow s c hs
    unfold upd; rw [if_neg (fun e => by rw [e, ho] at h1; exact hℓ s (Option.some.inj h1))]; exact h1

/-- an owned slice under a new owner -/
theorem own_give {ℓ ℓ' : Own} {e : TypeId} {c : List (List PV)} (hw : WI G w) (h : OwnAt G w ℓ e c x) (hℓ : ∀ s, ℓ ≠ .box s) (hℓ' : ∀ s, ℓ' ≠ .box s) :
    ∃ G', Gr (fun o => o = ℓ) G w G' w ∧ WI G' w ∧ OwnAt G' w ℓ' e c x ∧ G'.bb = G.bb := by
  rcases h with h | ⟨hne, b, cap, cur, sz, h1, h2, h3, h4, h5, h6, h7, h8, h9⟩
  · obtain ⟨h1, ad, h2, h3⟩ := h
    rcases h3 with h3 | ⟨b, cur, e, h3, h4, h5⟩
    · exact ⟨G, ⟨.refl _ _, fun _ _ h => h, fun _ _ h _ => ⟨h, rfl, fun _ => rfl⟩⟩, hw, .inl ⟨h1, ad, h2, .inl h3⟩, rfl⟩
    · obtain ⟨g, hw'⟩ := give_gr (ℓ' := ℓ') hw h4 hℓ hℓ'
      exact ⟨_, g, hw', .inl ⟨h1, ad, h2, .inr ⟨b, cur, e, h3, by simp [Gh.give, upd], h5⟩⟩, rfl⟩
  · obtain ⟨g, hw'⟩ := give_gr (ℓ' := ℓ') hw h2 hℓ hℓ'
    exact ⟨_, g, hw', .inr ⟨hne, b, cap, cur, sz, h1, by simp [Gh.give, upd], h3, h4, h5, h6, h7, h8, h9⟩, rfl⟩

theorem takeOver_ok {apps : List Nat} {always : Bool} {X : Operand} {d : Delta} (h : takeOver apps always dst X (opd S.sl X) = some d) (hf : FR G w S a) (hw : WI G w) :
    ∃ v dg G', d = .val v dg [] ∧ Step G w S a dst v dg [] (a.eval X) G' w := by
  unfold takeOver at h
  split at h
  case isTrue => cases h
  rename_i hni
  split at h
  · rename_i ho
    have hX := hf.opd X
    cases X with
    | const u => rw [show opd S.sl (.const u) = avOf u from rfl, avOf_own] at ho; cases ho
    | func f => cases ho
    | global g => cases ho
    | tmp u =>
    have hu : ∃ e c, opd S.sl (.tmp u) = .c (.own e c) := by
      cases hv : opd S.sl (.tmp u) with
      | c v => rw [hv] at ho hni; cases v <;> first | exact ⟨_, _, rfl⟩ | exact absurd rfl hni | cases ho
      | agg l => rw [hv] at ho; cases ho
      | tup l => rw [hv] at ho; cases ho
    obtain ⟨e, c, hc⟩ := hu
    rw [hc] at h hX
    split at h
    · rename_i u' hst
      have hu' : u' = u := by
        simp only [steal] at hst
        by_cases hcc : (always || inApps apps dst) = true
        · rw [if_pos hcc] at hst; exact (Option.some.inj hst).symm
        · rw [if_neg hcc] at hst; cases hst
      subst hu'
      by_cases hdu : dst = some u'
      · rw [if_pos hdu] at h; cases h
      rw [if_neg hdu] at h
      cases h
      have hit : ∀ t, some u' = some t → (S.sl t).isIter = false := fun t e => by cases e; rw [show S.sl u' = .c (.own e c) from hc]; rfl
      cases hd : dst with
      | none =>
        refine ⟨_, _, G, rfl, Step.of_gr (ch := fun _ => False) hf hw (.refl _ _) hw (fun d e => by cases e) (fun _ h => h.elim) (fun s l hl => .inl ⟨hl, fun h => h, fun _ h => h⟩) hf.nob hit⟩
      | some d =>
      have hX' : OwnAt G w (.slot u') e c (a.eval (.tmp u')) := hX
      obtain ⟨G', g, hw', hown, hbb⟩ := own_give (ℓ' := .slot d) hw hX' (by simp) (by simp)
      refine ⟨_, _, G', rfl, Step.of_gr hf hw g hw' (fun d' e => by cases e; exact hown) (fun t ht => .inr (by cases ht; rfl)) (fun s l hl => .inl ⟨hl, by simp, by simp⟩) (fun s hs hlk => by rw [hbb]; exact hf.nob s hs hlk) hit⟩
    · cases h
      exact ⟨_, _, G, rfl, Step.pure hf hw fun d _ => hX.deg⟩
  · rename_i ho
    cases h
    exact ⟨_, _, G, rfl, Step.pure hf hw fun d _ => (hf.opd X).place (by simpa using ho)⟩

/-! ### Loads -/

theorem run_loadAt_agg {t : TypeId} {n : Nat} {b o : Nat} {cs : List Value} (hs : shapeT P t = some (some n)) (hl : cs.length = n) (hc : ∀ j y, cs[j]? = some y → w.cell? ⟨b, o + j, none⟩ = some y) :
    (Instr.loadAt t (.pointer (some ⟨b, o, none⟩))).run P w = .ok (.agg cs.toArray) w := by
  obtain ⟨d, n', hd, hsz, ha, hn⟩ := shapeT_inv (w := w) hs
  cases hn n rfl
  have := run_loadCells_list (P := P) w ⟨b, o, none⟩ cs (fun j y hy => by
    have hadd : (⟨b, o, none⟩ : Addr).add j = ⟨b, o + j, none⟩ := by simp only [Addr.add]; split <;> simp_all
    rw [hadd]; exact hc j y hy)
  rw [hl] at this
  simp [Instr.loadAt, Instr.sureAddr, loadVar, ha, run_sizeOf' hsz, this]

theorem run_loadAt_one {t : TypeId} {b o : Nat} {y : Value} (hs : shapeT P t = some none) (hc : w.cell? ⟨b, o, none⟩ = some y) :
    (Instr.loadAt t (.pointer (some ⟨b, o, none⟩))).run P w = .ok y w := by
  obtain ⟨d, n', hd, hsz, ha, hn⟩ := shapeT_inv (w := w) hs
  simp [Instr.loadAt, Instr.sureAddr, loadVar, ha, hc]

theorem cell_of_heap {b : Nat} {cs : Array Value} {ty : TypeId} {fr : Nat × Nat} (h : w.heap[b]? = some (.cells cs ty fr)) (o : Nat) : w.cell? ⟨b, o, none⟩ = cs[o]? := by
  simp [World.cell?, h]

theorem map_deg_RN {l : List CV} {xs : List Value} {s : Nat} : ∀ k, (∀ j v, l[j]? = some v → ∃ x, xs[j]? = some x ∧ RC G w (.cell s (k + j)) v x) → l.length = xs.length → All2 (RN G) (l.map CV.deg) xs := fun k h hl =>
  All2.map_left (All2.mk hl fun i v x hv hx => by
    obtain ⟨y, h1, h2⟩ := h i v hv
    rw [hx] at h1; cases h1
    exact h2.deg)

theorem setBoxes_one (f : Nat → Option (List CV)) (s : Nat) (c : List CV) (t : Nat) : setBoxes f [(s, c)] t = if t = s then some c else f t := rfl

theorem setAt_one (l : List CV) (o : Nat) (v : CV) (h : o < l.length) (k : Nat) : (setAt l o [v])[k]? = if k = o then some v else l[k]? := by
  unfold setAt
  rw [List.append_assoc]
  rcases Nat.lt_trichotomy k o with hk | hk | hk
  · rw [List.getElem?_append_left (by simp; omega), List.getElem?_take_of_lt hk, if_neg (by omega)]
  · subst hk
    rw [List.getElem?_append_right (by simp; omega), if_pos rfl]
    simp [Nat.min_eq_left (Nat.le_of_lt h)]
  · rw [List.getElem?_append_right (by simp; omega), if_neg (by omega)]
    simp only [List.length_take, Nat.min_eq_left (Nat.le_of_lt h)]
    have : k - o = (k - o - 1) + 1 := by omega
    rw [this]
    simp only [List.singleton_append, List.getElem?_cons_succ, List.getElem?_drop, List.length_cons, List.length_nil]
    congr 1; omega

theorem setAt_length (l : List CV) (o : Nat) (vs : List CV) (h : o + vs.length ≤ l.length) : (setAt l o vs).length = l.length := by
  unfold setAt; simp; omega

theorem load_ok {apps : List Nat} {t : TypeId} {A : AV} {y : Value} {ℓ : Own} {d : Delta} (h : absLoad P apps S.bx dst t A = some d) (hf : FR G w S a) (hw : WI G w) (hA : RA G w ℓ A y) :
    ∃ v bs x G', d = .val v none bs ∧ (Instr.loadAt t y).run P w = .ok x w ∧ Step G w S a dst v none bs x G' w ∧ (apps = [] → G' = G) := by
  unfold absLoad at h
  split at h
  · rename_i n s off hs
    split at h
    case h_2 => cases h
    rename_i cells hbx
    split at h
    case isFalse => cases h
    rename_i hfit
    cases h
    obtain ⟨b, hb, rfl⟩ : ∃ b, G.bb s = some b ∧ y = .pointer (some ⟨b, off, none⟩) := hA
    obtain ⟨b', cs, ty, hb', hh, ⟨hsz, hbl⟩, hcells⟩ := hf.box s cells hbx
    rw [hb] at hb'; cases hb'
    refine ⟨_, _, .agg ((cs.toList.drop off).take n).toArray, G, rfl, ?_, Step.pure hf hw fun d _ => ⟨_, rfl, ?_⟩, fun _ => rfl⟩
    · refine run_loadAt_agg hs (by simp; omega) fun j z hz => ?_
      rw [cell_of_heap hh]
      rw [List.getElem?_take] at hz
      split at hz
      case isFalse => cases hz
      simpa using hz
    · refine map_deg_RN (w := w) (s := s) off (fun j v hv => ?_) (by simp; omega)
      rw [List.getElem?_take] at hv
      split at hv
      case isFalse => cases hv
      rename_i hj
      rw [List.getElem?_drop] at hv
      obtain ⟨z, h1, h2⟩ := hcells _ _ hv
      exact ⟨z, by rw [List.getElem?_take, if_pos hj]; simpa using h1, h2⟩
  · rename_i s off hs
    split at h
    case h_2 => cases h
    rename_i cells hbx
    split at h
    case h_1 => cases h
    rename_i v hv
    obtain ⟨b, hb, rfl⟩ : ∃ b, G.bb s = some b ∧ y = .pointer (some ⟨b, off, none⟩) := hA
    obtain ⟨b', cs, ty, hb', hh, ⟨hsz, hbl⟩, hcells⟩ := hf.box s cells hbx
    rw [hb] at hb'; cases hb'
    obtain ⟨z, hz, hrz⟩ := hcells _ _ hv
    have hrun := run_loadAt_one (P := P) (w := w) hs (y := z) (b := b) (o := off) (by rw [cell_of_heap hh]; exact hz)
    split at h
    · rename_i hc
      cases h
      simp only [Bool.and_eq_true, Bool.not_eq_true'] at hc
      obtain ⟨⟨hpl, hni⟩, hdst⟩ := hc
      cases v <;> first | (cases hpl; done) | (cases hni; done) | skip
      rename_i e c
      cases hd : dst with
      | none => rw [hd] at hdst; simp [inApps] at hdst
      | some d =>
      have hown : OwnAt G w (.cell s off) e c z := hrz
      obtain ⟨G', g, hw', hown', hbb⟩ := own_give (ℓ' := .slot d) hw hown (by simp) (by simp)
      refine ⟨_, _, z, G', rfl, hrun, Step.of_gr hf hw g hw' (fun d' e => by cases e; exact hown') (fun t ht => by cases ht) (fun s' l hl => ?_) (fun s' hs' hlk => ?_), fun e => ?_⟩
      · rw [setBoxes_one] at hl
        split at hl
        · rename_i he
          subst he
          cases hl
          have hlt : off < cells.length := (List.getElem?_eq_some_iff.1 hv).1
          refine .inr ⟨b, cs, ty, by rw [hbb]; exact hb, hh, ⟨by rw [setAt_length _ _ _ (by simp; omega)]; exact hsz, fun e => by
            rw [setAt_one _ _ _ hlt] at e
            split at e
            · cases e
            · exact hbl e⟩, fun k u hu => ?_⟩
          rw [setAt_one _ _ _ hlt] at hu
          split at hu
          · rename_i hk
            subst hk
            cases hu
            exact ⟨z, hz, .of_RN (hrz.deg.gr g)⟩
          · rename_i hk
            obtain ⟨z', h1, h2⟩ := hcells _ _ hu
            exact ⟨z', h1, h2.gr g (fun e => hk (by cases e; rfl))⟩
        · rename_i he
          exact .inl ⟨hl, by simp, fun k e => he (by cases e; rfl)⟩
      · rw [setBoxes_one] at hs'
        split at hs'
        · cases hs'
        · rw [hbb]; exact hf.nob s' hs' hlk
      · subst e; rw [hd] at hdst; simp [inApps] at hdst
    · cases h
      exact ⟨_, _, z, G, rfl, hrun, Step.pure hf hw fun d _ => .of_RN hrz.deg, fun _ => rfl⟩
  · rename_i n l hs
    split at h
    case isFalse => cases h
    rename_i hn
    cases h
    obtain ⟨b, o, rfl, hl⟩ : ∃ b o, y = .pointer (some ⟨b, o, none⟩) ∧ ∀ (j : Nat) (p : PV), l[j]? = some p → ∃ y, G.I b (o + j) = some y ∧ RP G.I p y := hA
    refine ⟨_, _, .agg ((List.range n).map fun j => (G.I b (o + j)).getD default).toArray, G, rfl, ?_, Step.pure hf hw fun d _ => ⟨_, rfl, ?_⟩, fun _ => rfl⟩
    · refine run_loadAt_agg hs (by simp) fun j z hz => ?_
      have hj : j < n := by
        have := (List.getElem?_eq_some_iff.1 hz).1
        simpa using this
      obtain ⟨u, h1, h2⟩ := hl j l[j] (by simp)
      simp [hj, h1] at hz
      subst hz
      exact hw.cell _ _ _ h1
    · refine All2.map_left (All2.mk (by simp; omega) fun i p x hp hx => ?_)
      rw [List.getElem?_take] at hp
      split at hp
      case isFalse => cases hp
      rename_i hi
      obtain ⟨u, h1, h2⟩ := hl i p hp
      simp [hi, h1] at hx
      subst hx
      exact h2
  · rename_i l hs
    split at h
    case h_2 => cases h
    rename_i p hp
    cases h
    obtain ⟨b, o, rfl, hl⟩ : ∃ b o, y = .pointer (some ⟨b, o, none⟩) ∧ ∀ (j : Nat) (p : PV), l[j]? = some p → ∃ y, G.I b (o + j) = some y ∧ RP G.I p y := hA
    obtain ⟨u, h1, h2⟩ := hl 0 p hp
    exact ⟨_, _, u, G, rfl, run_loadAt_one hs (hw.cell _ _ _ h1), Step.pure hf hw fun d _ => RA.of_RN (v := .pv p) h2, fun _ => rfl⟩
  · cases h
end
end Go.Abs
