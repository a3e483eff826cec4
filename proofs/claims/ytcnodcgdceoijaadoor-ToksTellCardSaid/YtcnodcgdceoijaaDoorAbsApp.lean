/-
  THE ABSTRACT INTERPRETER: append; conversions between strings and bytes.
-/
import Derived.Test.YtcnodcgdceoijaaDoorAbsMem
set_option linter.unusedSimpArgs false
set_option linter.unusedVariables false
namespace Go.Abs
open Go

section
variable {P : Program} {G G' : Gh} {w w' : World} {S : St} {a : Act} {dst dg : Option Nat} {v : AV} {x : Value}

theorem flat_get (sz : Nat) : ∀ (c : List (List PV)), (∀ e ∈ c, e.length = sz) → ∀ (i : Nat) (el : List PV) (j : Nat) (p : PV), c[i]? = some el → el[j]? = some p → c.flatten[i * sz + j]? = some p
  | [], _, i, el, j, p, hi, _ => by simp at hi
  | e :: c, h, 0, el, j, p, hi, hj => by
    simp at hi; subst hi
    have hlt := (List.getElem?_eq_some_iff.1 hj).1
    rw [List.flatten_cons, Nat.zero_mul, Nat.zero_add, List.getElem?_append_left hlt]; exact hj
  | e :: c, h, i + 1, el, j, p, hi, hj => by
    have he := h e (by simp)
    rw [List.flatten_cons, List.getElem?_append_right (by rw [he, Nat.add_mul]; omega)]
    have := flat_get sz c (fun e' h' => h e' (by simp [h'])) i el j p (by simpa using hi) hj
    rw [← this]; congr 1; rw [he, Nat.add_mul]; omega

theorem flat_length (sz : Nat) : ∀ (c : List (List PV)), (∀ e ∈ c, e.length = sz) → c.flatten.length = c.length * sz
  | [], _ => by simp
  | e :: c, h => by
    rw [List.flatten_cons, List.length_append, h e (by simp), flat_length sz c fun e' h' => h e' (by simp [h']), List.length_cons, Nat.add_mul]; omega

/-- a place in the flat list is a cell of an element -/
theorem flat_inv (sz : Nat) (hpos : 0 < sz) : ∀ (c : List (List PV)), (∀ e ∈ c, e.length = sz) → ∀ (k : Nat) (p : PV), c.flatten[k]? = some p → ∃ i el j, c[i]? = some el ∧ el[j]? = some p ∧ k = i * sz + j ∧ j < sz
  | [], _, k, p, h => by simp at h
  | e :: c, h, k, p, hk => by
    have he := h e (by simp)
    rw [List.flatten_cons] at hk
    by_cases hlt : k < e.length
    · rw [List.getElem?_append_left hlt] at hk
      exact ⟨0, e, k, rfl, hk, by omega, by omega⟩
    · rw [List.getElem?_append_right (by omega)] at hk
      obtain ⟨i, el, j, h1, h2, h3, h4⟩ := flat_inv sz hpos c (fun e' h' => h e' (by simp [h'])) _ p hk
      exact ⟨i + 1, el, j, by simpa using h1, h2, by rw [Nat.add_mul]; omega, h4⟩

/-- the cells that the data of a slice name, as values -/
theorem seg_vals {I : Nat → Nat → Option Value} {b o sz : Nat} {c : List (List PV)} (hpos : 0 < sz) (hsz : ∀ e ∈ c, e.length = sz) (h : Seg I b o sz c) :
    ∃ ys : List Value, ys.length = c.length * sz ∧ (∀ k y, ys[k]? = some y → I b (o + k) = some y) ∧ All2 (RP I) c.flatten ys := by
  have hl := flat_length sz c hsz
  refine ⟨(List.range (c.length * sz)).map fun k => (I b (o + k)).getD default, by simp, fun k y hk => ?_, All2.mk (by simp [hl]) fun k p y hp hy => ?_⟩
  · have hlt : k < c.length * sz := by have := (List.getElem?_eq_some_iff.1 hk).1; simpa using this
    have hp : c.flatten[k]? = some c.flatten[k] := by rw [List.getElem?_eq_getElem (by omega)]
    obtain ⟨i, el, j, h1, h2, h3, _⟩ := flat_inv sz hpos c hsz k _ hp
    obtain ⟨z, hz, _⟩ := h i el j _ h1 h2
    simp [hlt] at hk
    rw [h3, hz] at hk ⊢
    simpa using hk
  · obtain ⟨i, el, j, h1, h2, h3, _⟩ := flat_inv sz hpos c hsz k p hp
    obtain ⟨z, hz, hr⟩ := h i el j _ h1 h2
    have hlt : k < c.length * sz := by rw [← hl]; exact (List.getElem?_eq_some_iff.1 hp).1
    subst h3
    rw [List.getElem?_map, List.getElem?_range hlt] at hy
    simp [hz] at hy
    subst hy; exact hr

theorem seg_of_vals {I : Nat → Nat → Option Value} {b o sz : Nat} {c : List (List PV)} {ys : List Value} (hsz : ∀ e ∈ c, e.length = sz) (hI : ∀ (k : Nat) (y : Value), ys[k]? = some y → I b (o + k) = some y) (h : All2 (RP I) c.flatten ys) : Seg I b o sz c :=
  fun i el j p hi hj => by
    obtain ⟨y, h1, h2⟩ := h.get (flat_get sz c hsz i el j p hi hj)
    exact ⟨y, hI _ _ h1, h2⟩

theorem fields_one {ys : List Value} {ps : List PV} {I : Nat → Nat → Option Value} (h : All2 (RP I) ps ys) : ∀ u ∈ ys, u.oneCell' = true := fun u hu => by
  obtain ⟨k, hk⟩ := List.mem_iff_getElem?.1 hu
  obtain ⟨p, _, h2⟩ := h.getR hk
  exact h2.one

/-- the elements that an append brings, as values -/
def Brings (P : Program) (w : World) (size m : Nat) (x : Value) (news : List Value) : Prop :=
  (Builtin.lenOf x).run P w = .ok m w ∧ (Builtin.firstCells size m x).run P w = .ok news.toArray w ∧ (Builtin.lenOf x).run P w.drew = .ok m w.drew ∧ (Builtin.firstCells size m x).run P w.drew = .ok news.toArray w.drew

theorem brings_slice {c : List (List PV)} {sz : Nat} (hw : WI G w) (hpos : 0 < sz) (hsz : ∀ e ∈ c, e.length = sz) (h : RP G.I (.sl c) x) : ∃ news, Brings P w sz c.length x news ∧ All2 (RP G.I) c.flatten news := by
  obtain ⟨ad, cap, rfl, hcap, hne⟩ := h.slice_inv
  by_cases hc : c = []
  · subst hc
    refine ⟨[], ⟨rfl, ?_, rfl, ?_⟩, .nil⟩ <;> cases ad <;> simp [Builtin.firstCells, loadCells, loadCellsFrom]
  · obtain ⟨b, o, sz', rfl, hsz', hseg⟩ := hne hc
    have hs : sz' = sz := by
      cases c with
      | nil => exact absurd rfl hc
      | cons e c => rw [← hsz' e (by simp), hsz e (by simp)]
    subst hs
    obtain ⟨ys, h1, h2, h3⟩ := seg_vals hpos hsz hseg
    have hadd : ∀ j, (⟨b, o, none⟩ : Addr).add j = ⟨b, o + j, none⟩ := fun j => by simp only [Addr.add]; split <;> simp_all
    have hc1 : ∀ j y, ys[j]? = some y → w.cell? ((⟨b, o, none⟩ : Addr).add j) = some y := fun j y hy => by rw [hadd]; exact hw.cell _ _ _ (h2 j y hy)
    refine ⟨ys, ⟨rfl, ?_, rfl, ?_⟩, h3⟩
    · exact run_firstCells_some (P := P) w sz' c.length ⟨b, o, none⟩ c.length cap ys h1 hc1
    · exact run_firstCells_some (P := P) w.drew sz' c.length ⟨b, o, none⟩ c.length cap ys h1 (by simpa using hc1)

theorem brings_string {s : List UInt8} : ∃ news, Brings P w 1 s.length (.string (ByteArray.mk s.toArray)) news ∧ All2 (RP G.I) (s.map fun b => [PV.int .u8 b.toNat]).flatten news := by
  have hsz : (ByteArray.mk s.toArray).size = s.length := by simp [ByteArray.size]
  have he : (ByteArray.mk s.toArray).extract 0 s.length = ByteArray.mk s.toArray := by rw [ByteArray.extract_mk]; simp
  refine ⟨s.map fun b => .int .u8 b.toNat, ⟨by simp [Builtin.lenOf, hsz], ?_, by simp [Builtin.lenOf, hsz], ?_⟩, ?_⟩
  · simp [Builtin.firstCells, he]
  · simp [Builtin.firstCells, he]
  · induction s with
    | nil => exact .nil
    | cons b s ih => exact .cons (.int _ _) (ih (by simp [ByteArray.size]) (by rw [ByteArray.extract_mk]; simp))

/-- what is asked of the two types -/
structure AppT (P : Program) (t u e : TypeId) (i : TypeInfo) (z : Value) : Prop where
  ht : P.underlying t = some (.slice e)
  hu : ∃ d, P.underlying u = some d ∧ ∀ k, d ≠ .int k
  hi : P.info? e = some i
  hz : i.zero = some z
  hzs : z.cells.size = i.size
  hpos : 0 < i.size
  hby : i.bytes ≤ 4096

theorem run_append_in {t u ty e : TypeId} {i : TypeInfo} {z : Value} (A : AppT P t u e i z) {g n m cap : Nat} {cur : Array Value} {e' : TypeId} {news : List Value} (hb : Brings P w i.size m x news)
    (hg : w.heap[g]? = some (.cells cur e' (0, 0))) (hroom : n + m ≤ cap) (hfit : n * i.size + news.length ≤ cur.size) (h1 : ∀ u ∈ news, u.oneCell' = true) :
    (Builtin.append_ #[t, u] ty #[.slice (some ⟨g, 0, none⟩) n cap, x]).run P w = .ok (.slice (some ⟨g, 0, none⟩) (n + m) cap) (w.setRow g (cur.toList.take (n * i.size) ++ news ++ cur.toList.drop (n * i.size + news.length)).toArray) := by
  obtain ⟨d, hd, hdn⟩ := A.hu
  have hst := run_storeCells_at P g (n * i.size) e' news 0 cur w hg (by simpa using hfit) h1
  simp only [Nat.add_zero] at hst
  have hadd : (⟨g, 0, none⟩ : Addr).add (n * i.size) = ⟨g, n * i.size, none⟩ := by simp only [Addr.add]; split <;> simp_all
  have hm : (match d with | .int _ => true | _ => false) = false := by cases d <;> first | rfl | exact absurd rfl (hdn _)
  simp [Builtin.append_, run_underlying A.ht, run_underlying hd, sizeOf, typeInfo, A.hi, hm, hb.1, hb.2.1, hroom, hadd, hst]

theorem run_append_none {t u ty e : TypeId} {i : TypeInfo} {z : Value} (A : AppT P t u e i z) {ad : Option Addr} (hb : Brings P w i.size 0 x []) :
    (Builtin.append_ #[t, u] ty #[.slice ad 0 0, x]).run P w = .ok (.slice ad 0 0) w := by
  obtain ⟨d, hd, hdn⟩ := A.hu
  have hm : (match d with | .int _ => true | _ => false) = false := by cases d <;> first | rfl | exact absurd rfl (hdn _)
  cases ad <;> simp [Builtin.append_, run_underlying A.ht, run_underlying hd, sizeOf, typeInfo, A.hi, hm, hb.1, hb.2.1, storeCells]

theorem run_append_new {t u ty e : TypeId} {i : TypeInfo} {z : Value} (A : AppT P t u e i z) {ad : Option Addr} {n m cap : Nat} {olds news : List Value} (hb : Brings P w i.size m x news)
    (ho : (Builtin.firstCells i.size n (.slice ad n cap)).run P w.drew = .ok olds.toArray w.drew) (hroom : cap < n + m) (hlim : n + m < appLim) :
    (Builtin.append_ #[t, u] ty #[.slice ad n cap, x]).run P w = .ok (.slice (some ⟨w.heap.size, 0, none⟩) (n + m) (grownCap w (n + m) cap e))
      (w.drew.alloc (.cells (olds.toArray ++ news.toArray ++ Builtin.zeroCells z.cells (grownCap w (n + m) cap e - (n + m))) e)) := by
  obtain ⟨d, hd, hdn⟩ := A.hu
  have hm : (match d with | .int _ => true | _ => false) = false := by cases d <;> first | rfl | exact absurd rfl (hdn _)
  have hn : ¬ (n + m ≤ cap) := by omega
  have h63 : ¬ ((9223372036854775807 : Int) < ((n : Int) + (m : Int))) := by simp [appLim] at hlim; omega
  have hfit : ¬ (281474976710656 < Builtin.nextslicecap (n + m) cap * i.bytes) := by
    have hmul : (n + m) * i.bytes ≤ 4294967296 * 4096 := Nat.mul_le_mul (by simp [appLim] at hlim; omega) A.hby
    have := growslice_fits (need := n + m) (old := cap) (bytes := i.bytes) hroom (by omega)
    omega
  have hz : zeroValue e = (do let i ← typeInfo e; match i.zero with | some v => pure v | none => unsupported (.resourceLimit "a value of more than 2^22 cells")) := rfl
  simp [Builtin.append_, run_underlying A.ht, run_underlying hd, sizeOf, typeInfo, A.hi, hm, hb.1, hb.2.2.2, hn, h63, hfit, ho, zeroValue, A.hz, newRow, grownCap, Question.forced, Question.cut]
  rw [show ∀ Z : Array Value, olds.toArray ++ (news.toArray ++ Z) = (olds ++ news).toArray ++ Z from fun Z => by apply Array.ext'; simp]

/-! ### The ghost behind an append -/

theorem setRow_cell_same {g : Nat} {cur new : Array Value} {e : TypeId} {fr : Nat × Nat} (hg : w.heap[g]? = some (.cells cur e fr)) (k : Nat) : (w.setRow g new).cell? ⟨g, k, none⟩ = new[k]? := by
  rw [cell_of_heap (setRow_heap w g cur new e fr hg)]

def Gh.ext (G : Gh) (g o : Nat) (news : List Value) (ℓ : Own) : Gh :=
  { G with I := fun c k => if c = g ∧ o ≤ k ∧ k < o + news.length then news[k - o]? else G.I c k, ow := upd G.ow g (some ℓ) }

theorem extRow_gr (hw : WI G w) {ℓ ℓ' : Own} {g o : Nat} {cur : Array Value} {e : TypeId} {news : List Value} (hg : w.heap[g]? = some (.cells cur e (0, 0))) (hfit : o + news.length ≤ cur.size)
    (ho : G.ow g = some ℓ) (hℓ : ∀ s, ℓ ≠ .box s) (hℓ' : ∀ s, ℓ' ≠ .box s) (hfree : ∀ k, o ≤ k → G.I g k = none) :
    Gr (fun x => x = ℓ) G w (G.ext g o news ℓ') (w.setRow g (cur.toList.take o ++ news ++ cur.toList.drop (o + news.length)).toArray) ∧
      WI (G.ext g o news ℓ') (w.setRow g (cur.toList.take o ++ news ++ cur.toList.drop (o + news.length)).toArray) := by
  have hlt := ow_lt hw ho
  have hI : ∀ b k y, G.I b k = some y → (G.ext g o news ℓ').I b k = some y := fun b k y h => by
    show (if b = g ∧ o ≤ k ∧ k < o + news.length then news[k - o]? else G.I b k) = _
    rw [if_neg (fun ⟨e1, e2, _⟩ => by subst e1; rw [hfree k e2] at h; cases h)]; exact h
  have hIne : ∀ b k, b ≠ g → (G.ext g o news ℓ').I b k = G.I b k := fun b k h => by
    show (if b = g ∧ o ≤ k ∧ k < o + news.length then news[k - o]? else G.I b k) = _
    rw [if_neg (fun e => h e.1)]
  refine ⟨⟨⟨hI, fun c hc hn => ?_, by rw [setRow_size]; exact Nat.le_refl _, rfl, rfl, rfl, fun _ _ => rfl⟩, fun _ _ h => h, fun c m hm hne => ?_⟩, ⟨fun b k y h => ?_, fun b hb => ?_, fun b s hb k => ?_, fun s b hb => ?_, hw.tab.map fun c hc hn => ⟨by show upd G.ow g _ c = none; unfold upd; rw [if_neg (fun e => by rw [e, ho] at hn; cases hn)]; exact hn, setRow_other w g c _ (fun e => by rw [e, ho] at hn; cases hn)⟩⟩⟩
  · have hne : c ≠ g := fun e => by rw [e, ho] at hn; cases hn
    refine ⟨?_, setRow_other w g c _ hne, fun k => hIne c k hne⟩
    show upd G.ow g _ c = none
    unfold upd; rw [if_neg hne]; exact hn
  · have hne' : c ≠ g := fun e => hne (by rw [e, ho] at hm; exact (Option.some.inj hm).symm)
    refine ⟨?_, setRow_other w g c _ hne', fun k => hIne c k hne'⟩
    show upd G.ow g _ c = some m
    unfold upd; rw [if_neg hne']; exact hm
  · by_cases hb : b = g
    · subst hb
      rw [setRow_cell_same hg, setArr_get _ _ _ hfit]
      have h' : (if b = b ∧ o ≤ k ∧ k < o + news.length then news[k - o]? else G.I b k) = some y := h
      by_cases hk : o ≤ k ∧ k < o + news.length
      · rw [if_pos ⟨rfl, hk⟩] at h'
        rw [if_pos hk]; exact h'
      · rw [if_neg (fun e => hk e.2)] at h'
        rw [if_neg hk]
        have := hw.cell b k y h'
        rw [cell_of_heap hg] at this; exact this
    · rw [hIne b k hb] at h
      rw [cell_setRow_other w g _ ⟨b, k, none⟩ hb]; exact hw.cell b k y h
  · rw [setRow_size] at hb
    have hne : b ≠ g := by omega
    refine ⟨fun k => by rw [hIne b k hne]; exact (hw.fresh b hb).1 k, ?_⟩
    show upd G.ow g _ b = none
    unfold upd; rw [if_neg hne]; exact (hw.fresh b hb).2
  · have hb' : upd G.ow g (some ℓ') b = some (.box s) := hb
    unfold upd at hb'
    split at hb'
    · exact absurd (Option.some.inj hb') (hℓ' s)
    · rename_i hne
      rw [hIne b k hne]; exact hw.boxI b s hb' k
  · show upd G.ow g _ b = _
    have h1 := hw.bbow s b hb
    unfold upd; rw [if_neg (fun e => by rw [e, ho] at h1; exact hℓ s (Option.some.inj h1))]; exact h1

theorem drew_gr (hw : WI G w) : Gr (fun _ => False) G w G w.drew ∧ WI G w.drew :=
  ⟨⟨⟨fun _ _ _ h => h, fun c _ h => ⟨h, rfl, fun _ => rfl⟩, Nat.le_refl _, rfl, rfl, rfl, fun _ _ => rfl⟩, fun _ _ h => h, fun _ _ h _ => ⟨h, rfl, fun _ => rfl⟩⟩, ⟨hw.cell, hw.fresh, hw.boxI, hw.bbow, hw.tab.map fun _ _ h => ⟨h, rfl⟩⟩⟩

/-- a new row that holds a slice, of which a place is the owner -/
theorem own_new (hw : WI G w) {c : List (List PV)} {ys : List Value} {rest : Array Value} {e : TypeId} {sz cap : Nat} {ℓ : Own} (hpos : 0 < sz) (hsz : ∀ el ∈ c, el.length = sz) (hys : All2 (RP G.I) c.flatten ys)
    (hcap : c.length ≤ cap) (hrest : rest.size = (cap - c.length) * sz) (hc : c ≠ []) (hℓ : ∀ s, ℓ ≠ .box s) :
    ∃ G', Gr (fun _ => False) G w G' (w.alloc (.cells (ys.toArray ++ rest) e)) ∧ WI G' (w.alloc (.cells (ys.toArray ++ rest) e)) ∧ G'.bb = G.bb ∧
      OwnAt G' (w.alloc (.cells (ys.toArray ++ rest) e)) ℓ e c (.slice (some ⟨w.heap.size, 0, none⟩) c.length cap) := by
  have hl := flat_length sz c hsz
  have hyl : ys.length = c.length * sz := by rw [← hys.length, hl]
  obtain ⟨g, hw'⟩ := newRow_gr hw (cs := ys.toArray ++ rest) (ty := e) (fz := (0, 0)) (f := fun k => ys[k]?) (o := some ℓ) (fun k y h => by
    have hlt := (List.getElem?_eq_some_iff.1 h).1
    rw [Array.getElem?_append_left (by simpa using hlt)]; simpa using h) (fun s h => hℓ s (Option.some.inj h))
  refine ⟨_, g, hw', rfl, .inr ⟨hc, w.heap.size, cap, _, sz, rfl, by simp [Gh.row, upd], heap_alloc_new w _, hcap, ?_, hpos, hsz, ?_, fun o ho => ?_⟩⟩
  · rw [Array.size_append, hrest]
    simp only [List.size_toArray, hyl, ← Nat.add_mul]
    congr 1; omega
  · refine seg_of_vals hsz (ys := ys) (fun k y h => ?_) (hys.imp fun p y _ h => h.mono g.ext.I)
    show (if w.heap.size = w.heap.size then _ else _) = _
    rw [if_pos rfl, Nat.zero_add]; exact h
  · show (if w.heap.size = w.heap.size then _ else _) = _
    rw [if_pos rfl, List.getElem?_eq_none (by omega)]

theorem size_zeroCells' (z : Array Value) (n : Nat) : (Builtin.zeroCells z n).size = n * z.size := by simp [Builtin.zeroCells]

theorem appNew_ok {e u : TypeId} {X : AV} {cb : List (List PV)} {ℓ : Own} {sz : Nat} (h : appNew P e u X = some cb) (hw : WI G w) (hX : RA G w ℓ X x) (hpos : 0 < sz) (hsz : ∀ el ∈ cb, el.length = sz) :
    (∃ d, P.underlying u = some d ∧ ∀ k, d ≠ .int k) ∧ ∃ news, Brings P w sz cb.length x news ∧ All2 (RP G.I) cb.flatten news := by
  unfold appNew at h
  split at h
  · rename_i e' hu
    exact ⟨⟨_, hu, by simp⟩, brings_slice hw hpos hsz (content_RP h hX)⟩
  · rename_i hu
    split at h
    case h_2 => cases h
    rename_i s
    split at h
    case isFalse => cases h
    cases h
    cases hX.strv
    refine ⟨⟨_, hu, by simp⟩, ?_⟩
    rw [List.length_map]
    by_cases hs : s = []
    · subst hs
      refine ⟨[], ⟨rfl, ?_, rfl, ?_⟩, .nil⟩ <;> simp [Builtin.firstCells, ByteArray.extract_mk]
    · have h1 : sz = 1 := by
        cases s with
        | nil => exact absurd rfl hs
        | cons b s => exact (hsz [PV.int .u8 b.toNat] (by simp)).symm
      subst h1
      exact brings_string
  · cases h

theorem append_ok {ts : List TypeId} {ty : TypeId} {sO : Operand} {X : AV} {ℓ : Own} (h : absAppend P ts (opd S.sl sO) X = some v) (hf : FR G w S a) (hw : WI G w) (hX : RA G w ℓ X x)
    (hdg : (∃ u, sO = .tmp u ∧ dg = if isOwn (opd S.sl sO) then some u else none) ∨ (∃ c, sO = .const c ∧ dg = none)) :
    ∃ z w' G', (Builtin.append_ ts.toArray ty #[a.eval sO, x]).run P w = .ok z w' ∧ Step G w S a dst v dg [] z G' w' := by
  unfold absAppend at h
  split at h
  case h_2 => cases h
  rename_i t u
  split at h
  case h_2 => cases h
  rename_i e ht
  split at h
  case h_1 => cases h
  case h_3 => cases h
  rename_i ca cb i hca hcb hi hnp
  split at h
  case isFalse => cases h
  rename_i hcond
  obtain ⟨hlim, hby, hpos, hz, hsa, hsb, hot⟩ := hcond
  cases h
  have hsa' : ∀ el ∈ ca, el.length = i.size := fun el hel => by simpa using List.all_eq_true.1 hsa el hel
  have hsb' : ∀ el ∈ cb, el.length = i.size := fun el hel => by simpa using List.all_eq_true.1 hsb el hel
  cases hzz : i.zero with
  | none => simp [hzz] at hz
  | some z =>
  have hzs : z.cells.size = i.size := by simpa [hzz] using hz
  obtain ⟨hu, news, hnews, hnall⟩ := appNew_ok hcb hw hX hpos hsb'
  have A : AppT P t u e i z := ⟨ht, hu, hi, hzz, hzs, hpos, hby⟩
  have hS := hf.opd sO
  have hit : ∀ t, dg = some t → (S.sl t).isIter = false := fun t e => by
    rcases hdg with ⟨u2, hs2, h4⟩ | ⟨c, hs2, h4⟩
    · rw [h4] at e
      split at e
      case isFalse => cases e
      have e2 := Option.some.inj e
      subst e2
      rw [hs2, show opd S.sl (.tmp u2) = S.sl u2 from rfl] at hca
      cases hv : S.sl u2 with
      | c v => rw [hv] at hca; cases v <;> first | rfl | (exfalso; cases hca; done)
      | agg l => rfl
      | tup l => rfl
    · rw [h4] at e; cases e
  let ℓd : Own := match dst with | some d => .slot d | none => .ret
  have hℓd : ∀ s, ℓd ≠ .box s := fun s => by cases dst <;> simp [ℓd]
  have hval : ∀ {G' : Gh} {w' : World} {y : Value}, OwnAt G' w' ℓd e (ca ++ cb) y → ∀ d, dst = some d → RA G' w' (.slot d) (.c (.own e (ca ++ cb))) y := fun hown d hd => by subst hd; exact hown
  have hlens : ∀ el ∈ ca ++ cb, el.length = i.size := fun el hel => by
    rcases List.mem_append.1 hel with h | h
    · exact hsa' el h
    · exact hsb' el h
  have hnl : news.length = cb.length * i.size := by rw [← hnall.length, flat_length _ _ hsb']
  -- a slice without room
  have fresh : ∀ ad, a.eval sO = .slice ad 0 0 → ca = [] → (ad = none ∨ ∃ uu, dg = some uu ∧ OwnAt G w (.slot uu) e [] (.slice ad 0 0)) → ∃ z w' G', (Builtin.append_ [t, u].toArray ty #[a.eval sO, x]).run P w = .ok z w' ∧ Step G w S a dst (.c (.own e (ca ++ cb))) dg [] z G' w' := by
    intro ad he hca0 hoa
    subst hca0
    rw [he]
    by_cases hb0 : cb = []
    · subst hb0
      have hn0 : news = [] := List.eq_nil_of_length_eq_zero (by rw [hnl]; simp)
      subst hn0
      rcases hoa with hoa | ⟨uu, hdu, hoa⟩
      · exact ⟨_, _, G, run_append_none A hnews, Step.of_gr (ch := fun _ => False) hf hw (.refl _ _) hw (hval (.inl ⟨rfl, ad, rfl, .inl hoa⟩)) (fun _ h => h.elim) (fun s l hl => .inl ⟨hl, fun h => h, fun _ h => h⟩) hf.nob hit⟩
      · obtain ⟨G', g, hw', hown', hbb⟩ := own_give (ℓ' := ℓd) hw hoa (by simp) hℓd
        exact ⟨_, _, G', run_append_none A hnews, Step.of_gr hf hw g hw' (hval hown') (fun t' ht' => .inr (by cases ht'; exact hdu)) (fun s l hl => .inl ⟨hl, by simp, by simp⟩) (fun s hs hlk => by rw [hbb]; exact hf.nob s hs hlk) hit⟩
    · have hcl : 0 < cb.length := List.length_pos_iff.2 hb0
      have hrun := run_append_new (ty := ty) A (ad := ad) (n := 0) (m := cb.length) (cap := 0) (olds := []) hnews (by cases ad <;> simp [Builtin.firstCells, loadCells, loadCellsFrom]) (by omega) (by simpa using hlim)
      obtain ⟨gd, hwd⟩ := drew_gr hw
      obtain ⟨G', g, hw', hbb, hown⟩ := own_new (w := w.drew) (ℓ := ℓd) (c := cb) (ys := news) (rest := Builtin.zeroCells z.cells (grownCap w (0 + cb.length) 0 e - (0 + cb.length))) (e := e) (cap := grownCap w (0 + cb.length) 0 e) hwd hpos hsb' hnall
        (by have := grownCap_ge w (0 + cb.length) 0 e; omega) (by rw [size_zeroCells', hzs]; congr 1; omega) hb0 hℓd
      refine ⟨_, _, G', hrun, Step.of_gr (ch := fun ℓ => False ∨ False) hf hw ?_ ?_ ?_ (fun _ h => by simp at h) (fun s l hl => .inl ⟨hl, by simp, by simp⟩) (fun s hs hlk => by rw [hbb]; exact hf.nob s hs hlk) hit⟩
      · simpa using gd.trans g
      · simpa using hw'
      · intro d hd
        refine hval ?_ d hd
        simpa using hown
  have hcases : (∃ ad, a.eval sO = .slice ad 0 0 ∧ ca = [] ∧ (ad = none ∨ ∃ uu, sO = .tmp uu ∧ isOwn (opd S.sl sO) = true ∧ OwnAt G w (.slot uu) e [] (.slice ad 0 0))) ∨ (∃ uu, sO = .tmp uu ∧ isOwn (opd S.sl sO) = true ∧ ca ≠ [] ∧ OwnAt G w (.slot uu) e ca (a.eval sO)) := by
    unfold content at hca
    split at hca
    · rename_i c' heq; exact (hnp _ heq).elim
    · rename_i e' c' heq
      cases hca
      rw [heq] at hS
      have hS' : OwnAt G w (place sO) e' ca (a.eval sO) := hS
      rcases hS' with ⟨h1, ad, h2, h3⟩ | h1
      · refine .inl ⟨ad, h2, h1, ?_⟩
        cases sO with
        | tmp uu => exact .inr ⟨uu, rfl, by rw [heq]; rfl, .inl ⟨rfl, ad, rfl, h3⟩⟩
        | const c => have := avOf_own c; rw [show opd S.sl (.const c) = avOf c from rfl] at heq; rw [heq] at this; cases this
        | func f => cases heq
        | global g => cases heq
      · cases sO with
        | tmp uu =>
          have hee : e' = e := by
            rw [heq] at hot
            rcases hot with hot | hot | hot
            · cases hot
            · exact Option.some.inj hot
            · exact absurd (by simpa using hot) h1.1
          subst hee
          exact .inr ⟨uu, rfl, by rw [heq]; rfl, h1.1, .inr h1⟩
        | const c => have := avOf_own c; rw [show opd S.sl (.const c) = avOf c from rfl] at heq; rw [heq] at this; cases this
        | func f => cases heq
        | global g => cases heq
    · rename_i heq
      cases hca
      rw [heq] at hS
      have hS' : a.eval sO = .slice none 0 0 := hS
      exact .inl ⟨none, hS', rfl, .inl rfl⟩
    · cases hca
  rcases hcases with ⟨ad, h1, h2, h0⟩ | ⟨uu, rfl, hown, hne, hrow⟩
  · refine fresh ad h1 h2 ?_
    rcases h0 with h0 | ⟨uu, rfl, ho, hoa⟩
    · exact .inl h0
    · refine .inr ⟨uu, ?_, hoa⟩
      rcases hdg with ⟨u2, h3, h4⟩ | ⟨c, h3, _⟩
      · cases h3; rw [h4, if_pos ho]
      · cases h3
  · have hdg' : dg = some uu := by
      rcases hdg with ⟨u2, h3, h4⟩ | ⟨c, h3, _⟩
      · cases h3; rw [h4, if_pos hown]
      · cases h3
    rcases hrow with ⟨h0, _⟩ | ⟨_, b, cap, cur, sz, hx, how, hheap, hcap, hcur, hsz0, hszs, hseg, hfree⟩
    · exact absurd h0 hne
    have hsz : sz = i.size := by
      cases ca with
      | nil => exact absurd rfl hne
      | cons el c => rw [← hszs el (by simp), hsa' el (by simp)]
    subst hsz
    rw [hx]
    have hne2 : ca ++ cb ≠ [] := by simp [hne]
    by_cases hroom : ca.length + cb.length ≤ cap
    · have hfit : ca.length * i.size + news.length ≤ cur.size := by rw [hnl, ← hcur, ← Nat.add_mul]; exact Nat.mul_le_mul_right _ hroom
      have hrun := run_append_in (ty := ty) A (g := b) (n := ca.length) (m := cb.length) (cap := cap) hnews hheap hroom hfit (fields_one hnall)
      obtain ⟨g, hw'⟩ := extRow_gr (ℓ' := ℓd) hw hheap hfit how (by simp) hℓd hfree
      refine ⟨_, _, _, hrun, Step.of_gr hf hw g hw' (hval ?_) (fun t' ht' => .inr (by cases ht'; exact hdg')) (fun s l hl => .inl ⟨hl, by simp, by simp⟩) (fun s hs hlk => hf.nob s hs hlk) hit⟩
      refine .inr ⟨hne2, b, cap, _, i.size, by rw [List.length_append], by simp [Gh.ext, upd], setRow_heap w b cur _ e _ hheap, by rw [List.length_append]; exact hroom, by rw [setArr_size _ _ _ hfit]; exact hcur, hpos, hlens, ?_, fun o ho => ?_⟩
      · obtain ⟨ys, hy1, hy2, hy3⟩ := seg_vals hpos hsa' hseg
        refine seg_of_vals hlens (ys := ys ++ news) (fun k y hk => ?_) ?_
        · show (if b = b ∧ ca.length * i.size ≤ 0 + k ∧ 0 + k < ca.length * i.size + news.length then news[0 + k - ca.length * i.size]? else G.I b (0 + k)) = _
          by_cases hlt : k < ys.length
          · rw [List.getElem?_append_left hlt] at hk
            rw [if_neg (by omega)]; exact hy2 k y hk
          · rw [List.getElem?_append_right (by omega)] at hk
            have hkl := (List.getElem?_eq_some_iff.1 hk).1
            rw [if_pos ⟨rfl, by omega, by omega⟩, ← hk]
            congr 1; omega
        · rw [List.flatten_append]
          exact (hy3.append hnall).imp fun p y _ h => h.mono g.ext.I
      · show (if b = b ∧ ca.length * i.size ≤ o ∧ o < ca.length * i.size + news.length then news[o - ca.length * i.size]? else G.I b o) = none
        rw [List.length_append, Nat.add_mul] at ho
        rw [if_neg (by omega)]; exact hfree o (by omega)
    · obtain ⟨ys, hy1, hy2, hy3⟩ := seg_vals hpos hsa' hseg
      have hold : (Builtin.firstCells i.size ca.length (.slice (some ⟨b, 0, none⟩) ca.length cap)).run P w.drew = .ok ys.toArray w.drew := by
        refine run_firstCells_some (P := P) w.drew i.size ca.length ⟨b, 0, none⟩ ca.length cap ys hy1 fun j y hj => ?_
        have hadd : (⟨b, 0, none⟩ : Addr).add j = ⟨b, 0 + j, none⟩ := by simp only [Addr.add]; split <;> simp_all
        rw [hadd]
        exact (drew_gr hw).2.cell _ _ _ (hy2 j y hj)
      have hrun := run_append_new (ty := ty) A (n := ca.length) (m := cb.length) (cap := cap) hnews hold (by omega) hlim
      obtain ⟨gd, hwd⟩ := drew_gr hw
      obtain ⟨G', g, hw', hbb, hown'⟩ := own_new (w := w.drew) (ℓ := ℓd) (c := ca ++ cb) (ys := ys ++ news) (rest := Builtin.zeroCells z.cells (grownCap w (ca.length + cb.length) cap e - (ca.length + cb.length))) (e := e) (cap := grownCap w (ca.length + cb.length) cap e) hwd hpos hlens
        (by rw [List.flatten_append]; exact hy3.append hnall) (by have := grownCap_ge w (ca.length + cb.length) cap e; rw [List.length_append]; omega) (by rw [size_zeroCells', hzs, List.length_append]) hne2 hℓd
      rw [show ys.toArray ++ news.toArray = (ys ++ news).toArray from by simp] at hrun
      refine ⟨_, _, G', hrun, Step.of_gr (ch := fun ℓ => False ∨ False) hf hw (gd.trans g) hw' (hval ?_) (fun _ h => by simp at h) (fun s l hl => .inl ⟨hl, by simp, by simp⟩) (fun s hs hlk => by rw [hbb]; exact hf.nob s hs hlk) hit⟩
      simpa using hown'
end
end Go.Abs
