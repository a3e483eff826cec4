/-
  THE ABSTRACT INTERPRETER: conversions.
-/
import Derived.Laws.Runes
import Derived.Test.YtcnodcgdceoijaaDoorAbsApp
import Derived.Laws.RangeString
set_option linter.unusedSimpArgs false
set_option linter.unusedVariables false
namespace Go.Abs
open Go

section
variable {P : Program} {G G' : Gh} {w w' : World} {S : St} {a : Act} {dst dg : Option Nat} {v : AV} {x : Value}

theorem bytesOf_ok : ∀ {c : List (List PV)} {s : List UInt8} {ys : List Value}, bytesOf c = some s → All2 (RP G.I) c.flatten ys → ∃ ns : List Int, ys = ns.map (Value.int .u8) ∧ s = ns.map fun n => UInt8.ofNat n.toNat
  | [], s, ys, h, hy => by
    simp [bytesOf] at h; subst h
    simp at hy; cases hy
    exact ⟨[], rfl, rfl⟩
  | e :: c, s, ys, h, hy => by
    unfold bytesOf at h
    split at h
    · rename_i heq; cases heq
    · rename_i n c' heq
      cases heq
      simp only [Option.map_eq_some_iff] at h
      obtain ⟨s', hs, rfl⟩ := h
      simp only [List.flatten_cons, List.singleton_append] at hy
      cases hy with
      | cons h1 h2 =>
      cases h1
      obtain ⟨ns, rfl, rfl⟩ := bytesOf_ok hs h2
      exact ⟨n :: ns, rfl, rfl⟩
    · cases h

theorem bytesOf_all : ∀ {c : List (List PV)} {s : List UInt8}, bytesOf c = some s → ∀ e ∈ c, e.length = 1
  | [], s, h, e, he => by simp at he
  | x :: c, s, h, e, he => by
    unfold bytesOf at h
    split at h
    · rename_i heq; cases heq
    · rename_i n c' heq
      cases heq
      simp only [Option.map_eq_some_iff] at h
      obtain ⟨s', hs, rfl⟩ := h
      rcases List.mem_cons.1 he with rfl | he
      · rfl
      · exact bytesOf_all hs e he
    · cases h

theorem fold_push : ∀ (ns : List Int) (s : List UInt8), ns.foldl (fun r n => r.push (UInt8.ofNat n.toNat)) (ByteArray.mk s.toArray) = ByteArray.mk (s ++ ns.map fun n => UInt8.ofNat n.toNat).toArray
  | [], s => by simp
  | n :: ns, s => by
    simp only [List.foldl_cons, List.map_cons]
    have : (ByteArray.mk s.toArray).push (UInt8.ofNat n.toNat) = ByteArray.mk (s ++ [UInt8.ofNat n.toNat]).toArray := by
      apply ByteArray.ext; simp [ByteArray.push]
    rw [this, fold_push ns]
    simp

theorem conv_ok {src dst' : TypeId} {X : AV} {ℓ : Own} (h : absConv P src dst' X = some v) (hf : FR G w S a) (hw : WI G w) (hX : RA G w ℓ X x) :
    ∃ z w' G', (Go.convert src dst' x).run P w = .ok z w' ∧ Step G w S a dst v none [] z G' w' := by
  unfold absConv at h
  split at h
  · rename_i k' k hs hd
    split at h
    case h_2 => cases h
    cases h
    exact ⟨_, _, G, conv_int ⟨_, hs⟩ hd hX.intv, Step.pure hf hw fun d _ => RA.of_RN (v := .pv (.int _ _)) (RP.int _ _)⟩
  · rename_i k hs hd
    split at h
    case h_2 => cases h
    cases h
    rw [hX.intv]
    refine ⟨_, _, G, run_convert_int_string _ _ _ _ _ (by rw [hs]; rfl) hd, Step.pure hf hw fun d _ => RA.of_RN (v := .pv (.str _)) ?_⟩
    exact RP.str _
  · rename_i hs hd
    split at h
    case h_2 => cases h
    cases h
    cases hX.strv
    exact ⟨_, _, G, conv_str ⟨_, hs⟩ hd, Step.pure hf hw fun d _ => RA.of_RN (v := .pv (.str _)) (RP.str _)⟩
  · rename_i e hs hd
    split at h
    case h_2 => cases h
    rename_i s
    split at h
    case isFalse => cases h
    rename_i hc
    simp only [Bool.and_eq_true] at hc
    cases h
    cases hX.strv
    have he : P.underlying e = some (.int .u8) := by
      have := hc.1
      unfold isU8 at this
      split at this
      · rename_i h; exact h
      · cases this
    have hsz : (ByteArray.mk s.toArray).size = s.length := by simp [ByteArray.size]
    have hrun := run_bytes_of_string w src dst' e (ByteArray.mk s.toArray) hs hd he
    rw [hsz] at hrun
    generalize hcap : grownCap w s.length 0 e = cap at hrun
    have hge : s.length ≤ cap := by rw [← hcap]; exact grownCap_ge w s.length 0 e
    obtain ⟨gd, hwd⟩ := drew_gr hw
    have hrow : ∀ (k : Nat) (y : Value), (s.map fun b => Value.int .u8 b.toNat)[k]? = some y → (bytesRow (ByteArray.mk s.toArray) cap)[k]? = some y := fun k y hk => by
      have hlt := (List.getElem?_eq_some_iff.1 hk).1
      unfold bytesRow
      rw [Array.getElem?_append_left (by simpa using hlt)]
      simpa using hk
    obtain ⟨g, hw'⟩ := newRow_gr hwd (cs := bytesRow (ByteArray.mk s.toArray) cap) (ty := e) (fz := ((bytesRow (ByteArray.mk s.toArray) cap).size, (bytesRow (ByteArray.mk s.toArray) cap).size + 1))
      (f := fun k => (s.map fun b => Value.int .u8 b.toNat)[k]?) (o := none) hrow (fun s h => by cases h)
    refine ⟨_, _, _, hrun, Step.of_gr hf hw (gd.trans g) hw' (fun d _ => RA.of_RN (v := .pv (.sl _)) ?_) (fun _ h => by simp at h) (fun s l hl => .inl ⟨hl, by simp, by simp⟩) (fun s hs hlk => hf.nob s hs hlk)⟩
    have hl : (s.map fun b => [PV.int .u8 b.toNat]).length = s.length := by simp
    show RP _ _ _
    rw [← hl]
    refine .of_seg (sz := 1) (by rw [hl]; exact hge) (fun el hel => by
      obtain ⟨b, _, rfl⟩ := List.mem_map.1 hel
      rfl) fun i el j p hi hj => ?_
    rw [List.getElem?_map] at hi
    cases hb : s[i]? with
    | none => simp [hb] at hi
    | some b =>
      simp [hb] at hi
      subst hi
      cases j with
      | succ j => simp at hj
      | zero =>
        simp at hj
        subst hj
        refine ⟨.int .u8 b.toNat, ?_, .int _ _⟩
        show (if w.drew.heap.size = w.drew.heap.size then _ else _) = _
        rw [if_pos rfl]
        simp [hb]
  · rename_i e hs hd
    split at h
    case isFalse => cases h
    rename_i hc
    have he : P.underlying e = some (.int .u8) := by
      unfold isU8 at hc
      split at hc
      · rename_i h; exact h
      · cases hc
    split at h
    case h_2 => cases h
    rename_i c hcon
    split at h
    case h_2 => cases h
    rename_i s hby
    cases h
    have hall := bytesOf_all hby
    obtain ⟨ad, cap, rfl, hcap, hne⟩ := (content_RP hcon hX).slice_inv
    by_cases hc0 : c = []
    · subst hc0
      simp [bytesOf] at hby
      subst hby
      refine ⟨.string (ByteArray.mk [].toArray), w, G, ?_, Step.pure hf hw fun d _ => RA.of_RN (v := .pv (.str _)) (RP.str _)⟩
      rw [run_convert_bytes_string w src dst' e ad _ _ hs he hd]
      cases ad with
      | none => rfl
      | some ad =>
        exact run_bytesToString (P := P) w ad 0 cap [] (by simp [loadCells, loadCellsFrom])
    · obtain ⟨b, o, sz, rfl, hsz, hseg⟩ := hne hc0
      have hs1 : sz = 1 := by
        cases c with
        | nil => exact absurd rfl hc0
        | cons el c => rw [← hsz el (by simp), hall el (by simp)]
      subst hs1
      obtain ⟨ys, h1, h2, h3⟩ := seg_vals (by omega) hsz hseg
      obtain ⟨ns, rfl, rfl⟩ := bytesOf_ok hby h3
      refine ⟨_, w, G, ?_, Step.pure hf hw fun d _ => RA.of_RN (v := .pv (.str _)) (RP.str _)⟩
      rw [run_convert_bytes_string w src dst' e _ _ _ hs he hd]
      have hload : (loadCells ⟨b, o, none⟩ c.length).run P w = .ok (ns.map (Value.int .u8)).toArray w := by
        have := run_loadCells_list (P := P) w ⟨b, o, none⟩ (ns.map (Value.int .u8)) (fun j y hy => by
          have hadd : (⟨b, o, none⟩ : Addr).add j = ⟨b, o + j, none⟩ := by simp only [Addr.add]; split <;> simp_all
          rw [hadd]; exact hw.cell _ _ _ (h2 j y hy))
        rw [← this]; congr 2; omega
      rw [run_bytesToString w _ _ _ ns hload]
      have := fold_push ns []
      simp only [List.nil_append] at this
      rw [← this]; rfl
  · cases h
/-! ### Iterators over strings -/

theorem newIter_gr (hw : WI G w) (s : ByteArray) (pos : Nat) {o : Option Own} (ho : ∀ s, o ≠ some (.box s)) :
    Gr (fun _ => False) G w { G with ow := upd G.ow w.heap.size o } (w.alloc (.stringIter s pos)) ∧ WI { G with ow := upd G.ow w.heap.size o } (w.alloc (.stringIter s pos)) := by
  refine ⟨⟨⟨fun _ _ _ h => h, fun c hc hn => ⟨?_, heap_old w _ c hc, fun k => rfl⟩, by rw [alloc_size]; omega, rfl, rfl, rfl, fun k hk => rfl⟩, fun s b hb => hb, fun b ℓ hb _ => ⟨?_, heap_old w _ b (ow_lt hw hb), fun k => rfl⟩⟩, ⟨fun b k y h => ?_, fun b hb => ?_, fun b s hb k => ?_, fun s b hb => ?_, hw.tab.map fun c hc hn => ⟨by show upd G.ow w.heap.size _ c = none; unfold upd; rw [if_neg (by omega)]; exact hn, heap_old w _ c hc⟩⟩⟩
  · show upd G.ow w.heap.size _ c = none
    unfold upd; rw [if_neg (by omega)]; exact hn
  · have := ow_lt hw hb
    show upd G.ow w.heap.size _ b = _
    unfold upd; rw [if_neg (by omega)]; exact hb
  · rw [cell_alloc_old w _ (I_lt hw h)]; exact hw.cell b k y h
  · rw [alloc_size] at hb
    refine ⟨fun k => (hw.fresh b (by omega)).1 k, ?_⟩
    show upd G.ow w.heap.size _ b = none
    unfold upd; rw [if_neg (by omega)]; exact (hw.fresh b (by omega)).2
  · have hb' : upd G.ow w.heap.size o b = some (.box s) := hb
    unfold upd at hb'
    split at hb'
    · exact absurd hb' (ho s)
    · exact hw.boxI b s hb' k
  · have h1 := hw.bbow s b hb
    have h2 := ow_lt hw h1
    show upd G.ow w.heap.size _ b = _
    unfold upd; rw [if_neg (by omega)]; exact h1

theorem range_ok {t : TypeId} {X : AV} {ℓ : Own} (h : absRange P t X = some v) (hf : FR G w S a) (hw : WI G w) (hX : RA G w ℓ X x) :
    ∃ z w' G', (Instr.range t x).run P w = .ok z w' ∧ Step G w S a dst v none [] z G' w' := by
  unfold absRange at h
  split at h
  case h_2 => cases h
  rename_i s
  split at h
  case h_2 => cases h
  rename_i ht
  cases h
  cases hX.strv
  let ℓd : Own := match dst with | some d => .slot d | none => .ret
  have hℓd : ∀ s, some ℓd ≠ some (.box s) := fun s => by cases dst <;> simp [ℓd]
  obtain ⟨g, hw'⟩ := newIter_gr hw (ByteArray.mk s.toArray) 0 hℓd
  refine ⟨_, _, _, run_range_string w t _ ht, Step.of_gr hf hw g hw' (fun d hd => ?_) (fun _ h => h.elim) (fun s l hl => .inl ⟨hl, fun h => h, fun _ h => h⟩) (fun s hs hlk => hf.nob s hs hlk)⟩
  subst hd
  exact ⟨w.heap.size, rfl, by simp [upd, ℓd], heap_alloc_new w _⟩

theorem heap_setI (w : World) (b c : Nat) (o : Obj) (h : c ≠ b) : (w.heap.setIfInBounds b o)[c]? = w.heap[c]? := by
  rw [Array.getElem?_setIfInBounds_ne (Ne.symm h)]

theorem iter_set_gr {b u : Nat} {s s' : ByteArray} {pos pos' : Nat} (hw : WI G w) (hb : w.heap[b]? = some (.stringIter s pos)) (ho : G.ow b = some (.slot u)) :
    Gr (fun ℓ => ℓ = .slot u) G w G { w with heap := w.heap.setIfInBounds b (.stringIter s' pos') } ∧ WI G { w with heap := w.heap.setIfInBounds b (.stringIter s' pos') } := by
  refine ⟨⟨⟨fun _ _ _ h => h, fun c hc hn => ⟨hn, heap_setI w b c _ (fun e => by rw [e, ho] at hn; cases hn), fun k => rfl⟩, by simp, rfl, rfl, rfl, fun k hk => rfl⟩, fun s b hb => hb, fun c ℓ hc hne => ⟨hc, heap_setI w b c _ (fun e => by rw [e, ho] at hc; exact hne (Option.some.inj hc).symm), fun k => rfl⟩⟩, ⟨fun c k y h => ?_, fun c hc => hw.fresh c (by simpa using hc), hw.boxI, hw.bbow, hw.tab.map fun c hc hn => ⟨hn, heap_setI w b c _ (fun e => by rw [e, ho] at hn; cases hn)⟩⟩⟩
  have h0 := hw.cell c k y h
  have hne : c ≠ b := fun e => by
    subst e
    simp [World.cell?, hb] at h0
  rw [← h0]
  simp only [World.cell?]
  rw [heap_setI w b c _ hne]

theorem RT_pv {p : PV} {x : Value} (h : RP G.I p x) : RT G (.c (.pv p)) x := h

theorem next_ok {str : Bool} {X : Operand} {ty : TypeId} {d : Delta} (h : absNext dst str X (opd S.sl X) = some d) (hf : FR G w S a) (hw : WI G w) :
    ∃ v dg z w', d = .val v dg [] ∧ (Instr.next (a.eval X) str ty).run P w = .ok z w' ∧ Step G w S a dst v dg [] z G w' := by
  unfold absNext at h
  split at h
  case h_2 => cases h
  rename_i u s pos hv
  split at h
  case isFalse => cases h
  rename_i hc
  simp only [Bool.and_eq_true, bne_iff_ne, ne_eq] at hc
  obtain ⟨rfl, hdu⟩ := hc
  have hX := hf.opd (.tmp u)
  rw [hv] at hX
  obtain ⟨b, he, ho, hh⟩ : IterAt G w (.slot u) s pos (a.eval (.tmp u)) := hX
  have hsz : (ByteArray.mk s.toArray).size = s.length := by simp [ByteArray.size]
  split at h
  · rename_i hlt
    cases h
    obtain ⟨g, hw'⟩ := iter_set_gr (s' := ByteArray.mk s.toArray) (pos' := iterNext s pos) hw hh ho
    have hrun : (Instr.next (a.eval (.tmp u)) true ty).run P w = .ok (.tuple #[.bool true, .int .i64 pos, .int .i32 (Utf8.decode (ByteArray.mk s.toArray) pos).1]) { w with heap := w.heap.setIfInBounds b (.stringIter (ByteArray.mk s.toArray) (iterNext s pos)) } := by
      rw [he]
      have hbl : b < w.heap.size := (Array.getElem?_eq_some_iff.1 hh).1
      simp [Instr.next, getObj, setObj, Sem.run, hh, hsz, hlt, goInt, iterNext]
    refine ⟨_, _, _, _, rfl, hrun, ⟨g.ext, hw', fun d' hd => ?_, fun t ht => ?_, fun s l hl => (hf.box s l hl).gr hw g (by simp) (by simp), fun s hs hlk => hf.nob s hs hlk⟩⟩
    · exact ⟨_, rfl, .cons (RT_pv (.bool _)) (.cons (RT_pv (.int _ _)) (.cons (RT_pv (.int _ _)) .nil))⟩
    · by_cases htu : u = t
      · subst htu
        rw [if_pos rfl, show S.sl u = .c (.iter s pos) from hv]
        have hbl : b < w.heap.size := (Array.getElem?_eq_some_iff.1 hh).1
        exact ⟨b, he, ho, by simp [hbl]⟩
      · rw [if_neg (by simpa using htu)]
        exact (hf.slot t).gr g (by simpa using Ne.symm htu)
  · rename_i hlt
    cases h
    have hrun : (Instr.next (a.eval (.tmp u)) true ty).run P w = .ok (.tuple #[.bool false]) w := by
      rw [he]
      simp [Instr.next, getObj, Sem.run, hh, hsz, hlt]
    exact ⟨_, _, _, _, rfl, hrun, Step.pure hf hw fun d _ => ⟨_, rfl, .cons (RT_pv (.bool _)) .nil⟩⟩
end
end Go.Abs
