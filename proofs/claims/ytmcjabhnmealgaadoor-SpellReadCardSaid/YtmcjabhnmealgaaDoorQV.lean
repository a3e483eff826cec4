/-
  FROM A ROW's READING TO THE INTERPRETER's VALUES: an argument that reads as data is data without memory; a law whose answer the interpreter gives as 'true' meets its row.
  DATA OF A TYPE: what reads as a value of a struct, of a slice.
-/
import Derived.Test.YtmcjabhnmealgaaDoorQI
import Derived.Test.YtmcjabhnmealgaaDoorRows
import Derived.ReadAgain
import Derived.ChangeBears
import Derived.RowKit
import Derived.OpenShut
import Derived.SizedLaws
import Derived.Deep.DeepHandedRow
import Derived.Lib.LaidTab
set_option linter.unusedSimpArgs false
set_option linter.unusedVariables false
namespace Go.Abs
open Go Go.Proofs Go.ChangeShapes Go.WideShapes Go.ChangeAt Go.RowKit

/-- Data of a type: what a row's reading says of it. -/
def TyP (P : Program) : Nat → TypeId → List PV → Prop
  | 0, _, _ => False
  | n + 1, t, ps =>
    match P.underlying t with
    | some .bool => ∃ b, ps = [.bool b]
    | some (.int k) => ∃ z, ps = [.int k z] ∧ (Lit.int k z).wf = true
    | some .string => ∃ s, ps = [.str s] ∧ s.length ≤ reachBytes
    | some (.slice e) => ∃ c, ps = [.sl c] ∧ c.length ≤ reachBytes ∧ ∀ el ∈ c, TyP P n e el
    | some (.struct fs) => ps.length = P.cellsOf t ∧ ∀ (i : Nat) (f : Field), fs[i]? = some f → TyP P n f.type ((ps.drop f.offset).take (P.cellsOf f.type))
    | _ => False

/-- a set of types of plain data, closed -/
def flatSet (P : Program) (L : List TypeId) : Bool := L.all fun t => decide (t < P.types.size) &&
  match P.underlying t with
  | some .bool | some (.int _) | some .string => P.cellsOf t == 1
  | some (.slice e) => L.contains e && decide (0 < P.cellsOf e) && decide (0 < P.bytesOf e) && P.cellsOf t == 1
  | some (.struct fs) => fs.toList.all fun f => L.contains f.type
  | _ => false

section
variable {H : Type} {enc : TypeId × Value → H} {P : Program} {w : World}

theorem cells_at {base n : Nat} {a : Addr} {cs : List Value} (h : w.cells? base a n = some cs) : cs.length = n ∧ ∀ (k : Nat) (y : Value), cs[k]? = some y → w.cell? (a.add k) = some y := by
  unfold World.cells? at h
  split at h
  case isFalse => cases h
  have hl : cs.length = n := by simpa using mapM_some_length h
  refine ⟨hl, fun k y hk => ?_⟩
  have hlt : k < n := by have := (List.getElem?_eq_some_iff.1 hk).1; omega
  have := mapM_some_get h k k (by simp [hlt])
  rw [this, hk]

theorem add_add (b o m j : Nat) : ((⟨b, o, none⟩ : Addr).add m).add j = ⟨b, o + (m + j), none⟩ := by
  simp only [Addr.add]
  split <;> split <;> simp_all [Nat.add_assoc]

theorem cell_addr {a : Addr} {y : Value} (h : w.cell? a = some y) : a = ⟨a.block, a.off, none⟩ := by
  unfold World.cell? at h
  cases a with
  | mk b o s =>
    cases s with
    | none => rfl
    | some k => simp at h; split at h <;> simp at h

/-- the fields of a struct, one behind the other -/
theorem parts_ok {I : Nat → Nat → Option Value} {n : Nat} : ∀ (fs : List Field) (k : Nat) (cs : List Value), (∀ (j : Nat) (f : Field), fs[j]? = some f → f.offset = k + ((fs.take j).map fun f => P.cellsOf f.type).sum) →
    (∀ f ∈ fs, ∃ ps, TyP P n f.type ps ∧ All2 (RP I) ps ((cs.drop f.offset).take (P.cellsOf f.type)) ∧ ps.length = P.cellsOf f.type) → cs.length = k + (fs.map fun f => P.cellsOf f.type).sum →
    ∃ ps, ps.length = (fs.map fun f => P.cellsOf f.type).sum ∧ All2 (RP I) ps (cs.drop k) ∧ ∀ (j : Nat) (f : Field), fs[j]? = some f → TyP P n f.type ((ps.drop (f.offset - k)).take (P.cellsOf f.type))
  | [], k, cs, _, _, hl => ⟨[], rfl, by rw [List.drop_eq_nil_of_le (by simp at hl; omega)]; exact .nil, fun j f h => by simp at h⟩
  | f :: fs, k, cs, ho, hf, hl => by
    have ho0 := ho 0 f rfl
    simp at ho0
    obtain ⟨p0, h1, h2, h3⟩ := hf f (by simp)
    simp only [List.map_cons, List.sum_cons] at hl
    obtain ⟨ps, h4, h5, h6⟩ := parts_ok fs (k + P.cellsOf f.type) cs (fun j g hg => by
      have := ho (j + 1) g (by simpa using hg)
      simp only [List.take_succ_cons, List.map_cons, List.sum_cons] at this
      omega) (fun g hg => hf g (by simp [hg])) (by omega)
    refine ⟨p0 ++ ps, by simp [h3, h4], ?_, fun j g hg => ?_⟩
    · rw [ho0] at h2
      have : cs.drop k = (cs.drop k).take (P.cellsOf f.type) ++ cs.drop (k + P.cellsOf f.type) := by
        rw [← List.drop_drop, List.take_append_drop]
      rw [this]
      exact h2.append h5
    · cases j with
      | zero =>
        simp at hg
        subst hg
        rw [ho0, Nat.sub_self, List.drop_zero, List.take_left' h3]
        exact h1
      | succ j =>
        have hg' : fs[j]? = some g := by simpa using hg
        have := h6 j g hg'
        have hoj := ho (j + 1) g hg
        simp only [List.take_succ_cons, List.map_cons, List.sum_cons] at hoj
        have hle : k + P.cellsOf f.type ≤ g.offset := by omega
        rw [List.drop_append, List.drop_eq_nil_of_le (by omega), List.nil_append, h3]
        rw [show g.offset - k - P.cellsOf f.type = g.offset - (k + P.cellsOf f.type) by omega]
        exact this

theorem weights_all {e : TypeId} : ∀ {l : List (DataW H)} {d : DataW H}, d ∈ l → ∀ n ∈ d.weights P e, n ∈ DataW.weightsAll P e l
  | d' :: l, d, h, n, hn => by
    unfold DataW.weightsAll
    rw [List.mem_append]
    rcases List.mem_cons.1 h with rfl | h
    · exact .inl hn
    · exact .inr (weights_all h n hn)

theorem weights_each : ∀ {ts : List TypeId} {ds : List (DataW H)} {j : Nat} {t : TypeId} {d : DataW H}, ts[j]? = some t → ds[j]? = some d → ∀ n ∈ d.weights P t, n ∈ DataW.weightsEach P ts ds := DataW.weights_mem_each

/-- A READING IS DATA. -/
theorem trod_RP {I : Nat → Nat → Option Value} (hI : ∀ b o y, w.cell? ⟨b, o, none⟩ = some y → I b o = some y) (K0 : Kids P (· < P.types.size)) {L : List TypeId} (hL : flatSet P L = true) {base : Nat} {sp : Nat → Bool} {held : Bool} :
    ∀ (n : Nat) (t : TypeId) (cs : List Value) (x : DataW H × List MemPlace), DataW.trod enc P w base sp held n t cs = some x → t ∈ L → (∀ m ∈ x.1.weights P t, m ≤ reachBytes) → ∃ ps, TyP P n t ps ∧ All2 (RP I) ps cs ∧ ps.length = P.cellsOf t := by
  intro n
  induction n with
  | zero => intro t cs x h; simp [DataW.trod] at h
  | succ n ih =>
    intro t cs x h ht hw
    have hLt := List.all_eq_true.1 hL t ht
    simp only [Bool.and_eq_true, decide_eq_true_eq] at hLt
    obtain ⟨hlt, hLt⟩ := hLt
    unfold TyP
    split at hLt
    · rename_i hu
      obtain ⟨b, rfl, rfl⟩ := DataW.trod_bool hu h
      exact ⟨[.bool b], ⟨b, rfl⟩, .cons (.bool b) .nil, (by simpa using hLt : P.cellsOf t = 1).symm⟩
    · rename_i k hu
      obtain ⟨z, rfl, rfl, hwf⟩ := DataW.trod_int hu h
      exact ⟨[.int k z], ⟨z, rfl, hwf⟩, .cons (.int k z) .nil, (by simpa using hLt : P.cellsOf t = 1).symm⟩
    · rename_i hu
      obtain ⟨s, rfl, rfl, hsz⟩ := DataW.trod_string hu h
      refine ⟨[.str s.data.toList], ⟨_, rfl, hw _ (by simp [DataW.weights])⟩, .cons ?_ .nil, (by simpa using hLt : P.cellsOf t = 1).symm⟩
      exact .str _
    · rename_i e hu
      simp only [Bool.and_eq_true, decide_eq_true_eq] at hLt
      obtain ⟨⟨⟨he, hpos⟩, hby⟩, hc1⟩ := hLt
      have hc1 : P.cellsOf t = 1 := by simpa using hc1
      rcases DataW.trod_slice hu h with ⟨rfl, rfl⟩ | ⟨a, len, cap, elems, rest, m, hfuel, rfl, rfl, _, hlc, _, hel, hget, _, _⟩
      · exact ⟨[.sl []], ⟨[], rfl, by simp, by simp⟩, .cons (.sl0 none 0) .nil, hc1.symm⟩
      · have hm : m = n := by omega
        subst hm
        have hwt : ∀ m ∈ (elems.length + rest.length) * P.bytesOf e :: (DataW.weightsAll P e (elems.map (·.1)) ++ DataW.weightsAll P e (rest.map (·.1))), m ≤ reachBytes := by
          have : DataW.weights P t (DataW.slice (elems.map (·.1)) (rest.map (·.1))) = (elems.length + rest.length) * P.bytesOf e :: (DataW.weightsAll P e (elems.map (·.1)) ++ DataW.weightsAll P e (rest.map (·.1))) := by
            simp [DataW.weights, hu]
          rw [← this]; exact hw
        have hlenb : len ≤ reachBytes := by
          have h1 := hwt _ (List.mem_cons_self ..)
          have h2 : (elems.length + rest.length) * 1 ≤ (elems.length + rest.length) * P.bytesOf e := Nat.mul_le_mul_left _ hby
          omega
        have hone : ∀ i, i < len → ∃ ps, TyP P m e ps ∧ ps.length = P.cellsOf e ∧ ∀ (j : Nat) (p : PV), ps[j]? = some p → ∃ y, w.cell? ((a.add (i * P.cellsOf e)).add j) = some y ∧ RP I p y := by
          intro i hi
          have hg := hget i hi
          have hsome : ∃ y, elems[i]? = some y := ⟨elems[i]'(by omega), by simp [hel, hi]⟩
          obtain ⟨y, hy⟩ := hsome
          rw [hy, Option.bind_eq_some_iff] at hg
          obtain ⟨cs', hcs, htr⟩ := hg
          obtain ⟨ps, h1, h2, h3⟩ := ih e cs' y htr (by simpa using he) fun q hq => hwt q (List.mem_cons_of_mem _ (List.mem_append_left _ (weights_all (List.mem_map.2 ⟨y, List.mem_of_getElem? hy, rfl⟩) q hq)))
          obtain ⟨h4, h5⟩ := cells_at hcs
          refine ⟨ps, h1, h3, fun j p hj => ?_⟩
          obtain ⟨z, hz, hr⟩ := h2.get hj
          exact ⟨z, h5 j z hz, hr⟩
        obtain ⟨g, hg⟩ : ∃ g : Nat → List PV, ∀ i, i < len → TyP P m e (g i) ∧ (g i).length = P.cellsOf e ∧ ∀ (j : Nat) (p : PV), (g i)[j]? = some p → ∃ y, w.cell? ((a.add (i * P.cellsOf e)).add j) = some y ∧ RP I p y := by
          refine ⟨fun i => if hi : i < len then (hone i hi).choose else [], fun i hi => ?_⟩
          simp only [dif_pos hi]
          exact (hone i hi).choose_spec
        have hcget : ∀ (i : Nat) (el : List PV), ((List.range len).map g)[i]? = some el → i < len ∧ el = g i := fun i el hi => by
          have hlt' := (List.getElem?_eq_some_iff.1 hi).1
          simp at hlt'
          rw [List.getElem?_map, List.getElem?_range hlt'] at hi
          simp at hi
          exact ⟨hlt', hi.symm⟩
        refine ⟨[.sl ((List.range len).map g)], ⟨_, rfl, by simpa using hlenb, fun el hel' => ?_⟩, .cons ?_ .nil, hc1.symm⟩
        · obtain ⟨i, hi, rfl⟩ := List.mem_map.1 hel'
          exact (hg i (by simpa using hi)).1
        · by_cases h0 : len = 0
          · subst h0
            exact .sl0 _ _
          · obtain ⟨p0, hp0⟩ : ∃ p, (g 0)[0]? = some p := ⟨(g 0)[0]'(by rw [(hg 0 (by omega)).2.1]; exact hpos), by simp⟩
            obtain ⟨y0, hy0, _⟩ := (hg 0 (by omega)).2.2 0 p0 hp0
            have hadd0 : (a.add (0 * P.cellsOf e)).add 0 = a := by simp [Addr.add]
            rw [hadd0] at hy0
            have ha := cell_addr hy0
            have := RP.of_seg (I := I) (c := (List.range len).map g) (b := a.block) (o := a.off) (cap := cap) (sz := P.cellsOf e) (by simpa using hlc) (fun el hel' => by
              obtain ⟨i, hi, rfl⟩ := List.mem_map.1 hel'
              exact (hg i (by simpa using hi)).2.1) (fun i el j p hi hj => by
              obtain ⟨hlt', rfl⟩ := hcget i el hi
              obtain ⟨y, h1, h2⟩ := (hg i hlt').2.2 j p hj
              refine ⟨y, hI _ _ _ ?_, h2⟩
              have hadd : (a.add (i * P.cellsOf e)).add j = ⟨a.block, a.off + (i * P.cellsOf e + j), none⟩ := by
                have := add_add a.block a.off (i * P.cellsOf e) j
                rw [← ha] at this; exact this
              rw [hadd] at h1
              exact h1)
            rw [← ha] at this
            simpa using this
    · rename_i fs hu
      obtain ⟨xs, m, hfuel, rfl, hcl, hxl, hget⟩ := DataW.trod_struct hu h
      have hm : m = n := by omega
      subst hm
      obtain ⟨hf1, hf2, hf3⟩ := K0.struct hlt hu
      have hwt : ∀ m ∈ DataW.weightsEach P (fs.toList.map (·.type)) (xs.map (·.1)), m ≤ reachBytes := by
        have : DataW.weights P t (DataW.agg (xs.map (·.1))) = DataW.weightsEach P (fs.toList.map (·.type)) (xs.map (·.1)) := by
          rw [DataW.weights, hu]
        rw [← this]; exact hw
      obtain ⟨ps, h1, h2, h3⟩ := parts_ok (P := P) (I := I) (n := m) fs.toList 0 cs (fun j f hj => by rw [hf3 j f hj]; omega) (fun f hf => by
        obtain ⟨i, hi⟩ := List.mem_iff_getElem?.1 hf
        have hi' : fs[i]? = some f := by simpa using hi
        have hg := hget i f hi'
        have hlt' : i < fs.size := (Array.getElem?_eq_some_iff.1 hi').1
        obtain ⟨y, hy⟩ : ∃ y, xs[i]? = some y := ⟨xs[i]'(by omega), by simp [hxl, hlt']⟩
        rw [hy] at hg
        exact ih f.type _ y hg (by simpa using List.all_eq_true.1 hLt f hf) fun q hq => hwt q (weights_each (j := i) (t := f.type) (d := y.1) (by simp [hi']) (by simp [hy]) q hq)) (by rw [hcl, hf2]; omega)
      refine ⟨ps, ⟨by rw [h1, hf2], fun i f hi => ?_⟩, by simpa using h2, by rw [h1, hf2]⟩
      have := h3 i f (by simpa using hi)
      simpa using this
    · cases hLt

/-- how an argument of a type stands: a struct as its cells, all else as one -/
def argOf (P : Program) (t : TypeId) (ps : List PV) : AV :=
  match P.underlying t with
  | some (.struct _) => .agg (ps.map CV.pv)
  | _ => match ps with
    | [p] => .c (.pv p)
    | _ => .c .top

theorem ok_one {r : Reach} {base : Nat} {t : TypeId} {v : Value} (h : Value.okWide P w r base t v) (hs : (∀ fs, P.underlying t ≠ some (.struct fs)) ∧ ∀ n e, P.underlying t ≠ some (.array n e)) : v.cells = #[v] := by
  unfold Value.okWide at h
  split at h
  · exact absurd ‹_› (hs.1 _)
  · exact absurd ‹_› (hs.2 _ _)
  · cases v <;> first | rfl | (unfold Cell.okWide Cell.ok at h; split at h <;> simp_all)

/-- what is left behind a call reads as it did -/
theorem post_of_old {f : Func} {s : ChangeSpec} {apart fresh handsOn again : Bool} {W W' : World} {args : Array Value} {v : Value} {ds gs : List (DataW H)} {before pa pv : List MemPlace}
    (hW : DataW.Whole enc P f.params.toList s.vars apart W args.toList ds gs before)
    (hres : ∀ (b : Nat) (sp : Nat → Bool) (hd : Bool), DataW.TrodAll enc P W' b sp hd f.resultTypes.toList (v.resultList f.resultTypes.size) (s.fn H (ds ++ gs)).results [])
    (hargs : ∀ sp : Nat → Bool, (∀ p ∈ before, sp p.block = true) → DataW.TrodAll enc P W' 0 sp true f.params.toList args.toList (s.fn H (ds ++ gs)).args pa)
    (hvars : ∀ sp : Nat → Bool, (∀ p ∈ before, sp p.block = true) → DataW.TrodVars enc P W' sp s.vars (s.fn H (ds ++ gs)).vars pv)
    (hps : before = pa ++ pv) (hk : W.keptBut W' (· ∈ before)) (hfz : ∀ a : Addr, a.block < W.heap.size → W'.frozen? a = W.frozen? a)
    (hok : ∀ (j : Nat) (t : TypeId) (r : Value), f.resultTypes[j]? = some t → (v.resultList f.resultTypes.size)[j]? = some r → Value.okWide P W' .any 0 t r) :
    s.post enc P f apart fresh handsOn again W args v W' := by
  have hold : ∀ p ∈ before, (fun b => decide (b < W.heap.size)) p.block = true := fun p hp => by simpa using hW.lt p hp
  have hlt := fun p hp => hW.lt p hp
  refine ⟨ds, gs, before, [], pa, pv, hW, hres _ _ _, hargs _ hold, hvars _ hold, World.keptBut_mono (fun p hp => ⟨hp, ?_⟩) hk, fun _ => ?_⟩
  · rw [hps, List.mem_append] at hp
    exact Or.inr hp
  · obtain ⟨_, _, _, _, _, hz, hn⟩ := hW
    refine ⟨hok, _, _, ([] ++ pa) ++ pv, ⟨[] ++ pa, pv, trodAll_append (hargs _ (fun _ _ => rfl)) (hres _ _ _), hvars _ (fun _ _ => rfl), rfl, ?_, ?_⟩, ?_⟩
    · intro b off hp
      have hp' : MemPlace.cell b off ∈ before := by rw [hps]; simpa using hp
      rw [hfz _ (hlt _ hp')]
      exact hz b off hp'
    · intro ha
      have := hn ha
      rw [hps] at this
      simpa using this
    · intro p hp _
      rw [hps]
      simpa using hp

/-- all of old memory, as data -/
def oldGh (w : World) : Gh := { I := fun b o => w.cell? ⟨b, o, none⟩, bb := fun _ => none, ow := fun _ => none }

theorem oldWI (h : TabOK (oldGh w) w) : WI (oldGh w) w :=
  ⟨fun _ _ _ h => h, fun b hb => ⟨fun o => by
    show w.cell? ⟨b, o, none⟩ = none
    unfold World.cell?
    have : w.heap[b]? = none := Array.getElem?_eq_none hb
    simp [this], rfl⟩, fun _ _ h => (by cases h), fun _ _ h => (by cases h), h⟩

theorem keptBut_of_old {W W' : World} (hos : W'.os = W.os) (hout : W'.output = W.output) (h : ∀ b, b < W.heap.size → W'.heap[b]? = W.heap[b]?) (may : MemPlace → Prop) : W.keptBut W' may := by
  refine ⟨hos, hout, fun i hi => ?_⟩
  rw [h i hi]
  split
  · rename_i h1 h2; rw [h1] at h2; cases h2; exact ⟨rfl, rfl, rfl, fun _ _ => rfl⟩
  · rename_i h1 h2; rw [h1] at h2; cases h2; exact .inr ⟨rfl, rfl⟩
  · rfl
end


/-! ### This program -/

theorem kids : Kids Tryd.prog (· < Tryd.prog.types.size) := kids_rows (by kernel_rfl) (by kernel_rfl)
theorem slices_full : ∀ t e, t < Tryd.prog.types.size → Tryd.prog.underlying t = some (.slice e) → 0 < Tryd.prog.cellsOf e := slices_full_of _ (by kernel_rfl)

theorem laid_mem {w : World} : ∀ {l : List (String × DataW Unit)} {ps : List MemPlace}, DataW.LaidVars Tryd.prog w l ps → ∀ {n : String} {d : DataW Unit}, (n, d) ∈ l →
    ∃ g t cs fuel p, Tryd.prog.globalNamed n = some g ∧ (Tryd.prog.globals[g]?).map (·.type) = some t ∧ w.var? Tryd.prog n = some cs ∧ DataW.trod (fun _ => ()) Tryd.prog w 0 (fun _ => true) false fuel t cs.toList = some (d, p)
  | [], _, _, n, d, hm => by simp at hm
  | (m, e) :: l, ps, h, n, d, hm => by
    obtain ⟨g, t, cs, fuel, p, q, h1, h2, h3, h4, h5, _⟩ := h
    rcases List.mem_cons.1 hm with h | h
    · cases h; exact ⟨g, t, cs, fuel, p, h1, h2, h3, h4⟩
    · exact laid_mem h5 h

set_option maxRecDepth 100000 in
theorem tab_ok {W : World} {laid : List (String × DataW Unit)} (hL : laidMet Tryd.prog laid W) (hm : ("internal/strconv.uint64pow10", Go.Proofs.YtmcjabhnmealgaaDoor.Rows.laid_internal_strconv_uint64pow10) ∈ laid) (hsh : W.ShapedOpen Tryd.prog) : TabOK (oldGh W) W := by
  refine ⟨fun x hx => ⟨rfl, ?_⟩, fun b hb => ⟨rfl, ?_⟩⟩
  · simp only [tabs, List.mem_cons, List.not_mem_nil, or_false] at hx
    subst hx
    obtain ⟨ps, hl, _⟩ := hL
    obtain ⟨g, t, cs, fuel, p, h1, h2, h3, h4⟩ := laid_mem hl hm
    have hg : g = 1 := Option.some.inj (h1.symm.trans (show Tryd.prog.globalNamed "internal/strconv.uint64pow10" = some 1 by kernel_rfl))
    subst hg
    have ht : t = 128 := Option.some.inj (h2.symm.trans (show (Tryd.prog.globals[1]?).map (·.type) = some 128 by kernel_rfl))
    subst ht
    have hcs := Lib.cells_of_tab (k := .u64) (zs := (List.range 20).map fun i => ((10 ^ i : Nat) : Int)) (n := 20) (e := 115) (by kernel_rfl) (by kernel_rfl) (by kernel_rfl) (by kernel_rfl) (h := h4)
    simp only [World.var?, h1, Option.bind_some] at h3
    split at h3
    · rename_i cs' ty fz hh
      cases h3
      refine ⟨ty, fz, hh.trans ?_⟩
      have : cs = cs.toList.toArray := by simp
      rw [this, hcs]
      simp
    · cases h3
  · simp only [ints, List.mem_cons, List.not_mem_nil, or_false] at hb
    subst hb
    obtain ⟨cs, hh, hs, hr⟩ := hsh.1 0 #[.int .i64 0] 3 (of_decide_eq_true (by kernel_rfl)) (by kernel_rfl)
    obtain ⟨ts, hts, _, hall⟩ := hr (by kernel_rfl)
    have hct : Tryd.prog.cellTypes Tryd.prog.depth 3 = some [3] := by kernel_rfl
    have hts' : ts = [3] := Option.some.inj (hts.symm.trans hct)
    subst hts'
    have h1 : 0 < cs.size := by rw [hs]; simp
    obtain ⟨u, hu', hok⟩ := hall 0 cs[0] (by simp [h1])
    have hu0 : u = 3 := by simpa using hu'.symm
    subst hu0
    unfold Cell.ok at hok
    rw [show Tryd.prog.underlying 3 = some (.int .i64) by kernel_rfl] at hok
    cases hv : cs[0] with
    | int k m =>
      rw [hv] at hok
      obtain ⟨rfl, _⟩ := hok
      exact ⟨m, cs, 3, _, hh, by simp [h1, hv]⟩
    | _ => rw [hv] at hok; simp at hok


/-! ### A law -/

section
variable {H : Type} {enc : TypeId × Value → H}

set_option maxRecDepth 100000 in
theorem args_ok {W : World} {base : Nat} {L : List TypeId} (hL : flatSet Tryd.prog L = true) : ∀ {ts : List TypeId} {vs : List Value} {ds : List (DataW H)} {ps : List MemPlace}, DataW.TrodAll enc Tryd.prog W 0 (fun _ => true) true ts vs ds ps → (∀ t ∈ ts, t ∈ L) →
    (∀ (j : Nat) (t : TypeId) (v : Value), ts[j]? = some t → vs[j]? = some v → Value.okWide Tryd.prog W .any base t v) → (∀ m ∈ DataW.weightsEach Tryd.prog ts ds, m ≤ reachBytes) →
    ∃ pss : List (List PV), All2 (fun t p => ∃ n, TyP Tryd.prog n t p) ts pss ∧ All2 (fun v x => RA (oldGh W) W .ret v x) (List.zipWith (argOf Tryd.prog) ts pss) vs ∧ ∀ v ∈ List.zipWith (argOf Tryd.prog) ts pss, isOwn v = false
  | [], [], [], _, _, _, _, _ => ⟨[], .nil, .nil, by simp⟩
  | t :: ts, v :: vs, d :: ds, ps, h, hts, hval, hw => by
    obtain ⟨p, q, ⟨n, h1⟩, h2, _⟩ := h
    have hw1 : ∀ m ∈ d.weights Tryd.prog t, m ≤ reachBytes := fun m hm => hw m (by unfold DataW.weightsEach; exact List.mem_append_left _ hm)
    have hw2 : ∀ m ∈ DataW.weightsEach Tryd.prog ts ds, m ≤ reachBytes := fun m hm => hw m (by unfold DataW.weightsEach; exact List.mem_append_right _ hm)
    have hv2 : ∀ (j : Nat) (u : TypeId) (x : Value), ts[j]? = some u → vs[j]? = some x → Value.okWide Tryd.prog W .any base u x := by
      intro j u x hj hx
      refine hval (j + 1) u x ?_ ?_
      · rw [List.getElem?_cons_succ]; exact hj
      · rw [List.getElem?_cons_succ]; exact hx
    obtain ⟨pss, h3, h4, h5⟩ := args_ok hL h2 (fun u hu => hts u (List.mem_cons_of_mem _ hu)) hv2 hw2
    obtain ⟨pv, h6, h7, h8⟩ := trod_RP (w := W) (I := (oldGh W).I) (fun _ _ _ h => h) kids hL n t _ _ h1 (hts t (by simp)) hw1
    have hok := hval 0 t v rfl rfl
    have key : RA (oldGh W) W .ret (argOf Tryd.prog t pv) v ∧ isOwn (argOf Tryd.prog t pv) = false := by
      unfold argOf
      split
      · rename_i fs hu
        refine ⟨?_, rfl⟩
        unfold Value.okWide at hok
        rw [hu] at hok
        obtain ⟨cs, rfl, _, _⟩ := hok
        exact ⟨cs.toList, by simp, All2.map_left (h7.imp fun _ _ _ h => h)⟩
      · rename_i hns
        have hnarr : ∀ m e, Tryd.prog.underlying t ≠ some (.array m e) := fun m e hu => by
          have := List.all_eq_true.1 hL t (hts t (by simp))
          rw [hu] at this
          simp at this
        rw [ok_one hok ⟨fun fs => hns fs, hnarr⟩] at h7
        cases h7 with
        | cons ha hb =>
          cases hb
          exact ⟨ha, rfl⟩
    refine ⟨pv :: pss, .cons ⟨n, h6⟩ h3, .cons key.1 h4, fun x hx => ?_⟩
    simp only [List.zipWith_cons_cons, List.mem_cons] at hx
    rcases hx with rfl | hx
    · exact key.2
    · exact h5 x hx

theorem trodAll_len {W : World} {base : Nat} {sp : Nat → Bool} {held : Bool} : ∀ {ts : List TypeId} {vs : List Value} {ds : List (DataW H)} {ps : List MemPlace}, DataW.TrodAll enc Tryd.prog W base sp held ts vs ds ps → ds.length = ts.length
  | [], [], [], _, _ => rfl
  | _ :: _, _ :: _, _ :: _, _, ⟨_, _, _, h2, _⟩ => by simp [trodAll_len h2]

theorem trodAll_carry {W W' : World} {base : Nat} {sp : Nat → Bool} {held : Bool} : ∀ {ts : List TypeId} {vs : List Value} {ds : List (DataW H)} {ps : List MemPlace}, (∀ p ∈ ps, W.sameAt W' p) → DataW.TrodAll enc Tryd.prog W base sp held ts vs ds ps → DataW.TrodAll enc Tryd.prog W' base sp held ts vs ds ps
  | [], [], [], _, _, h => h
  | _ :: _, _ :: _, _ :: _, _, hs, ⟨p, q, ⟨n, h1⟩, h2, e⟩ => ⟨p, q, ⟨n, DataW.trod_carry n _ _ _ h1 fun x hx => hs x (by rw [e]; exact List.mem_append_left _ hx)⟩, trodAll_carry (fun x hx => hs x (by rw [e]; exact List.mem_append_right _ hx)) h2, e⟩

set_option maxRecDepth 100000 in
/-- WHAT A LAW's ROW ASKS, from the interpreter's answer. -/
theorem law_ok {f : FuncId} {fn : Func} {spec : ChangeSpec} {laid : List (String × DataW Unit)} {L : List TypeId} {W : World} {base : Nat} {args : Array Value} {ds gs : List (DataW H)} {before : List MemPlace}
    (hg : K.good f = true) (hL : flatSet Tryd.prog L = true) (hts : ∀ t ∈ fn.params.toList, t ∈ L) (hres : fn.resultTypes = #[4]) (hvars : spec.vars = []) (hspec : ∀ ds : List (DataW H), ds.length = fn.params.size → spec.fn H ds = { results := [.lit (.bool true)], args := ds })
    (hmem : ("internal/strconv.uint64pow10", Go.Proofs.YtmcjabhnmealgaaDoor.Rows.laid_internal_strconv_uint64pow10) ∈ laid) (hnoh : (laid.filter fun x => x.2.handleName?.isSome) = [])
    (hden : ∀ pss : List (List PV), All2 (fun t p => ∃ n, TyP Tryd.prog n t p) fn.params.toList pss → den K f (List.zipWith (argOf Tryd.prog) fn.params.toList pss) [] = some (.ret (.c (.pv (.bool true))) []))
    (hval : ∀ (j : Nat) t v, fn.params[j]? = some t → args[j]? = some v → Value.okWide Tryd.prog W .any base t v)
    (hW : DataW.Whole enc Tryd.prog fn.params.toList spec.vars false W args.toList ds gs before)
    (hwt : (DataW.weightsEach Tryd.prog fn.params.toList ds).all (· ≤ reachBytes) = true)
    (hLaid : laidMetH Tryd.prog laid W) (hsh : W.ShapedOpen Tryd.prog) :
    Calls Tryd.prog f args W fun e W' => ∃ v, e = .returned v ∧ spec.post enc Tryd.prog fn false true false false W args v W' := by
  have hW' := hW
  obtain ⟨p, q, hA, hV, rfl, hfz, hnd⟩ := hW
  rw [hvars] at hV
  have hgq : gs = [] ∧ q = [] := by
    cases gs with
    | nil => exact ⟨rfl, hV⟩
    | cons g gs => exact hV.elim
  obtain ⟨rfl, rfl⟩ := hgq
  have hlen := trodAll_len hA
  have hv2 : ∀ (j : Nat) (u : TypeId) (x : Value), fn.params.toList[j]? = some u → args.toList[j]? = some x → Value.okWide Tryd.prog W .any base u x := by
    intro j u x hj hx
    rw [Array.getElem?_toList] at hj hx
    exact hval j u x hj hx
  obtain ⟨pss, h1, h2, h3⟩ := args_ok (base := base) hL hA hts hv2 (fun m hm => by simpa using List.all_eq_true.1 hwt m hm)
  have hlm : laidMet Tryd.prog laid W := by
    unfold laidMetH at hLaid
    rw [hnoh] at hLaid
    exact hLaid
  have hwi := oldWI (tab_ok hlm hmem hsh)
  have hc := den_ok K_prog hg (hden pss h1) (oldGh W) W args.toList hwi h2 h3 (fun i l h => by simp at h) (fun s b h => by cases h)
  rw [Array.toArray_toList] at hc
  refine hc.mono fun e W' ⟨G', hx, hw', v, he, hv, _⟩ => ?_
  subst he
  have hv' : v = .bool true := RA.boolv hv
  subst hv'
  refine ⟨_, rfl, ?_⟩
  have hold : ∀ b, b < W.heap.size → W'.heap[b]? = W.heap[b]? := fun b hb => (hx.old b hb rfl).2.1
  have hds : spec.fn H (ds ++ []) = { results := [.lit (.bool true)], args := ds } := by
    rw [List.append_nil]
    exact hspec ds (by rw [hlen]; simp)
  refine post_of_old (pa := p) (pv := []) hW' (fun b sp hd => ?_) (fun sp hsp => ?_) (fun sp hsp => ?_) rfl (keptBut_of_old hx.os hx.output hold _) (fun a ha => ?_) ?_
  · rw [hds, hres]
    exact trodAll_cons_mk (shut_bool (by kernel_rfl) _) trodAll_mk0
  · rw [hds]
    have hT : ∀ t ∈ fn.params.toList, t < Tryd.prog.types.size := fun t ht => by
      have := List.all_eq_true.1 hL t (hts t ht)
      simp only [Bool.and_eq_true, decide_eq_true_eq] at this
      exact this.1
    have := DataW.TrodAll.respare (spare' := sp) kids slices_full hT hA (fun y hy => hsp y (by simpa using hy))
    refine trodAll_carry (fun y hy => ?_) this
    have hlt : y.block < W.heap.size := DataW.TrodAll.lt hA y hy
    cases y with
    | cell b off =>
      show W'.cell? ⟨b, off, none⟩ = W.cell? ⟨b, off, none⟩
      unfold World.cell?
      rw [hold b hlt]
    | map b => exact hold b hlt
  · rw [hds, hvars]
    rfl
  · unfold World.frozen?
    rw [hold a.block ha]
  · rw [hres]
    intro j t r hj hr
    have hj0 : j = 0 := by
      rcases Nat.eq_zero_or_pos j with h | h
      · exact h
      · rw [Array.getElem?_eq_none (by simp; omega)] at hj; cases hj
    subst hj0
    simp at hj
    subst hj
    have hr0 : r = .bool true := by
      have : ((Value.bool true).resultList 1)[0]? = some r := by simpa using hr
      simp [Value.resultList] at this
      exact this.symm
    subst hr0
    exact okWide_bool_mk (by kernel_rfl) _
end
end Go.Abs

namespace Go.Abs
open Go Go.Proofs

/-! ### Data of a type -/

def fieldTys (P : Program) (t : TypeId) : Option (List (TypeId × Nat × Nat)) :=
  match P.underlying t with
  | some (.struct fs) => some (fs.toList.map fun f => (f.type, f.offset, P.cellsOf f.type))
  | _ => none

section
variable {P : Program} {t e : TypeId} {n : Nat} {ps : List PV}

theorem TyP_int {k : IntKind} (h : descOf P t = some (.int k)) (hp : TyP P n t ps) : ∃ z, ps = [.int k z] ∧ (Lit.int k z).wf = true := by
  cases n with
  | zero => exact hp.elim
  | succ n => unfold TyP at hp; rw [desc_int h] at hp; exact hp

theorem TyP_str (h : descOf P t = some .str) (hp : TyP P n t ps) : ∃ s, ps = [.str s] ∧ s.length ≤ reachBytes := by
  cases n with
  | zero => exact hp.elim
  | succ n => unfold TyP at hp; rw [desc_str h] at hp; exact hp

theorem TyP_sl {b : Bool} (h : descOf P t = some (.sl e b)) (hp : TyP P n t ps) : ∃ m c, n = m + 1 ∧ ps = [.sl c] ∧ c.length ≤ reachBytes ∧ ∀ el ∈ c, TyP P m e el := by
  cases n with
  | zero => exact hp.elim
  | succ n =>
    unfold TyP at hp
    rw [(desc_sl h).1] at hp
    obtain ⟨c, h1, h2, h3⟩ := hp
    exact ⟨n, c, rfl, h1, h2, h3⟩

theorem TyP_struct {l : List (TypeId × Nat × Nat)} {sz : Nat} (h : fieldTys P t = some l) (hs : P.cellsOf t = sz) (hp : TyP P n t ps) : ∃ m, n = m + 1 ∧ ps.length = sz ∧ ∀ (i : Nat) (x : TypeId × Nat × Nat), l[i]? = some x → TyP P m x.1 ((ps.drop x.2.1).take x.2.2) := by
  cases n with
  | zero => exact hp.elim
  | succ n =>
    unfold fieldTys at h
    split at h
    case h_2 => cases h
    rename_i fs hu
    cases h
    unfold TyP at hp
    rw [hu] at hp
    obtain ⟨h1, h2⟩ := hp
    refine ⟨n, rfl, by rw [h1, hs], fun i x hx => ?_⟩
    rw [List.getElem?_map, Option.map_eq_some_iff] at hx
    obtain ⟨f, hf, rfl⟩ := hx
    exact h2 i f (by simpa using hf)

theorem list_of {α : Type} {f : α → List PV} {Q : α → Prop} : ∀ {c : List (List PV)}, (∀ el ∈ c, ∃ x, el = f x ∧ Q x) → ∃ l : List α, c = l.map f ∧ ∀ x ∈ l, Q x
  | [], _ => ⟨[], rfl, by simp⟩
  | el :: c, h => by
    obtain ⟨x, rfl, hx⟩ := h el (by simp)
    obtain ⟨l, rfl, hl⟩ := list_of (c := c) fun y hy => h y (by simp [hy])
    exact ⟨x :: l, rfl, fun y hy => by
      rcases List.mem_cons.1 hy with rfl | hy
      · exact hx
      · exact hl y hy⟩

theorem wf_I64 {z : Int} (h : (Lit.int .i64 z).wf = true) : I64 z := by
  simp only [Lit.wf, Bool.and_eq_true, decide_eq_true_eq] at h
  exact h
end

theorem len2 {α : Type} {l : List α} (h : l.length = 2) : ∃ a b, l = [a, b] := by
  match l, h with
  | [a, b], _ => exact ⟨a, b, rfl⟩
theorem len3p {α : Type} {l : List α} (h : l.length = 3) : ∃ a b c, l = [a, b, c] := by
  match l, h with
  | [a, b, c], _ => exact ⟨a, b, c, rfl⟩
theorem len6 {α : Type} {l : List α} (h : l.length = 6) : ∃ a b c d e f, l = [a, b, c, d, e, f] := by
  match l, h with
  | [a, b, c, d, e, f], _ => exact ⟨a, b, c, d, e, f, rfl⟩
end Go.Abs
