/-
  WHAT THE FUNCTIONS COMPUTE, layer 4, the document's reader of selectors: a simple selector, by recursion.
-/
import Derived.Test.YtmcjabhnmealgaaDoorQSpecL8
set_option linter.unusedSimpArgs false
set_option linter.unusedVariables false
namespace Go.Abs
open Go Go.Proofs
set_option maxRecDepth 10000
attribute [local go_sem] exL_seq exL_region exL_cond exL_block exL_scope exL_ret exL_skip exL_exit runRegion runOps stepOp guardA absOp takeOver opd avOf cvOf St.degAt St.put okPV okVal okAV absBin intBin strBin boolBin setBoxes if_true Bool.false_eq_true if_false Option.map_some Option.map_none Option.bind_some Option.bind_none thenO outOf upd List.toList_toArray isOwn steal appArgs inApps AV.deg CV.deg AV.gv AV.isIter absNext some_bne List.length_nil List.length_cons List.filterMap_cons List.filterMap_nil beq_iff_eq List.getElem?_cons_zero List.getElem?_cons_succ Option.getD_some K_hook hookB Bool.false_and Bool.and_false Bool.and_self K_P K_own absCall doCall getBoxes lend back idx dedup AV.ren CV.ren TV.ren AV.ptrs CV.ptrs zipBox AV.flat CV.flat absLoad absStore cellsOfAV setAt newBox markB bldTypes absFieldAddr absField absExtract absAssert noAssert absMkIface ifcOf CV.pv? content pushHead ownT fillCells reps pvs chunks enterSt leave resOf resVars resVar outBoxes lentOnly TV.deg TV.av LK CV.plain CV.noBld nilBin absUn bound List.map_cons List.map_nil List.all_cons List.all_nil List.any_cons List.any_nil List.contains_cons List.contains_nil List.elem_cons List.elem_nil List.cons_append List.nil_append List.append_nil List.flatMap_cons List.flatMap_nil List.zip_cons_cons List.zip_nil_left List.zip_nil_right List.take_succ_cons List.take_zero List.take_nil List.drop_succ_cons List.drop_zero List.drop_nil List.isEmpty_nil List.isEmpty_cons Bool.and_true Bool.true_and Bool.or_true Bool.true_or Bool.or_false Bool.false_or Bool.not_true Bool.not_false Nat.add_zero Nat.zero_add Option.isNone_none Option.isNone_some Option.getD_none true_and and_true not_true_eq_false not_false_eq_true decide_true decide_false Nat.le_refl and_self Bool.not_eq_true Nat.sub_self or_true true_or Option.some.injEq List.length_map List.nil_eq and_false false_and AV.live CV.live CV.liveIn K_keep firstReg Option.orElse_some Option.orElse_none head keepSlots keepBoxes Int.lt_irrefl List.length_append ite_self memOK logOps opKey lentBoxes Key.clash Key.sees Key.writes Nat.lt_irrefl gt_iff_lt nobox_at bot_at false_or or_false beq_self_eq_true Bool.true_beq Bool.false_beq


theorem rest_den (g : List Val → Option (Sim × List Val)) (l : List Val) (i : Nat) (first : Bool) (hl : l.length ≤ 100000000) (hsz : Ne.size l ≤ 100000000) (hg : ∀ t c, Val.mk 5 t c ∈ l.drop i → NotDen g c) (hf : Front l i first) :
    SimpleDen (restG g (l.drop i)) first l i := by
  cases h4 : Sl.tokK 4 (l.drop i) with
  | some t =>
    have e : restG g (l.drop i) = some (.mk 3 t.text [] 0 0 [], (l.drop i).tail) := by unfold restG; rw [h4]
    rw [e]
    obtain ⟨a, b⟩ := simple_hash l i first hl hf t h4
    exact ⟨i + 1, by rw [List.tail_drop], by omega, by omega, a⟩
  | none =>
  cases h5 : Sl.sign [46] (l.drop i) with
  | some r =>
    have e : restG g (l.drop i) = (Sl.name r).map fun x => (.mk 4 x.1 [] 0 0 [], x.2) := by unfold restG; rw [h4, h5]
    rw [e]
    cases hn : Sl.name r with
    | none => exact ⟨_, _, simple_dotn l i first hl hf h4 r h5 hn⟩
    | some y =>
      obtain ⟨s, r2⟩ := y
      obtain ⟨a, b, c⟩ := simple_dot l i first hl hf h4 r h5 s r2 hn
      exact ⟨i + 2, b, by omega, by omega, a⟩
  | none =>
  cases h6 : Sl.sign [58] (l.drop i) with
  | some r =>
    have e : restG g (l.drop i) = Sl.colon g r := by unfold restG; rw [h4, h5, h6]
    rw [e]
    obtain ⟨sa, sd, si⟩ := sign0_yes l i false [58] hl r h6
    have hc := colon_den g l (i + 1) hl hsz fun t c hm => hg t c (by
      obtain ⟨v, hv, _⟩ := Sl.sign_some h6
      rw [hv, List.mem_cons]
      rw [sd] at hm
      exact .inr hm)
    unfold ColonDen at hc
    rw [sd] at hc
    unfold SimpleDen
    cases hr : Sl.colon g r with
    | none =>
      rw [hr] at hc
      obtain ⟨x, j, hc⟩ := hc
      exact ⟨x, j, simple_colon l i first hl hf h4 h5 r h6 x j true hc⟩
    | some y =>
      obtain ⟨x, r2⟩ := y
      rw [hr] at hc
      obtain ⟨j, j1, j2, j3, hc⟩ := hc
      exact ⟨j, j1, by omega, j3, simple_colon l i first hl hf h4 h5 r h6 x j false hc⟩
  | none =>
  cases hv : Sl.valueK 3 (l.drop i) with
  | none =>
    have e : restG g (l.drop i) = none := by unfold restG; rw [h4, h5, h6, hv]
    rw [e]
    obtain ⟨x, h⟩ := simple_none l i first hl hf h4 h5 h6 hv
    exact ⟨x, i, h⟩
  | some y =>
    obtain ⟨⟨t, c⟩, r⟩ := y
    have e : restG g (l.drop i) = (Sl.attr c).map fun y => (y, r) := by unfold restG; rw [h4, h5, h6, hv]
    rw [e]
    obtain ⟨va, vd, vm⟩ := value_yes l i false 3 hl t c r hv
    have hi : i < l.length := (List.getElem?_eq_some_iff.1 vm).1
    have hc : c.length ≤ 100000000 := Nat.le_trans (Nat.le_trans (Ne.length_size c) (Nat.le_of_lt (size_at vm))) hsz
    obtain ⟨x, ok, ha, hx⟩ := attr_den c hc
    have hd := simple_attr l i first hl hf h4 h5 h6 t c r hv x ok ha
    cases hm : Sl.attr c with
    | none =>
      rw [hm] at hx
      subst hx
      exact ⟨x, i + 1, hd⟩
    | some y =>
      rw [hm] at hx
      obtain ⟨rfl, rfl⟩ := hx
      exact ⟨i + 1, vd, by omega, by omega, hd⟩

/-- a simple selector, if what stands within is read -/
theorem simpleG_den (g : List Val → Option (Sim × List Val)) (l : List Val) (i : Nat) (first : Bool) (hl : l.length ≤ 100000000) (hsz : Ne.size l ≤ 100000000) (hts : TSh l) (hg : ∀ t c, Val.mk 5 t c ∈ l.drop i → NotDen g c) :
    SimpleDen (simpleG g first (l.drop i)) first l i := by
  cases first with
  | false =>
    rw [simple_false]
    exact rest_den g l i false hl hsz hg (.inl rfl)
  | true =>
    cases h1 : Sl.tokK 1 (l.drop i) with
    | some t =>
      have e : simpleG g true (l.drop i) = some (.mk 2 (Sl.low t.text) [] 0 0 [], (l.drop i).tail) := by
        unfold simpleG
        simp only [h1, if_true]
      rw [e]
      obtain ⟨c, m, hm, hk⟩ := Sl.tok_some h1
      have ht : t.text.length < 1000000000 := ts_tok (t := t) (c := c) (l := m) (by rw [← hm]; exact ts_drop hts i)
      obtain ⟨a, b, d⟩ := simple_tag l i hl t h1 ht
      exact ⟨i + 1, b, by omega, by omega, a⟩
    | none =>
      cases h2 : Sl.sign [42] (l.drop i) with
      | some r =>
        have e : simpleG g true (l.drop i) = some (.mk 1 [] [] 0 0 [], r) := by
          unfold simpleG
          simp only [h1, h2, if_true]
        rw [e]
        obtain ⟨a, b, d⟩ := simple_any l i hl h1 r h2
        exact ⟨i + 1, b, by omega, by omega, a⟩
      | none =>
        rw [simple_rest g _ h1 h2]
        exact rest_den g l i true hl hsz hg (.inr ⟨h1, h2⟩)

/-- A SIMPLE SELECTOR -/
theorem simple_den : ∀ (f : Nat) (l : List Val) (i : Nat) (first : Bool), Ne.size l ≤ 100000000 → TSh l → (∀ t c, Val.mk 5 t c ∈ l.drop i → Ne.size c < f + 1) →
    SimpleDen (Sl.simple (f + 1) first (l.drop i)) first l i
  | 0, l, i, first, hsz, hts, hc => by
    rw [simple_G]
    refine simpleG_den _ l i first (Nat.le_trans (Ne.length_size l) hsz) hsz hts fun t c hm => ?_
    have h0 := hc t c hm
    have hl0 := Ne.length_size c
    have : c = [] := List.eq_nil_of_length_eq_zero (by omega)
    subst this
    refine not_den _ [] (by simp) ?_
    have := simpleG_den (fun _ => none) [] 0 true (by simp) (by rw [Ne.size]; omega) (fun t ht => by rw [Sl.flat_nil] at ht; cases ht) (fun t c hm => by cases hm)
    exact this
  | f + 1, l, i, first, hsz, hts, hc => by
    rw [simple_G]
    refine simpleG_den _ l i first (Nat.le_trans (Ne.length_size l) hsz) hsz hts fun t c hm => ?_
    obtain ⟨j, hj⟩ := List.getElem?_of_mem (List.mem_of_mem_drop hm)
    have h1 := size_at hj
    have h2 := size_trim c
    have h3 := hc t c hm
    refine not_den _ c (Nat.le_trans (Ne.length_size c) (by omega)) ?_
    have := simple_den f (Sl.trim c) 0 true (by omega) (ts_trim (ts_at hts hj)) (fun t' c' hm' => by
      obtain ⟨j', hj'⟩ := List.getElem?_of_mem hm'
      have := size_at hj'
      rw [List.drop_zero] at this
      omega)
    rw [List.drop_zero] at this
    exact this

theorem simple_size (l : List Val) (i : Nat) (first : Bool) (hsz : Ne.size l ≤ 100000000) (hts : TSh l) (hi : i < l.length) : SimpleDen (Sl.simple (Ne.size (l.drop i)) first (l.drop i)) first l i := by
  have hp : 1 ≤ Ne.size (l.drop i) := by
    have := Ne.length_size (l.drop i)
    rw [List.length_drop] at this
    omega
  obtain ⟨f, hf⟩ : ∃ f, Ne.size (l.drop i) = f + 1 := ⟨Ne.size (l.drop i) - 1, by omega⟩
  rw [hf]
  refine simple_den f l i first hsz hts fun t c hm => ?_
  obtain ⟨j, hj⟩ := List.getElem?_of_mem hm
  have := size_at hj
  omega
end Go.Abs
