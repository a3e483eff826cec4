/-
  SpellRead, as the interpreter answers it: true, whatever the text is.
-/
import Derived.Test.YtmcjabhnmealgaaDoorQS
import Derived.Test.YtmcjabhnmealgaaDoorQSpecL11
import Derived.Test.YtmcjabhnmealgaaDoorQSpecL12
import Derived.Test.YtmcjabhnmealgaaDoorQFixE
set_option linter.unusedSimpArgs false
set_option linter.unusedVariables false
namespace Go.Abs
open Go Go.Proofs
set_option maxRecDepth 10000
attribute [local go_sem] exL_seq exL_region exL_cond exL_block exL_scope exL_ret exL_skip exL_exit runRegion runOps stepOp guardA absOp takeOver opd avOf cvOf St.degAt St.put okPV okVal okAV absBin intBin strBin boolBin setBoxes if_true Bool.false_eq_true if_false Option.map_some Option.map_none Option.bind_some Option.bind_none thenO outOf upd List.toList_toArray isOwn steal appArgs inApps AV.deg CV.deg AV.gv AV.isIter absNext some_bne List.length_nil List.length_cons List.filterMap_cons List.filterMap_nil beq_iff_eq List.getElem?_cons_zero List.getElem?_cons_succ Option.getD_some K_hook hookB Bool.false_and Bool.and_false Bool.and_self K_P K_own absCall doCall getBoxes lend back idx dedup AV.ren CV.ren TV.ren AV.ptrs CV.ptrs zipBox AV.flat CV.flat absLoad absStore cellsOfAV setAt newBox markB bldTypes absFieldAddr absField absExtract absAssert noAssert absMkIface ifcOf CV.pv? content pushHead ownT fillCells reps pvs chunks enterSt leave resOf resVars resVar outBoxes lentOnly TV.deg TV.av LK CV.plain CV.noBld nilBin absUn bound List.map_cons List.map_nil List.all_cons List.all_nil List.any_cons List.any_nil List.contains_cons List.contains_nil List.elem_cons List.elem_nil List.cons_append List.nil_append List.append_nil List.flatMap_cons List.flatMap_nil List.zip_cons_cons List.zip_nil_left List.zip_nil_right List.take_succ_cons List.take_zero List.take_nil List.drop_succ_cons List.drop_zero List.drop_nil List.isEmpty_nil List.isEmpty_cons Bool.and_true Bool.true_and Bool.or_true Bool.true_or Bool.or_false Bool.false_or Bool.not_true Bool.not_false Nat.add_zero Nat.zero_add Option.isNone_none Option.isNone_some Option.getD_none true_and and_true not_true_eq_false not_false_eq_true decide_true decide_false Nat.le_refl and_self Bool.not_eq_true Nat.sub_self or_true true_or Option.some.injEq List.length_map List.nil_eq and_false false_and AV.live CV.live CV.liveIn K_keep firstReg Option.orElse_some Option.orElse_none head keepSlots keepBoxes Int.lt_irrefl List.length_append ite_self memOK logOps opKey lentBoxes Key.clash Key.sees Key.writes Nat.lt_irrefl gt_iff_lt nobox_at bot_at false_or or_false beq_self_eq_true Bool.true_beq Bool.false_beq

theorem gs_fin {x : Sim} (h : Sl.Gs x) : Fin4 x := by
  induction h with
  | not y hy hk ih => exact .mk (by simp) fun z hz => by obtain rfl := List.mem_singleton.1 hz; exact ih
  | _ => exact .mk (by simp) fun z hz => by cases hz
theorem few_I64 {n : Int} (h : Sl.few n) : I64 n := ⟨by have := h.1; omega, by have := h.2; omega⟩
theorem gs_ok {M : Nat} (hM : M ≤ 1000000) {x : Sim} (h : Sl.Gs x) (hb : Sl.Sb M x) : x.Ok := by
  have hr : (1000000 : Nat) ≤ reachBytes := by decide
  have z : I64 0 := ⟨by decide, by decide⟩
  have nl : ([] : List Sim).length ≤ reachBytes := Nat.zero_le _
  have no : ∀ x ∈ ([] : List Sim), x.Ok := fun x hx => by cases hx
  induction h with
  | nth a b ha hb' =>
    obtain ⟨hn, hv, hl⟩ := hb
    exact .mk (few_I64 ha) (few_I64 hb') (by omega) (by omega) nl no
  | not y hy hk ih =>
    obtain ⟨hn, hv, hl⟩ := hb
    refine .mk z z (by omega) (by omega) (Nat.le_trans (by simp) hr) fun w hw => ?_
    obtain rfl := List.mem_singleton.1 hw
    exact ih (hl _ (by simp))
  | _ =>
    obtain ⟨hn, hv, hl⟩ := hb
    exact .mk z z (by omega) (by omega) nl no
theorem cpx_ok {M : Nat} (hM : M ≤ 1000000) {c : Cpx} (h : Sl.GoodC c) (hb : ∀ p ∈ c.parts, ∀ y ∈ p.l, Sl.Sb M y) : c.Ok := by
  have hr : (1000000 : Nat) ≤ reachBytes := by decide
  obtain ⟨h1, h2, h3⟩ := Sl.gc_facts h
  exact ⟨by omega, fun p hp => ⟨by have := (h2 p hp).1; omega, fun x hx => gs_ok hM ((h2 p hp).2 x hx) (hb p hp x hx)⟩, by omega⟩

set_option maxHeartbeats 4000000 in
theorem SpellRead_den (s : List UInt8) : den K 3 [T s] [] = some (.ret (B true) []) := by
  have hr : Tryd.f3.results = #[.tmp 2] := rfl
  have hf := fixed5_den
  by_cases h8 : 800 < s.length
  · have e8 : decide ((800 : Int) < (s.length : Int)) = true := decide_eq_true (by omega)
    refine den_run rfl Tryd.func3 rfl Tryd.ntmps3 ⟨by simp, by simp [LK]⟩ ?_
    simp only [go_sem, Nat.reduceLT, reduceIte, reduceCtorEq, Nat.reduceEqDiff, apply_ite (Option.map (outOf _)), Nat.reduceBEq, Nat.reduceAdd, Nat.reduceSub, Nat.reduceLeDiff, Nat.reduceMul, good_4, ev_len_str ty_descOf_9, good_5, good_6, good_7, hr, hf, e8]
  · have e8 : decide ((800 : Int) < (s.length : Int)) = false := decide_eq_false (by omega)
    have h1 := Read4_den s (by omega)
    cases hx : Sl.read s with
    | none =>
      rw [hx] at h1
      unfold parseA at h1
      simp only at h1
      refine den_run rfl Tryd.func3 rfl Tryd.ntmps3 ⟨by simp, by simp [LK]⟩ ?_
      simp only [go_sem, Nat.reduceLT, reduceIte, reduceCtorEq, Nat.reduceEqDiff, apply_ite (Option.map (outOf _)), Nat.reduceBEq, Nat.reduceAdd, Nat.reduceSub, Nat.reduceLeDiff, Nat.reduceMul, good_4, ev_len_str ty_descOf_9, good_5, good_6, good_7, hr, hf, e8, h1, TV.flat, Int.reduceEq, Int.reduceBNe, Int.reduceBEq]
    | some a =>
      have hg := Sl.read_sound hx
      have hb := Sl.read_tx hx
      have hl : (Sl.listT a).length ≤ 100000000 := Nat.le_trans (Sl.list_len hg hb) (by omega)
      obtain ⟨hne, h32, hgc⟩ := hg
      have hM : s.length + 1 ≤ 1000000 := by omega
      have hls : listS a = Sl.listT a := by
        cases a with
        | nil => exact absurd rfl hne
        | cons c l => exact (Sl.listT_join c l).symm
      have hcl : ∀ c ∈ a, c.Ok ∧ (cpxS c).length < txtLim := fun c hc => ⟨cpx_ok hM (hgc c hc) (hb c hc), by
        have := Sl.cpx_len (hgc c hc) (hb c hc)
        have e : txtLim = 4294967296 := rfl
        omega⟩
      have e : txtLim = 4294967296 := rfl
      have h2 := List_den a (by omega) hcl (by rw [hls]; omega)
      rw [hls] at h2
      have h3 := Read4_den (Sl.listT a) hl
      rw [Sl.read_again hx] at h3
      rw [hx] at h1
      unfold parseA encC at h1 h3
      simp only at h1 h3
      have h4 := Same4_den a (by omega) fun c hc => by
        obtain ⟨g1, g2, g3⟩ := Sl.gc_facts (hgc c hc)
        exact ⟨by omega, fun p hp => simples4_den p.l (by have := (g2 p hp).1; omega) fun x hx => gs_fin ((g2 p hp).2 x hx)⟩
      refine den_run rfl Tryd.func3 rfl Tryd.ntmps3 ⟨by simp, by simp [LK]⟩ ?_
      simp only [go_sem, Nat.reduceLT, reduceIte, reduceCtorEq, Nat.reduceEqDiff, apply_ite (Option.map (outOf _)), Nat.reduceBEq, Nat.reduceAdd, Nat.reduceSub, Nat.reduceLeDiff, Nat.reduceMul, good_4, ev_len_str ty_descOf_9, good_5, good_6, good_7, hr, hf, e8, h1, h2, h3, h4, TV.flat, Int.reduceEq, Int.reduceBNe, Int.reduceBEq]
end Go.Abs
