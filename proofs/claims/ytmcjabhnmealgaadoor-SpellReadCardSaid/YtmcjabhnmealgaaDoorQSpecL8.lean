/-
  WHAT THE FUNCTIONS COMPUTE, layer 4, the document's reader of selectors: a simple selector.
-/
import Derived.Test.YtmcjabhnmealgaaDoorQSpecL7
set_option linter.unusedSimpArgs false
set_option linter.unusedVariables false
namespace Go.Abs
open Go Go.Proofs
set_option maxRecDepth 10000
attribute [local go_sem] exL_seq exL_region exL_cond exL_block exL_scope exL_ret exL_skip exL_exit runRegion runOps stepOp guardA absOp takeOver opd avOf cvOf St.degAt St.put okPV okVal okAV absBin intBin strBin boolBin setBoxes if_true Bool.false_eq_true if_false Option.map_some Option.map_none Option.bind_some Option.bind_none thenO outOf upd List.toList_toArray isOwn steal appArgs inApps AV.deg CV.deg AV.gv AV.isIter absNext some_bne List.length_nil List.length_cons List.filterMap_cons List.filterMap_nil beq_iff_eq List.getElem?_cons_zero List.getElem?_cons_succ Option.getD_some K_hook hookB Bool.false_and Bool.and_false Bool.and_self K_P K_own absCall doCall getBoxes lend back idx dedup AV.ren CV.ren TV.ren AV.ptrs CV.ptrs zipBox AV.flat CV.flat absLoad absStore cellsOfAV setAt newBox markB bldTypes absFieldAddr absField absExtract absAssert noAssert absMkIface ifcOf CV.pv? content pushHead ownT fillCells reps pvs chunks enterSt leave resOf resVars resVar outBoxes lentOnly TV.deg TV.av LK CV.plain CV.noBld nilBin absUn bound List.map_cons List.map_nil List.all_cons List.all_nil List.any_cons List.any_nil List.contains_cons List.contains_nil List.elem_cons List.elem_nil List.cons_append List.nil_append List.append_nil List.flatMap_cons List.flatMap_nil List.zip_cons_cons List.zip_nil_left List.zip_nil_right List.take_succ_cons List.take_zero List.take_nil List.drop_succ_cons List.drop_zero List.drop_nil List.isEmpty_nil List.isEmpty_cons Bool.and_true Bool.true_and Bool.or_true Bool.true_or Bool.or_false Bool.false_or Bool.not_true Bool.not_false Nat.add_zero Nat.zero_add Option.isNone_none Option.isNone_some Option.getD_none true_and and_true not_true_eq_false not_false_eq_true decide_true decide_false Nat.le_refl and_self Bool.not_eq_true Nat.sub_self or_true true_or Option.some.injEq List.length_map List.nil_eq and_false false_and AV.live CV.live CV.liveIn K_keep firstReg Option.orElse_some Option.orElse_none head keepSlots keepBoxes Int.lt_irrefl List.length_append ite_self memOK logOps opKey lentBoxes Key.clash Key.sees Key.writes Nat.lt_irrefl gt_iff_lt nobox_at bot_at false_or or_false beq_self_eq_true Bool.true_beq Bool.false_beq
attribute [local go_sem] ty_shapeT_32 ty_zeroCells_32 good_52 ty_fieldOff_83_0 ty_shapeT_3 good_37 good_53 ty_szOf_32 good_54 ty_zeroCells_83 ty_szOf_83 ty_szOf_3 ty_fieldOff_92_1 ty_fieldOff_83_1 ty_szOf_9 ty_shapeT_9 good_55 good_56 ty_zeroCells_88 ty_szOf_88 ty_fieldOff_88_2 ty_szOf_39 ty_shapeT_39 good_57 ty_fieldOff_92_2 ty_szOf_4 ty_shapeT_4 ty_fieldOff_88_0

/-- a simple selector, past its front -/
def restG (g : List Val → Option (Sim × List Val)) (l : List Val) : Option (Sim × List Val) :=
    match Sl.tokK 4 l with
    | some t => some (.mk 3 t.text [] 0 0 [], l.tail)
    | none =>
    match Sl.sign [46] l with
    | some r => (Sl.name r).map fun x => (.mk 4 x.1 [] 0 0 [], x.2)
    | none =>
    match Sl.sign [58] l with
    | some r => Sl.colon g r
    | none =>
    match Sl.valueK 3 l with
    | some x => (Sl.attr x.1.2).map fun y => (y, x.2)
    | none => none
theorem simple_false (g : List Val → Option (Sim × List Val)) (l : List Val) : simpleG g false l = restG g l := rfl
theorem simple_rest (g : List Val → Option (Sim × List Val)) (l : List Val) (h1 : Sl.tokK 1 l = none) (h2 : Sl.sign [42] l = none) : simpleG g true l = restG g l := by
  unfold simpleG
  simp only [h1, h2, if_true]
  rfl

/-- what the front of a function asks, past which it goes on -/
def Front (l : List Val) (i : Nat) (first : Bool) : Prop := first = false ∨ (Sl.tokK 1 (l.drop i) = none ∧ Sl.sign [42] (l.drop i) = none)

set_option maxHeartbeats 8000000 in
theorem simple_hash (l : List Val) (i : Nat) (first : Bool) (hl : l.length ≤ 100000000) (hf : Front l i first) (t : Tok) (ht : Sl.tokK 4 (l.drop i) = some t) :
    den K 36 [P0, B first] [rb0 l i false] = some (.ret (.agg (simCv (.mk 3 t.text [] 0 0 []))) [rb0 l (i + 1) false]) ∧ i < l.length := by
  have hr : Tryd.f36.results = #[.cell 4 32] := rfl
  obtain ⟨h1, h2⟩ := tk0_some ht
  have hi := tokK_lt ht
  refine ⟨?_, hi⟩
  have tk := tok0_den l i false 4 hl
  rw [h1] at tk
  have e4 : (t.kind == 4) = true := by rw [h2]; rfl
  have hw : IntKind.i64.wrap ((i : Int) + 1) = ((i + 1 : Nat) : Int) := wrap_nat i (by omega)
  simp only [rb0, simCv_nil] at tk ⊢
  rcases hf with rfl | ⟨hf1, hf2⟩
  · refine den_run rfl Tryd.func36 rfl Tryd.ntmps36 ⟨by simp, by simp [LK]⟩ ?_
    simp only [go_sem, Nat.reduceLT, reduceIte, reduceCtorEq, Nat.reduceEqDiff, apply_ite (Option.map (outOf _)), Nat.reduceBEq, Nat.reduceAdd, Nat.reduceSub, Nat.reduceLeDiff, Nat.reduceMul, ev_build ty_zeroCells_32 ty_placesOf_32, hr, tk, e4, hw, TV.flat, Int.reduceEq, Int.reduceBEq, Int.reduceBNe]
  · cases first
    · refine den_run rfl Tryd.func36 rfl Tryd.ntmps36 ⟨by simp, by simp [LK]⟩ ?_
      simp only [go_sem, Nat.reduceLT, reduceIte, reduceCtorEq, Nat.reduceEqDiff, apply_ite (Option.map (outOf _)), Nat.reduceBEq, Nat.reduceAdd, Nat.reduceSub, Nat.reduceLeDiff, Nat.reduceMul, ev_build ty_zeroCells_32 ty_placesOf_32, hr, tk, e4, hw, TV.flat, Int.reduceEq, Int.reduceBEq, Int.reduceBNe]
    · have ft := tok0_den l i false 1 hl
      rw [tk0_none hf1] at ft
      have fs := sign0_no l i false [42] hl hf2
      simp only [rb0, Ne.tok0] at ft fs
      refine den_run rfl Tryd.func36 rfl Tryd.ntmps36 ⟨by simp, by simp [LK]⟩ ?_
      simp only [go_sem, Nat.reduceLT, reduceIte, reduceCtorEq, Nat.reduceEqDiff, apply_ite (Option.map (outOf _)), Nat.reduceBEq, Nat.reduceAdd, Nat.reduceSub, Nat.reduceLeDiff, Nat.reduceMul, ev_build ty_zeroCells_32 ty_placesOf_32, hr, ft, fs, tk, e4, hw, TV.flat, Int.reduceEq, Int.reduceBEq, Int.reduceBNe]

set_option maxHeartbeats 8000000 in
theorem simple_dot (l : List Val) (i : Nat) (first : Bool) (hl : l.length ≤ 100000000) (hf : Front l i first) (h4 : Sl.tokK 4 (l.drop i) = none) (r : List Val) (hs : Sl.sign [46] (l.drop i) = some r) (s : List UInt8) (r2 : List Val) (hn : Sl.name r = some (s, r2)) :
    den K 36 [P0, B first] [rb0 l i false] = some (.ret (.agg (simCv (.mk 4 s [] 0 0 []))) [rb0 l (i + 2) false]) ∧ l.drop (i + 2) = r2 ∧ i + 1 < l.length := by
  have hr : Tryd.f36.results = #[.cell 4 32] := rfl
  have tk := tok0_den l i false 4 hl
  rw [tk0_none h4] at tk
  simp only [rb0, Ne.tok0] at tk
  obtain ⟨sa, sd, si⟩ := sign0_yes l i false [46] hl r hs
  obtain ⟨na, nd, ni⟩ := name0_yes l (i + 1) false hl s r2 (by rw [sd]; exact hn)
  refine ⟨?_, nd, ni⟩
  simp only [rb0, simCv_nil] at sa na ⊢
  rcases hf with rfl | ⟨hf1, hf2⟩
  · refine den_run rfl Tryd.func36 rfl Tryd.ntmps36 ⟨by simp, by simp [LK]⟩ ?_
    simp only [go_sem, Nat.reduceLT, reduceIte, reduceCtorEq, Nat.reduceEqDiff, apply_ite (Option.map (outOf _)), Nat.reduceBEq, Nat.reduceAdd, Nat.reduceSub, Nat.reduceLeDiff, Nat.reduceMul, ev_build ty_zeroCells_32 ty_placesOf_32, hr, tk, sa, na, TV.flat, Int.reduceEq, Int.reduceBEq, Int.reduceBNe]
  · cases first
    · refine den_run rfl Tryd.func36 rfl Tryd.ntmps36 ⟨by simp, by simp [LK]⟩ ?_
      simp only [go_sem, Nat.reduceLT, reduceIte, reduceCtorEq, Nat.reduceEqDiff, apply_ite (Option.map (outOf _)), Nat.reduceBEq, Nat.reduceAdd, Nat.reduceSub, Nat.reduceLeDiff, Nat.reduceMul, ev_build ty_zeroCells_32 ty_placesOf_32, hr, tk, sa, na, TV.flat, Int.reduceEq, Int.reduceBEq, Int.reduceBNe]
    · have ft := tok0_den l i false 1 hl
      rw [tk0_none hf1] at ft
      have fs := sign0_no l i false [42] hl hf2
      simp only [rb0, Ne.tok0] at ft fs
      refine den_run rfl Tryd.func36 rfl Tryd.ntmps36 ⟨by simp, by simp [LK]⟩ ?_
      simp only [go_sem, Nat.reduceLT, reduceIte, reduceCtorEq, Nat.reduceEqDiff, apply_ite (Option.map (outOf _)), Nat.reduceBEq, Nat.reduceAdd, Nat.reduceSub, Nat.reduceLeDiff, Nat.reduceMul, ev_build ty_zeroCells_32 ty_placesOf_32, hr, ft, fs, tk, sa, na, TV.flat, Int.reduceEq, Int.reduceBEq, Int.reduceBNe]

set_option maxHeartbeats 8000000 in
theorem simple_dotn (l : List Val) (i : Nat) (first : Bool) (hl : l.length ≤ 100000000) (hf : Front l i first) (h4 : Sl.tokK 4 (l.drop i) = none) (r : List Val) (hs : Sl.sign [46] (l.drop i) = some r) (hn : Sl.name r = none) :
    den K 36 [P0, B first] [rb0 l i false] = some (.ret (.agg (simCv (.mk 4 [] [] 0 0 []))) [rb0 l (i + 1) true]) := by
  have hr : Tryd.f36.results = #[.cell 4 32] := rfl
  have tk := tok0_den l i false 4 hl
  rw [tk0_none h4] at tk
  simp only [rb0, Ne.tok0] at tk
  obtain ⟨sa, sd, si⟩ := sign0_yes l i false [46] hl r hs
  have na := name0_no l (i + 1) false hl (by rw [sd]; exact hn)
  simp only [rb0, simCv_nil] at sa na ⊢
  rcases hf with rfl | ⟨hf1, hf2⟩
  · refine den_run rfl Tryd.func36 rfl Tryd.ntmps36 ⟨by simp, by simp [LK]⟩ ?_
    simp only [go_sem, Nat.reduceLT, reduceIte, reduceCtorEq, Nat.reduceEqDiff, apply_ite (Option.map (outOf _)), Nat.reduceBEq, Nat.reduceAdd, Nat.reduceSub, Nat.reduceLeDiff, Nat.reduceMul, ev_build ty_zeroCells_32 ty_placesOf_32, hr, tk, sa, na, TV.flat, Int.reduceEq, Int.reduceBEq, Int.reduceBNe]
  · cases first
    · refine den_run rfl Tryd.func36 rfl Tryd.ntmps36 ⟨by simp, by simp [LK]⟩ ?_
      simp only [go_sem, Nat.reduceLT, reduceIte, reduceCtorEq, Nat.reduceEqDiff, apply_ite (Option.map (outOf _)), Nat.reduceBEq, Nat.reduceAdd, Nat.reduceSub, Nat.reduceLeDiff, Nat.reduceMul, ev_build ty_zeroCells_32 ty_placesOf_32, hr, tk, sa, na, TV.flat, Int.reduceEq, Int.reduceBEq, Int.reduceBNe]
    · have ft := tok0_den l i false 1 hl
      rw [tk0_none hf1] at ft
      have fs := sign0_no l i false [42] hl hf2
      simp only [rb0, Ne.tok0] at ft fs
      refine den_run rfl Tryd.func36 rfl Tryd.ntmps36 ⟨by simp, by simp [LK]⟩ ?_
      simp only [go_sem, Nat.reduceLT, reduceIte, reduceCtorEq, Nat.reduceEqDiff, apply_ite (Option.map (outOf _)), Nat.reduceBEq, Nat.reduceAdd, Nat.reduceSub, Nat.reduceLeDiff, Nat.reduceMul, ev_build ty_zeroCells_32 ty_placesOf_32, hr, ft, fs, tk, sa, na, TV.flat, Int.reduceEq, Int.reduceBEq, Int.reduceBNe]

set_option maxHeartbeats 8000000 in
theorem simple_colon (l : List Val) (i : Nat) (first : Bool) (hl : l.length ≤ 100000000) (hf : Front l i first) (h4 : Sl.tokK 4 (l.drop i) = none) (h5 : Sl.sign [46] (l.drop i) = none) (r : List Val) (hs : Sl.sign [58] (l.drop i) = some r) (x : Sim) (j : Nat) (bad : Bool) (hc : den K 55 [P0] [rb0 l (i + 1) false] = some (.ret (.agg (simCv x)) [rb0 l j bad])) :
    den K 36 [P0, B first] [rb0 l i false] = some (.ret (.agg (simCv x)) [rb0 l j bad]) := by
  have hr : Tryd.f36.results = #[.cell 4 32] := rfl
  have tk := tok0_den l i false 4 hl
  rw [tk0_none h4] at tk
  simp only [rb0, Ne.tok0] at tk
  have s1 := sign0_no l i false [46] hl h5
  simp only [rb0] at s1
  obtain ⟨sa, sd, si⟩ := sign0_yes l i false [58] hl r hs
  obtain ⟨k, n, v, a, b, xl⟩ := x
  cases xl
  all_goals
    simp only [rb0, simCv_nil, simCv_cons] at sa hc ⊢
    rcases hf with rfl | ⟨hf1, hf2⟩
    · refine den_run rfl Tryd.func36 rfl Tryd.ntmps36 ⟨by simp, by simp [LK]⟩ ?_
      simp only [go_sem, Nat.reduceLT, reduceIte, reduceCtorEq, Nat.reduceEqDiff, apply_ite (Option.map (outOf _)), Nat.reduceBEq, Nat.reduceAdd, Nat.reduceSub, Nat.reduceLeDiff, Nat.reduceMul, ev_build ty_zeroCells_32 ty_placesOf_32, hr, tk, s1, sa, hc, TV.flat, Int.reduceEq, Int.reduceBEq, Int.reduceBNe]
    · cases first
      · refine den_run rfl Tryd.func36 rfl Tryd.ntmps36 ⟨by simp, by simp [LK]⟩ ?_
        simp only [go_sem, Nat.reduceLT, reduceIte, reduceCtorEq, Nat.reduceEqDiff, apply_ite (Option.map (outOf _)), Nat.reduceBEq, Nat.reduceAdd, Nat.reduceSub, Nat.reduceLeDiff, Nat.reduceMul, ev_build ty_zeroCells_32 ty_placesOf_32, hr, tk, s1, sa, hc, TV.flat, Int.reduceEq, Int.reduceBEq, Int.reduceBNe]
      · have ft := tok0_den l i false 1 hl
        rw [tk0_none hf1] at ft
        have fs := sign0_no l i false [42] hl hf2
        simp only [rb0, Ne.tok0] at ft fs
        refine den_run rfl Tryd.func36 rfl Tryd.ntmps36 ⟨by simp, by simp [LK]⟩ ?_
        simp only [go_sem, Nat.reduceLT, reduceIte, reduceCtorEq, Nat.reduceEqDiff, apply_ite (Option.map (outOf _)), Nat.reduceBEq, Nat.reduceAdd, Nat.reduceSub, Nat.reduceLeDiff, Nat.reduceMul, ev_build ty_zeroCells_32 ty_placesOf_32, hr, ft, fs, tk, s1, sa, hc, TV.flat, Int.reduceEq, Int.reduceBEq, Int.reduceBNe]

set_option maxHeartbeats 8000000 in
theorem simple_attr (l : List Val) (i : Nat) (first : Bool) (hl : l.length ≤ 100000000) (hf : Front l i first) (h4 : Sl.tokK 4 (l.drop i) = none) (h5 : Sl.sign [46] (l.drop i) = none) (h6 : Sl.sign [58] (l.drop i) = none) (t : Tok) (c r : List Val) (hv : Sl.valueK 3 (l.drop i) = some ((t, c), r)) (x : Sim) (ok : Bool) (ha : den K 57 [L (encL c)] [] = some (.ret (.tup [.agg (simCv x), .c (.pv (.bool ok))]) [])) :
    den K 36 [P0, B first] [rb0 l i false] = some (.ret (.agg (simCv x)) [rb0 l (i + 1) (!ok)]) := by
  have hr : Tryd.f36.results = #[.cell 4 32] := rfl
  have tk := tok0_den l i false 4 hl
  rw [tk0_none h4] at tk
  simp only [rb0, Ne.tok0] at tk
  have s1 := sign0_no l i false [46] hl h5
  simp only [rb0] at s1
  have s2 := sign0_no l i false [58] hl h6
  simp only [rb0] at s2
  obtain ⟨va, vd, vm⟩ := value_yes l i false 3 hl t c r hv
  obtain ⟨k, n, v, a, b, xl⟩ := x
  cases xl
  all_goals
    cases ok
    all_goals
      simp only [rb0, simCv_nil, simCv_cons, val_last] at va ha ⊢
      rcases hf with rfl | ⟨hf1, hf2⟩
      · refine den_run rfl Tryd.func36 rfl Tryd.ntmps36 ⟨by simp, by simp [LK]⟩ ?_
        simp only [go_sem, Nat.reduceLT, reduceIte, reduceCtorEq, Nat.reduceEqDiff, apply_ite (Option.map (outOf _)), Nat.reduceBEq, Nat.reduceAdd, Nat.reduceSub, Nat.reduceLeDiff, Nat.reduceMul, ev_build ty_zeroCells_32 ty_placesOf_32, hr, tk, s1, s2, va, ha, TV.flat, Int.reduceEq, Int.reduceBEq, Int.reduceBNe]
      · cases first
        · refine den_run rfl Tryd.func36 rfl Tryd.ntmps36 ⟨by simp, by simp [LK]⟩ ?_
          simp only [go_sem, Nat.reduceLT, reduceIte, reduceCtorEq, Nat.reduceEqDiff, apply_ite (Option.map (outOf _)), Nat.reduceBEq, Nat.reduceAdd, Nat.reduceSub, Nat.reduceLeDiff, Nat.reduceMul, ev_build ty_zeroCells_32 ty_placesOf_32, hr, tk, s1, s2, va, ha, TV.flat, Int.reduceEq, Int.reduceBEq, Int.reduceBNe]
        · have ft := tok0_den l i false 1 hl
          rw [tk0_none hf1] at ft
          have fs := sign0_no l i false [42] hl hf2
          simp only [rb0, Ne.tok0] at ft fs
          refine den_run rfl Tryd.func36 rfl Tryd.ntmps36 ⟨by simp, by simp [LK]⟩ ?_
          simp only [go_sem, Nat.reduceLT, reduceIte, reduceCtorEq, Nat.reduceEqDiff, apply_ite (Option.map (outOf _)), Nat.reduceBEq, Nat.reduceAdd, Nat.reduceSub, Nat.reduceLeDiff, Nat.reduceMul, ev_build ty_zeroCells_32 ty_placesOf_32, hr, ft, fs, tk, s1, s2, va, ha, TV.flat, Int.reduceEq, Int.reduceBEq, Int.reduceBNe]

set_option maxHeartbeats 8000000 in
theorem simple_none (l : List Val) (i : Nat) (first : Bool) (hl : l.length ≤ 100000000) (hf : Front l i first) (h4 : Sl.tokK 4 (l.drop i) = none) (h5 : Sl.sign [46] (l.drop i) = none) (h6 : Sl.sign [58] (l.drop i) = none) (hv : Sl.valueK 3 (l.drop i) = none) :
    ∃ x : Sim, den K 36 [P0, B first] [rb0 l i false] = some (.ret (.agg (simCv x)) [rb0 l i true]) := by
  have hr : Tryd.f36.results = #[.cell 4 32] := rfl
  have tk := tok0_den l i false 4 hl
  rw [tk0_none h4] at tk
  simp only [rb0, Ne.tok0] at tk
  have s1 := sign0_no l i false [46] hl h5
  simp only [rb0] at s1
  have s2 := sign0_no l i false [58] hl h6
  simp only [rb0] at s2
  have va := value_no l i false 3 hl hv
  obtain ⟨x, ha⟩ := attr_nils
  refine ⟨x, ?_⟩
  obtain ⟨k, n, v, a, b, xl⟩ := x
  cases xl
  all_goals
    simp only [rb0, simCv_nil, simCv_cons] at va ha ⊢
    rcases hf with rfl | ⟨hf1, hf2⟩
    · refine den_run rfl Tryd.func36 rfl Tryd.ntmps36 ⟨by simp, by simp [LK]⟩ ?_
      simp only [go_sem, Nat.reduceLT, reduceIte, reduceCtorEq, Nat.reduceEqDiff, apply_ite (Option.map (outOf _)), Nat.reduceBEq, Nat.reduceAdd, Nat.reduceSub, Nat.reduceLeDiff, Nat.reduceMul, ev_build ty_zeroCells_32 ty_placesOf_32, hr, tk, s1, s2, va, ha, TV.flat, Int.reduceEq, Int.reduceBEq, Int.reduceBNe]
    · cases first
      · refine den_run rfl Tryd.func36 rfl Tryd.ntmps36 ⟨by simp, by simp [LK]⟩ ?_
        simp only [go_sem, Nat.reduceLT, reduceIte, reduceCtorEq, Nat.reduceEqDiff, apply_ite (Option.map (outOf _)), Nat.reduceBEq, Nat.reduceAdd, Nat.reduceSub, Nat.reduceLeDiff, Nat.reduceMul, ev_build ty_zeroCells_32 ty_placesOf_32, hr, tk, s1, s2, va, ha, TV.flat, Int.reduceEq, Int.reduceBEq, Int.reduceBNe]
      · have ft := tok0_den l i false 1 hl
        rw [tk0_none hf1] at ft
        have fs := sign0_no l i false [42] hl hf2
        simp only [rb0, Ne.tok0] at ft fs
        refine den_run rfl Tryd.func36 rfl Tryd.ntmps36 ⟨by simp, by simp [LK]⟩ ?_
        simp only [go_sem, Nat.reduceLT, reduceIte, reduceCtorEq, Nat.reduceEqDiff, apply_ite (Option.map (outOf _)), Nat.reduceBEq, Nat.reduceAdd, Nat.reduceSub, Nat.reduceLeDiff, Nat.reduceMul, ev_build ty_zeroCells_32 ty_placesOf_32, hr, ft, fs, tk, s1, s2, va, ha, TV.flat, Int.reduceEq, Int.reduceBEq, Int.reduceBNe]

set_option maxHeartbeats 8000000 in
theorem simple_tag (l : List Val) (i : Nat) (hl : l.length ≤ 100000000) (t : Tok) (ht : Sl.tokK 1 (l.drop i) = some t) (hs : t.text.length < 1000000000) :
    den K 36 [P0, B true] [rb0 l i false] = some (.ret (.agg (simCv (.mk 2 (Sl.low t.text) [] 0 0 []))) [rb0 l (i + 1) false]) ∧ l.drop (i + 1) = (l.drop i).tail ∧ i < l.length := by
  have hr : Tryd.f36.results = #[.cell 4 32] := rfl
  obtain ⟨h1, h2⟩ := tk0_some ht
  have tk := tok0_den l i false 1 hl
  rw [h1] at tk
  have e1 : (t.kind == 1) = true := by rw [h2]; rfl
  obtain ⟨na, nd, ni⟩ := name0_yes l i false hl t.text (l.drop i).tail (by unfold Sl.name; rw [ht]; rfl)
  have lo := Low_den t.text hs
  refine ⟨?_, nd, ni⟩
  simp only [rb0, simCv_nil] at tk na ⊢
  refine den_run rfl Tryd.func36 rfl Tryd.ntmps36 ⟨by simp, by simp [LK]⟩ ?_
  simp only [go_sem, Nat.reduceLT, reduceIte, reduceCtorEq, Nat.reduceEqDiff, apply_ite (Option.map (outOf _)), Nat.reduceBEq, Nat.reduceAdd, Nat.reduceSub, Nat.reduceLeDiff, Nat.reduceMul, ev_build ty_zeroCells_32 ty_placesOf_32, hr, tk, e1, na, lo, TV.flat, Int.reduceEq, Int.reduceBEq, Int.reduceBNe]

set_option maxHeartbeats 8000000 in
theorem simple_any (l : List Val) (i : Nat) (hl : l.length ≤ 100000000) (ht : Sl.tokK 1 (l.drop i) = none) (r : List Val) (hs : Sl.sign [42] (l.drop i) = some r) :
    den K 36 [P0, B true] [rb0 l i false] = some (.ret (.agg (simCv (.mk 1 [] [] 0 0 []))) [rb0 l (i + 1) false]) ∧ l.drop (i + 1) = r ∧ i < l.length := by
  have hr : Tryd.f36.results = #[.cell 4 32] := rfl
  have tk := tok0_den l i false 1 hl
  rw [tk0_none ht] at tk
  obtain ⟨sa, sd, si⟩ := sign0_yes l i false [42] hl r hs
  refine ⟨?_, sd, si⟩
  simp only [rb0, Ne.tok0, simCv_nil] at tk sa ⊢
  refine den_run rfl Tryd.func36 rfl Tryd.ntmps36 ⟨by simp, by simp [LK]⟩ ?_
  simp only [go_sem, Nat.reduceLT, reduceIte, reduceCtorEq, Nat.reduceEqDiff, apply_ite (Option.map (outOf _)), Nat.reduceBEq, Nat.reduceAdd, Nat.reduceSub, Nat.reduceLeDiff, Nat.reduceMul, ev_build ty_zeroCells_32 ty_placesOf_32, hr, tk, sa, TV.flat, Int.reduceEq, Int.reduceBEq, Int.reduceBNe]
end Go.Abs
