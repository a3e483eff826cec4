/-
  WHAT THE FUNCTIONS COMPUTE, layer 4, the document's reader of selectors: what stands behind a sign :, and a simple selector, whole.
-/
import Derived.Test.YtmcjabhnmealgaaDoorQSpecL4
import Derived.Test.YtmcjabhnmealgaaDoorQSpecL5b
import Derived.Test.YtmcjabhnmealgaaDoorQSpecL6
set_option linter.unusedSimpArgs false
set_option linter.unusedVariables false
namespace Go.Abs
open Go Go.Proofs
set_option maxRecDepth 10000
attribute [local go_sem] exL_seq exL_region exL_cond exL_block exL_scope exL_ret exL_skip exL_exit runRegion runOps stepOp guardA absOp takeOver opd avOf cvOf St.degAt St.put okPV okVal okAV absBin intBin strBin boolBin setBoxes if_true Bool.false_eq_true if_false Option.map_some Option.map_none Option.bind_some Option.bind_none thenO outOf upd List.toList_toArray isOwn steal appArgs inApps AV.deg CV.deg AV.gv AV.isIter absNext some_bne List.length_nil List.length_cons List.filterMap_cons List.filterMap_nil beq_iff_eq List.getElem?_cons_zero List.getElem?_cons_succ Option.getD_some K_hook hookB Bool.false_and Bool.and_false Bool.and_self K_P K_own absCall doCall getBoxes lend back idx dedup AV.ren CV.ren TV.ren AV.ptrs CV.ptrs zipBox AV.flat CV.flat absLoad absStore cellsOfAV setAt newBox markB bldTypes absFieldAddr absField absExtract absAssert noAssert absMkIface ifcOf CV.pv? content pushHead ownT fillCells reps pvs chunks enterSt leave resOf resVars resVar outBoxes lentOnly TV.deg TV.av LK CV.plain CV.noBld nilBin absUn bound List.map_cons List.map_nil List.all_cons List.all_nil List.any_cons List.any_nil List.contains_cons List.contains_nil List.elem_cons List.elem_nil List.cons_append List.nil_append List.append_nil List.flatMap_cons List.flatMap_nil List.zip_cons_cons List.zip_nil_left List.zip_nil_right List.take_succ_cons List.take_zero List.take_nil List.drop_succ_cons List.drop_zero List.drop_nil List.isEmpty_nil List.isEmpty_cons Bool.and_true Bool.true_and Bool.or_true Bool.true_or Bool.or_false Bool.false_or Bool.not_true Bool.not_false Nat.add_zero Nat.zero_add Option.isNone_none Option.isNone_some Option.getD_none true_and and_true not_true_eq_false not_false_eq_true decide_true decide_false Nat.le_refl and_self Bool.not_eq_true Nat.sub_self or_true true_or Option.some.injEq List.length_map List.nil_eq and_false false_and AV.live CV.live CV.liveIn K_keep firstReg Option.orElse_some Option.orElse_none head keepSlots keepBoxes Int.lt_irrefl List.length_append ite_self memOK logOps opKey lentBoxes Key.clash Key.sees Key.writes Nat.lt_irrefl gt_iff_lt nobox_at bot_at false_or or_false beq_self_eq_true Bool.true_beq Bool.false_beq
attribute [local go_sem] ty_shapeT_32 ty_zeroCells_32 good_56 ty_zeroCells_88 ty_szOf_88 ty_szOf_32 ty_fieldOff_88_0 ty_szOf_3 ty_shapeT_3 ty_fieldOff_88_1 ty_szOf_83 ty_fieldOff_83_1 ty_szOf_9 ty_shapeT_9 ty_fieldOff_88_2 ty_szOf_39 ty_shapeT_39 good_64 good_65 good_37 ty_fieldOff_92_2 ty_szOf_4 ty_shapeT_4

theorem low_byte (c : UInt8) : lowB c = Sl.low1 c := by
  have e1 : (65 : UInt8) ≤ c ↔ 65 ≤ c.toNat := UInt8.le_iff_toNat_le
  have e2 : c ≤ (90 : UInt8) ↔ c.toNat ≤ 90 := UInt8.le_iff_toNat_le
  unfold lowB Sl.low1
  by_cases h : 65 ≤ c.toNat ∧ c.toNat ≤ 90
  · rw [if_pos h, if_pos ⟨e1.2 h.1, e2.2 h.2⟩]
  · rw [if_neg h, if_neg (fun k => h ⟨e1.1 k.1, e2.1 k.2⟩)]
theorem Low_den (s : List UInt8) (h : s.length < 1000000000) : den K 53 [T s] [] = some (.ret (T (Sl.low s)) []) := by
  have e : Sl.low s = s.map lowB := by unfold Sl.low; exact List.map_congr_left fun c _ => (low_byte c).symm
  rw [e]
  exact prim_run (F := pLow) rfl (by unfold pLow; simp only; rw [if_pos (by unfold strLim; omega)])

theorem colon_not (g : List Val → Option (Sim × List Val)) (c r : List Val) : (match g (Sl.trim c) with
       | some (x, []) => if x.kind = 11 then none else some (Sim.mk 11 [] [] 0 0 [x], r)
       | _ => none) = (notG g c).map fun x => (x, r) := by
  unfold notG
  generalize g (Sl.trim c) = y
  match y with
  | none => rfl
  | some (x, []) =>
    simp only
    split <;> rfl
  | some (x, _ :: _) => rfl
theorem colon_5 (g : List Val → Option (Sim × List Val)) {l c r : List Val} {t : Tok} (h : Sl.valueK 5 l = some ((t, c), r)) :
    Sl.colon g l = if t.text = Sl.nthT then (Sl.nthM c).map fun x => (Sim.mk 8 [] [] x.1 x.2 [], r) else if t.text = Sl.notT then (notG g c).map fun x => (x, r) else none := by
  unfold Sl.colon
  rw [h]
  simp only
  split
  · rfl
  · split
    · exact colon_not g c r
    · rfl
theorem colon_n (g : List Val → Option (Sim × List Val)) {l : List Val} (h : Sl.valueK 5 l = none) :
    Sl.colon g l = match Sl.name l with
    | some (s, r) => (Sl.colonName s).map fun x => (x, r)
    | none => none := by
  unfold Sl.colon
  rw [h]
  rfl

theorem val_last (k : Int) (t : Tok) (c : List Val) : valCv k t c = [.pv (.int .i64 k), .pv (.int .i64 t.kind), .pv (.str t.text), .pv (.int .i64 t.n), .pv (.sl (encL c))] := rfl

set_option maxHeartbeats 8000000 in
theorem colon_fun (g : List Val → Option (Sim × List Val)) (l : List Val) (i : Nat) (hl : l.length ≤ 100000000) (hsz : Ne.size l ≤ 100000000) (hg : ∀ t c, Val.mk 5 t c ∈ l.drop i → NotDen g c) (t : Tok) (c r : List Val)
    (hv : Sl.valueK 5 (l.drop i) = some ((t, c), r)) : ColonDen g l i := by
  have hr : Tryd.f55.results = #[.cell 2 32] := rfl
  obtain ⟨va, vd, vm⟩ := value_yes l i false 5 hl t c r hv
  have hi : i < l.length := (List.getElem?_eq_some_iff.1 vm).1
  simp only [rb0, val_last] at va
  unfold ColonDen
  rw [colon_5 g hv]
  unfold SRes
  by_cases h1 : t.text = Sl.nthT
  · have hc : c.length ≤ 100000000 := Nat.le_trans (Nat.le_trans (Ne.length_size c) (Nat.le_of_lt (size_at vm))) hsz
    have hn := Nth4_den c hc
    have e1 : (t.text == [110, 116, 104, 45, 99, 104, 105, 108, 100]) = true := by rw [h1]; rfl
    have e2 : (t.text == [110, 111, 116]) = false := by rw [h1]; rfl
    rw [if_pos h1]
    cases hm : Sl.nthM c with
    | none =>
      rw [hm] at hn
      unfold nthA at hn
      simp only at hn
      refine ⟨.mk 8 [] [] 0 0 [], i + 1, ?_⟩
      simp only [rb0, simCv_nil]
      refine den_run rfl Tryd.func55 rfl Tryd.ntmps55 ⟨by simp, by simp [LK]⟩ ?_
      simp only [go_sem, Nat.reduceLT, reduceIte, reduceCtorEq, Nat.reduceEqDiff, apply_ite (Option.map (outOf _)), Nat.reduceBEq, Nat.reduceAdd, Nat.reduceSub, Nat.reduceLeDiff, Nat.reduceMul, ev_build ty_zeroCells_32 ty_placesOf_32, hr, va, hn, e1, e2, TV.flat, Int.reduceEq, Int.reduceBEq, Int.reduceBNe]
    | some x =>
      obtain ⟨a, b⟩ := x
      rw [hm] at hn
      unfold nthA at hn
      simp only at hn
      refine ⟨i + 1, vd, by omega, by omega, ?_⟩
      simp only [rb0, simCv_nil]
      refine den_run rfl Tryd.func55 rfl Tryd.ntmps55 ⟨by simp, by simp [LK]⟩ ?_
      simp only [go_sem, Nat.reduceLT, reduceIte, reduceCtorEq, Nat.reduceEqDiff, apply_ite (Option.map (outOf _)), Nat.reduceBEq, Nat.reduceAdd, Nat.reduceSub, Nat.reduceLeDiff, Nat.reduceMul, ev_build ty_zeroCells_32 ty_placesOf_32, hr, va, hn, e1, e2, TV.flat, Int.reduceEq, Int.reduceBEq, Int.reduceBNe]
  · have e1 : (t.text == [110, 116, 104, 45, 99, 104, 105, 108, 100]) = false := by rw [beq_eq_false_iff_ne]; exact h1
    rw [if_neg h1]
    by_cases h2 : t.text = Sl.notT
    · have e2 : (t.text == [110, 111, 116]) = true := by rw [h2]; rfl
      rw [if_pos h2]
      obtain ⟨y, ok, hn, hy⟩ := hg t c (by rw [Sl.value_some hv]; simp)
      cases hm : notG g c with
      | none =>
        rw [hm] at hy
        simp only at hy
        subst hy
        refine ⟨y, i + 1, ?_⟩
        obtain ⟨k, n, v, a, b, yl⟩ := y
        cases yl
        all_goals
          simp only [rb0, simCv_nil, simCv_cons] at hn ⊢
          refine den_run rfl Tryd.func55 rfl Tryd.ntmps55 ⟨by simp, by simp [LK]⟩ ?_
          simp only [go_sem, Nat.reduceLT, reduceIte, reduceCtorEq, Nat.reduceEqDiff, apply_ite (Option.map (outOf _)), Nat.reduceBEq, Nat.reduceAdd, Nat.reduceSub, Nat.reduceLeDiff, Nat.reduceMul, ev_build ty_zeroCells_32 ty_placesOf_32, hr, va, hn, e1, e2, TV.flat, Int.reduceEq, Int.reduceBEq, Int.reduceBNe]
      | some x =>
        rw [hm] at hy
        simp only at hy
        obtain ⟨rfl, rfl⟩ := hy
        refine ⟨i + 1, vd, by omega, by omega, ?_⟩
        obtain ⟨k, n, v, a, b, yl⟩ := y
        cases yl
        all_goals
          simp only [rb0, simCv_nil, simCv_cons] at hn ⊢
          refine den_run rfl Tryd.func55 rfl Tryd.ntmps55 ⟨by simp, by simp [LK]⟩ ?_
          simp only [go_sem, Nat.reduceLT, reduceIte, reduceCtorEq, Nat.reduceEqDiff, apply_ite (Option.map (outOf _)), Nat.reduceBEq, Nat.reduceAdd, Nat.reduceSub, Nat.reduceLeDiff, Nat.reduceMul, ev_build ty_zeroCells_32 ty_placesOf_32, hr, va, hn, e1, e2, TV.flat, Int.reduceEq, Int.reduceBEq, Int.reduceBNe]
    · have e2 : (t.text == [110, 111, 116]) = false := by rw [beq_eq_false_iff_ne]; exact h2
      rw [if_neg h2]
      refine ⟨.mk 0 [] [] 0 0 [], i + 1, ?_⟩
      simp only [rb0, simCv_nil]
      refine den_run rfl Tryd.func55 rfl Tryd.ntmps55 ⟨by simp, by simp [LK]⟩ ?_
      simp only [go_sem, Nat.reduceLT, reduceIte, reduceCtorEq, Nat.reduceEqDiff, apply_ite (Option.map (outOf _)), Nat.reduceBEq, Nat.reduceAdd, Nat.reduceSub, Nat.reduceLeDiff, Nat.reduceMul, ev_build ty_zeroCells_32 ty_placesOf_32, hr, va, e1, e2, TV.flat, Int.reduceEq, Int.reduceBEq, Int.reduceBNe]

set_option maxHeartbeats 8000000 in
theorem colon_name (g : List Val → Option (Sim × List Val)) (l : List Val) (i : Nat) (hl : l.length ≤ 100000000) (hv : Sl.valueK 5 (l.drop i) = none) : ColonDen g l i := by
  have hr : Tryd.f55.results = #[.cell 2 32] := rfl
  have va := value_no l i false 5 hl hv
  have z05 : ((0 : Int) == 5) = false := rfl
  have z00 : ((0 : Int) == 0) = true := rfl
  simp only [rb0] at va
  unfold ColonDen
  rw [colon_n g hv]
  unfold SRes
  cases hn : Sl.name (l.drop i) with
  | none =>
    have nm := name0_no l i false hl hn
    simp only [rb0] at nm
    refine ⟨.mk 0 [] [] 0 0 [], i, ?_⟩
    simp only [rb0, simCv_nil]
    refine den_run rfl Tryd.func55 rfl Tryd.ntmps55 ⟨by simp, by simp [LK]⟩ ?_
    simp only [go_sem, Nat.reduceLT, reduceIte, reduceCtorEq, Nat.reduceEqDiff, apply_ite (Option.map (outOf _)), Nat.reduceBEq, Nat.reduceAdd, Nat.reduceSub, Nat.reduceLeDiff, Nat.reduceMul, ev_build ty_zeroCells_32 ty_placesOf_32, hr, va, z05, z00, nm, TV.flat]
  | some y =>
    obtain ⟨s, r⟩ := y
    obtain ⟨nm, nd, ni⟩ := name0_yes l i false hl s r hn
    simp only [rb0] at nm
    have key : ∀ x, Sl.colonName s = some x → den K 55 [P0] [rb0 l i false] = some (.ret (.agg (simCv x)) [rb0 l (i + 1) false]) := by
      intro x hx
      unfold Sl.colonName at hx
      by_cases h0 : s = Sl.hoverT
      · subst h0
        have hx : some (Sim.mk 7 Sl.hoverT [] 0 0 []) = some x := hx
        cases hx
        simp only [rb0, simCv_nil]
        simp only [Sl.hoverT] at nm ⊢
        have q0 : (([104, 111, 118, 101, 114] : List UInt8) == [104, 111, 118, 101, 114]) = true := rfl
        refine den_run rfl Tryd.func55 rfl Tryd.ntmps55 ⟨by simp, by simp [LK]⟩ ?_
        simp only [go_sem, Nat.reduceLT, reduceIte, reduceCtorEq, Nat.reduceEqDiff, apply_ite (Option.map (outOf _)), Nat.reduceBEq, Nat.reduceAdd, Nat.reduceSub, Nat.reduceLeDiff, Nat.reduceMul, ev_build ty_zeroCells_32 ty_placesOf_32, hr, va, z05, z00, nm, TV.flat, q0]
      · have e0 : (s == [104, 111, 118, 101, 114]) = false := by rw [beq_eq_false_iff_ne]; exact h0
        by_cases h1 : s = Sl.focusT
        · subst h1
          have hx : some (Sim.mk 7 Sl.focusT [] 0 0 []) = some x := hx
          cases hx
          simp only [rb0, simCv_nil]
          simp only [Sl.focusT] at nm ⊢
          have q0 : (([102, 111, 99, 117, 115] : List UInt8) == [104, 111, 118, 101, 114]) = false := rfl
          have q1 : (([102, 111, 99, 117, 115] : List UInt8) == [102, 111, 99, 117, 115]) = true := rfl
          refine den_run rfl Tryd.func55 rfl Tryd.ntmps55 ⟨by simp, by simp [LK]⟩ ?_
          simp only [go_sem, Nat.reduceLT, reduceIte, reduceCtorEq, Nat.reduceEqDiff, apply_ite (Option.map (outOf _)), Nat.reduceBEq, Nat.reduceAdd, Nat.reduceSub, Nat.reduceLeDiff, Nat.reduceMul, ev_build ty_zeroCells_32 ty_placesOf_32, hr, va, z05, z00, nm, TV.flat, q0, q1]
        · have e1 : (s == [102, 111, 99, 117, 115]) = false := by rw [beq_eq_false_iff_ne]; exact h1
          by_cases h2 : s = Sl.activeT
          · subst h2
            have hx : some (Sim.mk 7 Sl.activeT [] 0 0 []) = some x := hx
            cases hx
            simp only [rb0, simCv_nil]
            simp only [Sl.activeT] at nm ⊢
            have q0 : (([97, 99, 116, 105, 118, 101] : List UInt8) == [104, 111, 118, 101, 114]) = false := rfl
            have q1 : (([97, 99, 116, 105, 118, 101] : List UInt8) == [102, 111, 99, 117, 115]) = false := rfl
            have q2 : (([97, 99, 116, 105, 118, 101] : List UInt8) == [97, 99, 116, 105, 118, 101]) = true := rfl
            refine den_run rfl Tryd.func55 rfl Tryd.ntmps55 ⟨by simp, by simp [LK]⟩ ?_
            simp only [go_sem, Nat.reduceLT, reduceIte, reduceCtorEq, Nat.reduceEqDiff, apply_ite (Option.map (outOf _)), Nat.reduceBEq, Nat.reduceAdd, Nat.reduceSub, Nat.reduceLeDiff, Nat.reduceMul, ev_build ty_zeroCells_32 ty_placesOf_32, hr, va, z05, z00, nm, TV.flat, q0, q1, q2]
          · have e2 : (s == [97, 99, 116, 105, 118, 101]) = false := by rw [beq_eq_false_iff_ne]; exact h2
            by_cases h3 : s = Sl.checkedT
            · subst h3
              have hx : some (Sim.mk 7 Sl.checkedT [] 0 0 []) = some x := hx
              cases hx
              simp only [rb0, simCv_nil]
              simp only [Sl.checkedT] at nm ⊢
              have q0 : (([99, 104, 101, 99, 107, 101, 100] : List UInt8) == [104, 111, 118, 101, 114]) = false := rfl
              have q1 : (([99, 104, 101, 99, 107, 101, 100] : List UInt8) == [102, 111, 99, 117, 115]) = false := rfl
              have q2 : (([99, 104, 101, 99, 107, 101, 100] : List UInt8) == [97, 99, 116, 105, 118, 101]) = false := rfl
              have q3 : (([99, 104, 101, 99, 107, 101, 100] : List UInt8) == [99, 104, 101, 99, 107, 101, 100]) = true := rfl
              refine den_run rfl Tryd.func55 rfl Tryd.ntmps55 ⟨by simp, by simp [LK]⟩ ?_
              simp only [go_sem, Nat.reduceLT, reduceIte, reduceCtorEq, Nat.reduceEqDiff, apply_ite (Option.map (outOf _)), Nat.reduceBEq, Nat.reduceAdd, Nat.reduceSub, Nat.reduceLeDiff, Nat.reduceMul, ev_build ty_zeroCells_32 ty_placesOf_32, hr, va, z05, z00, nm, TV.flat, q0, q1, q2, q3]
            · have e3 : (s == [99, 104, 101, 99, 107, 101, 100]) = false := by rw [beq_eq_false_iff_ne]; exact h3
              by_cases h4 : s = Sl.rootT
              · subst h4
                have hx : some (Sim.mk 9 [] [] 0 0 []) = some x := hx
                cases hx
                simp only [rb0, simCv_nil]
                simp only [Sl.rootT] at nm ⊢
                have q0 : (([114, 111, 111, 116] : List UInt8) == [104, 111, 118, 101, 114]) = false := rfl
                have q1 : (([114, 111, 111, 116] : List UInt8) == [102, 111, 99, 117, 115]) = false := rfl
                have q2 : (([114, 111, 111, 116] : List UInt8) == [97, 99, 116, 105, 118, 101]) = false := rfl
                have q3 : (([114, 111, 111, 116] : List UInt8) == [99, 104, 101, 99, 107, 101, 100]) = false := rfl
                have q4 : (([114, 111, 111, 116] : List UInt8) == [114, 111, 111, 116]) = true := rfl
                refine den_run rfl Tryd.func55 rfl Tryd.ntmps55 ⟨by simp, by simp [LK]⟩ ?_
                simp only [go_sem, Nat.reduceLT, reduceIte, reduceCtorEq, Nat.reduceEqDiff, apply_ite (Option.map (outOf _)), Nat.reduceBEq, Nat.reduceAdd, Nat.reduceSub, Nat.reduceLeDiff, Nat.reduceMul, ev_build ty_zeroCells_32 ty_placesOf_32, hr, va, z05, z00, nm, TV.flat, q0, q1, q2, q3, q4]
              · have e4 : (s == [114, 111, 111, 116]) = false := by rw [beq_eq_false_iff_ne]; exact h4
                by_cases h5 : s = Sl.emptyT
                · subst h5
                  have hx : some (Sim.mk 10 [] [] 0 0 []) = some x := hx
                  cases hx
                  simp only [rb0, simCv_nil]
                  simp only [Sl.emptyT] at nm ⊢
                  have q0 : (([101, 109, 112, 116, 121] : List UInt8) == [104, 111, 118, 101, 114]) = false := rfl
                  have q1 : (([101, 109, 112, 116, 121] : List UInt8) == [102, 111, 99, 117, 115]) = false := rfl
                  have q2 : (([101, 109, 112, 116, 121] : List UInt8) == [97, 99, 116, 105, 118, 101]) = false := rfl
                  have q3 : (([101, 109, 112, 116, 121] : List UInt8) == [99, 104, 101, 99, 107, 101, 100]) = false := rfl
                  have q4 : (([101, 109, 112, 116, 121] : List UInt8) == [114, 111, 111, 116]) = false := rfl
                  have q5 : (([101, 109, 112, 116, 121] : List UInt8) == [101, 109, 112, 116, 121]) = true := rfl
                  refine den_run rfl Tryd.func55 rfl Tryd.ntmps55 ⟨by simp, by simp [LK]⟩ ?_
                  simp only [go_sem, Nat.reduceLT, reduceIte, reduceCtorEq, Nat.reduceEqDiff, apply_ite (Option.map (outOf _)), Nat.reduceBEq, Nat.reduceAdd, Nat.reduceSub, Nat.reduceLeDiff, Nat.reduceMul, ev_build ty_zeroCells_32 ty_placesOf_32, hr, va, z05, z00, nm, TV.flat, q0, q1, q2, q3, q4, q5]
                · have e5 : (s == [101, 109, 112, 116, 121]) = false := by rw [beq_eq_false_iff_ne]; exact h5
                  by_cases h6 : s = Sl.firstT
                  · subst h6
                    have hx : some (Sim.mk 8 [] [] 0 1 []) = some x := hx
                    cases hx
                    simp only [rb0, simCv_nil]
                    simp only [Sl.firstT] at nm ⊢
                    have q0 : (([102, 105, 114, 115, 116, 45, 99, 104, 105, 108, 100] : List UInt8) == [104, 111, 118, 101, 114]) = false := rfl
                    have q1 : (([102, 105, 114, 115, 116, 45, 99, 104, 105, 108, 100] : List UInt8) == [102, 111, 99, 117, 115]) = false := rfl
                    have q2 : (([102, 105, 114, 115, 116, 45, 99, 104, 105, 108, 100] : List UInt8) == [97, 99, 116, 105, 118, 101]) = false := rfl
                    have q3 : (([102, 105, 114, 115, 116, 45, 99, 104, 105, 108, 100] : List UInt8) == [99, 104, 101, 99, 107, 101, 100]) = false := rfl
                    have q4 : (([102, 105, 114, 115, 116, 45, 99, 104, 105, 108, 100] : List UInt8) == [114, 111, 111, 116]) = false := rfl
                    have q5 : (([102, 105, 114, 115, 116, 45, 99, 104, 105, 108, 100] : List UInt8) == [101, 109, 112, 116, 121]) = false := rfl
                    have q6 : (([102, 105, 114, 115, 116, 45, 99, 104, 105, 108, 100] : List UInt8) == [102, 105, 114, 115, 116, 45, 99, 104, 105, 108, 100]) = true := rfl
                    refine den_run rfl Tryd.func55 rfl Tryd.ntmps55 ⟨by simp, by simp [LK]⟩ ?_
                    simp only [go_sem, Nat.reduceLT, reduceIte, reduceCtorEq, Nat.reduceEqDiff, apply_ite (Option.map (outOf _)), Nat.reduceBEq, Nat.reduceAdd, Nat.reduceSub, Nat.reduceLeDiff, Nat.reduceMul, ev_build ty_zeroCells_32 ty_placesOf_32, hr, va, z05, z00, nm, TV.flat, q0, q1, q2, q3, q4, q5, q6]
                  · have e6 : (s == [102, 105, 114, 115, 116, 45, 99, 104, 105, 108, 100]) = false := by rw [beq_eq_false_iff_ne]; exact h6
                    rw [if_neg (show ¬ Sl.isState s by rintro (h | h | h | h) <;> contradiction), if_neg h4, if_neg h5, if_neg h6] at hx
                    cases hx
    simp only
    cases hx : Sl.colonName s with
    | some x => exact ⟨i + 1, nd, by omega, by omega, key x hx⟩
    | none =>
      unfold Sl.colonName at hx
      split at hx
      · cases hx
      split at hx
      · cases hx
      split at hx
      · cases hx
      split at hx
      · cases hx
      rename_i h0 h4 h5 h6
      refine ⟨.mk 0 [] [] 0 0 [], i + 1, ?_⟩
      simp only [rb0, simCv_nil]
      have e0 : (s == [104, 111, 118, 101, 114]) = false := by rw [beq_eq_false_iff_ne]; exact fun h => h0 (.inl h)
      have e1 : (s == [102, 111, 99, 117, 115]) = false := by rw [beq_eq_false_iff_ne]; exact fun h => h0 (.inr (.inl h))
      have e2 : (s == [97, 99, 116, 105, 118, 101]) = false := by rw [beq_eq_false_iff_ne]; exact fun h => h0 (.inr (.inr (.inl h)))
      have e3 : (s == [99, 104, 101, 99, 107, 101, 100]) = false := by rw [beq_eq_false_iff_ne]; exact fun h => h0 (.inr (.inr (.inr h)))
      have e4 : (s == [114, 111, 111, 116]) = false := by rw [beq_eq_false_iff_ne]; exact h4
      have e5 : (s == [101, 109, 112, 116, 121]) = false := by rw [beq_eq_false_iff_ne]; exact h5
      have e6 : (s == [102, 105, 114, 115, 116, 45, 99, 104, 105, 108, 100]) = false := by rw [beq_eq_false_iff_ne]; exact h6
      refine den_run rfl Tryd.func55 rfl Tryd.ntmps55 ⟨by simp, by simp [LK]⟩ ?_
      simp only [go_sem, Nat.reduceLT, reduceIte, reduceCtorEq, Nat.reduceEqDiff, apply_ite (Option.map (outOf _)), Nat.reduceBEq, Nat.reduceAdd, Nat.reduceSub, Nat.reduceLeDiff, Nat.reduceMul, ev_build ty_zeroCells_32 ty_placesOf_32, hr, va, z05, z00, nm, TV.flat, e0, e1, e2, e3, e4, e5, e6]

theorem colon_den (g : List Val → Option (Sim × List Val)) (l : List Val) (i : Nat) (hl : l.length ≤ 100000000) (hsz : Ne.size l ≤ 100000000) (hg : ∀ t c, Val.mk 5 t c ∈ l.drop i → NotDen g c) : ColonDen g l i := by
  cases hv : Sl.valueK 5 (l.drop i) with
  | none => exact colon_name g l i hl hv
  | some x =>
    obtain ⟨⟨t, c⟩, r⟩ := x
    exact colon_fun g l i hl hsz hg t c r hv
end Go.Abs
