/-
  WHAT THE FUNCTIONS COMPUTE, layer 4, the document's reader of selectors: an nth; attributes.
-/
import Derived.Test.YtmcjabhnmealgaaDoorQSpecL3b
import Derived.Test.YtmcjabhnmealgaaDoorQD
set_option linter.unusedSimpArgs false
set_option linter.unusedVariables false
namespace Go.Abs
open Go Go.Proofs
set_option maxRecDepth 10000
attribute [local go_sem] exL_seq exL_region exL_cond exL_block exL_scope exL_ret exL_skip exL_exit runRegion runOps stepOp guardA absOp takeOver opd avOf cvOf St.degAt St.put okPV okVal okAV absBin intBin strBin boolBin setBoxes if_true Bool.false_eq_true if_false Option.map_some Option.map_none Option.bind_some Option.bind_none thenO outOf upd List.toList_toArray isOwn steal appArgs inApps AV.deg CV.deg AV.gv AV.isIter absNext some_bne List.length_nil List.length_cons List.filterMap_cons List.filterMap_nil beq_iff_eq List.getElem?_cons_zero List.getElem?_cons_succ Option.getD_some K_hook hookB Bool.false_and Bool.and_false Bool.and_self K_P K_own absCall doCall getBoxes lend back idx dedup AV.ren CV.ren TV.ren AV.ptrs CV.ptrs zipBox AV.flat CV.flat absLoad absStore cellsOfAV setAt newBox markB bldTypes absFieldAddr absField absExtract absAssert noAssert absMkIface ifcOf CV.pv? content pushHead ownT fillCells reps pvs chunks enterSt leave resOf resVars resVar outBoxes lentOnly TV.deg TV.av LK CV.plain CV.noBld nilBin absUn bound List.map_cons List.map_nil List.all_cons List.all_nil List.any_cons List.any_nil List.contains_cons List.contains_nil List.elem_cons List.elem_nil List.cons_append List.nil_append List.append_nil List.flatMap_cons List.flatMap_nil List.zip_cons_cons List.zip_nil_left List.zip_nil_right List.take_succ_cons List.take_zero List.take_nil List.drop_succ_cons List.drop_zero List.drop_nil List.isEmpty_nil List.isEmpty_cons Bool.and_true Bool.true_and Bool.or_true Bool.true_or Bool.or_false Bool.false_or Bool.not_true Bool.not_false Nat.add_zero Nat.zero_add Option.isNone_none Option.isNone_some Option.getD_none true_and and_true not_true_eq_false not_false_eq_true decide_true decide_false Nat.le_refl and_self Bool.not_eq_true Nat.sub_self or_true true_or Option.some.injEq List.length_map List.nil_eq and_false false_and AV.live CV.live CV.liveIn K_keep firstReg Option.orElse_some Option.orElse_none head keepSlots keepBoxes Int.lt_irrefl List.length_append ite_self memOK logOps opKey lentBoxes Key.clash Key.sees Key.writes Nat.lt_irrefl gt_iff_lt nobox_at bot_at false_or or_false beq_self_eq_true Bool.true_beq Bool.false_beq

/-! ### an nth -/

theorem nthG_spec (v : List Val) : match Sl.nth v with | some x => nthG (Sl.trim v) = (x.1, x.2, true) | none => (nthG (Sl.trim v)).2.2 = false := by
  unfold Sl.nth
  generalize Sl.trim v = R
  have t0k : (Ne.tok0).kind = 0 := rfl
  match R with
  | [] => rfl
  | [.mk k t c] =>
    simp only
    by_cases hk : k = 1
    · subst hk
      rw [if_pos rfl]
      by_cases h1 : t.kind = 1
      · have e1 : tk0 1 [Val.mk 1 t c] = t := tk0_yes ⟨rfl, h1⟩
        unfold nthG Sl.nth1
        rw [if_pos h1, e1, if_pos (show [Val.mk 1 t c].length = 1 ∧ t.kind = 1 from ⟨rfl, h1⟩)]
        by_cases a1 : t.text = [111, 100, 100]
        · rw [if_pos a1, if_pos a1]
        · rw [if_neg a1, if_neg a1]
          by_cases a2 : t.text = [101, 118, 101, 110]
          · rw [if_pos a2, if_pos a2]
          · rw [if_neg a2, if_neg a2]
            by_cases a3 : t.text = [110]
            · rw [if_pos a3, if_pos a3]
            · rw [if_neg a3, if_neg a3]
      · have e1 : tk0 1 [Val.mk 1 t c] = Ne.tok0 := tk0_no fun h => h1 h.2
        by_cases h5 : t.kind = 5
        · have e5 : tk0 5 [Val.mk 1 t c] = t := tk0_yes ⟨rfl, h5⟩
          unfold nthG Sl.nth1
          rw [if_neg h1, if_pos h5, e1, e5, if_neg (show ¬([Val.mk 1 t c].length = 1 ∧ Ne.tok0.kind = 1) from fun h => by rw [t0k] at h; simp at h), if_neg (show ¬ t.kind = 0 by rw [h5]; decide)]
          by_cases a1 : t.text = []
          · rw [if_pos a1, if_pos (show [Val.mk 1 t c].length = 1 ∧ t.text = [] from ⟨rfl, a1⟩)]
          · rw [if_neg a1, if_neg (show ¬([Val.mk 1 t c].length = 1 ∧ t.text = []) from fun h => a1 h.2)]
            by_cases a2 : t.text = [110]
            · rw [if_pos a2, if_pos (show [Val.mk 1 t c].length = 1 ∧ t.text = [110] from ⟨rfl, a2⟩)]
            · rw [if_neg a2, if_neg (show ¬([Val.mk 1 t c].length = 1 ∧ t.text = [110]) from fun h => a2 h.2)]
              by_cases a3 : 2 < t.text.length ∧ t.text.take 2 = [110, 45] ∧ 0 ≤ Sl.digits (t.text.drop 2)
              · rw [if_pos a3, if_pos (show [Val.mk 1 t c].length = 1 ∧ 2 < t.text.length ∧ t.text.take 2 = [110, 45] ∧ 0 ≤ Sl.digits (t.text.drop 2) from ⟨rfl, a3⟩)]
              · rw [if_neg a3, if_neg (show ¬([Val.mk 1 t c].length = 1 ∧ 2 < t.text.length ∧ t.text.take 2 = [110, 45] ∧ 0 ≤ Sl.digits (t.text.drop 2)) from fun h => a3 h.2), if_neg (fun h => by simp at h)]
        · have e5 : tk0 5 [Val.mk 1 t c] = Ne.tok0 := tk0_no fun h => h5 h.2
          unfold nthG Sl.nth1
          rw [if_neg h1, if_neg h5, e1, e5, if_neg (show ¬([Val.mk 1 t c].length = 1 ∧ Ne.tok0.kind = 1) from fun h => by rw [t0k] at h; simp at h), if_pos t0k]
    · rw [if_neg hk]
      have e1 : tk0 1 [Val.mk k t c] = Ne.tok0 := tk0_no fun h => hk h.1
      have e5 : tk0 5 [Val.mk k t c] = Ne.tok0 := tk0_no fun h => hk h.1
      unfold nthG
      simp only
      rw [e1, e5, if_neg (show ¬([Val.mk k t c].length = 1 ∧ Ne.tok0.kind = 1) from fun h => by rw [t0k] at h; simp at h), if_pos t0k]
  | [a, b] =>
    simp only
    unfold nthG
    simp only [List.length_cons, List.length_nil, Nat.zero_add, Nat.reduceAdd, Nat.reduceEqDiff, false_and, if_false]
    split <;> rfl
  | [.mk k t c, s, .mk k' u c'] =>
    simp only
    have hu : tk0 5 ([Val.mk k t c, s, Val.mk k' u c'].drop 2) = if k' = 1 ∧ u.kind = 5 then u else Ne.tok0 := by
      have : [Val.mk k t c, s, Val.mk k' u c'].drop 2 = [Val.mk k' u c'] := rfl
      rw [this]
      split
      · rename_i h; exact tk0_yes h
      · rename_i h; exact tk0_no h
    have hs : (Sl.sign [43] ([Val.mk k t c, s, Val.mk k' u c'].drop 1)).isSome = Sl.isSign [43] s := by
      have : [Val.mk k t c, s, Val.mk k' u c'].drop 1 = [s, Val.mk k' u c'] := rfl
      rw [this]
      unfold Sl.sign
      simp only
      cases Sl.isSign [43] s <;> rfl
    unfold nthG
    rw [hu, hs]
    simp only [List.length_cons, List.length_nil, Nat.zero_add, Nat.reduceAdd, Nat.reduceEqDiff, false_and, if_false, true_and]
    by_cases hk : k = 1 ∧ t.kind = 5
    · have e5 : tk0 5 [Val.mk k t c, s, Val.mk k' u c'] = t := tk0_yes hk
      rw [e5, if_neg (show ¬ t.kind = 0 by rw [hk.2]; decide)]
      by_cases hn : t.text = [110] ∧ Sl.isSign [43] s = true
      · rw [if_pos hn]
        by_cases hb : k' = 1 ∧ u.kind = 5
        · rw [if_pos hb]
          by_cases hc : u.text = [] ∧ 0 ≤ u.n
          · rw [if_pos (show k = 1 ∧ t.kind = 5 ∧ t.text = [110] ∧ Sl.isSign [43] s = true ∧ k' = 1 ∧ u.kind = 5 ∧ u.text = [] ∧ 0 ≤ u.n from ⟨hk.1, hk.2, hn.1, hn.2, hb.1, hb.2, hc.1, hc.2⟩)]
            simp [hb.2, hc.1, hc.2]
          · rw [if_neg (show ¬(k = 1 ∧ t.kind = 5 ∧ t.text = [110] ∧ Sl.isSign [43] s = true ∧ k' = 1 ∧ u.kind = 5 ∧ u.text = [] ∧ 0 ≤ u.n) from fun h => hc ⟨h.2.2.2.2.2.2.1, h.2.2.2.2.2.2.2⟩)]
            simp only
            cases h1 : (u.text == [])
            · simp
            · cases h2 : decide (0 ≤ u.n)
              · simp
              · exact (hc ⟨by simpa using h1, of_decide_eq_true h2⟩).elim
        · rw [if_neg hb, if_neg (show ¬(k = 1 ∧ t.kind = 5 ∧ t.text = [110] ∧ Sl.isSign [43] s = true ∧ k' = 1 ∧ u.kind = 5 ∧ u.text = [] ∧ 0 ≤ u.n) from fun h => hb ⟨h.2.2.2.2.1, h.2.2.2.2.2.1⟩)]
          rfl
      · rw [if_neg hn, if_neg (show ¬(k = 1 ∧ t.kind = 5 ∧ t.text = [110] ∧ Sl.isSign [43] s = true ∧ k' = 1 ∧ u.kind = 5 ∧ u.text = [] ∧ 0 ≤ u.n) from fun h => hn ⟨h.2.2.1, h.2.2.2.1⟩)]
    · have e5 : tk0 5 [Val.mk k t c, s, Val.mk k' u c'] = Ne.tok0 := tk0_no hk
      rw [e5, if_pos t0k, if_neg (show ¬(k = 1 ∧ t.kind = 5 ∧ t.text = [110] ∧ Sl.isSign [43] s = true ∧ k' = 1 ∧ u.kind = 5 ∧ u.text = [] ∧ 0 ≤ u.n) from fun h => hk ⟨h.1, h.2.1⟩)]
  | a :: b :: c :: d :: l =>
    simp only
    have h3 : ¬ ((a :: b :: c :: d :: l).length = 1) := by simp
    have h4 : ¬ ((a :: b :: c :: d :: l).length = 3) := by simp
    unfold nthG
    simp only [h3, h4, false_and, if_false]
    split <;> rfl

def nthA (x : Option (Int × Int)) : AV := match x with
  | some x => .tup [.c (.pv (.int .i64 x.1)), .c (.pv (.int .i64 x.2)), .c (.pv (.int .i64 0))]
  | none => .tup [.c (.pv (.int .i64 0)), .c (.pv (.int .i64 0)), .c (.pv (.int .i64 40))]

set_option maxHeartbeats 4000000 in
theorem Nth4_den (l : List Val) (hl : l.length ≤ 100000000) : den K 64 [L (encL l)] [] = some (.ret (nthA (Sl.nthM l)) []) := by
  have hr : Tryd.f64.results = #[.tmp 2, .tmp 3, .tmp 4] := rfl
  have hn := nth_den l hl
  have hg := nthG_spec l
  have b0 : ((0 : Int) ≤ 0 ∧ (0 : Int) < ((2 : Nat) : Int)) = True := by decide
  have b1 : ((0 : Int) ≤ 1 ∧ (1 : Int) < ((2 : Nat) : Int)) = True := by decide
  have z0 : (0 : Int).toNat = 0 := rfl
  have z1 : (1 : Int).toNat = 1 := rfl
  unfold Sl.nthM
  cases hv : Sl.nth l with
  | none =>
    rw [hv] at hg
    simp only at hg ⊢
    generalize nthG (Sl.trim l) = y at hn hg
    obtain ⟨a, b, ok⟩ := y
    simp only at hg
    subst hg
    unfold nthA
    refine den_run rfl Tryd.func64 rfl Tryd.ntmps64 ⟨by simp, by simp [LK]⟩ ?_
    simp only [go_sem, Nat.reduceLT, reduceIte, reduceCtorEq, Nat.reduceEqDiff, apply_ite (Option.map (outOf _)), Nat.reduceBEq, Nat.reduceAdd, Nat.reduceSub, Nat.reduceLeDiff, Nat.reduceMul, good_71, ty_zeroCells_120, ty_szOf_120, ev_indexAddr_arr ty_arrOf_120, ty_shapeT_3, good_72, hr, hn, TV.flat]
  | some x =>
    obtain ⟨a, b⟩ := x
    rw [hv] at hg
    simp only at hg ⊢
    rw [hg] at hn
    have f1 := few_den a
    have f2 := few_den b
    cases h1 : decide (Sl.few a)
    · rw [h1] at f1
      rw [if_neg (fun h => of_decide_eq_false h1 h.1)]
      unfold nthA
      refine den_run rfl Tryd.func64 rfl Tryd.ntmps64 ⟨by simp, by simp [LK]⟩ ?_
      simp only [go_sem, Nat.reduceLT, reduceIte, reduceCtorEq, Nat.reduceEqDiff, apply_ite (Option.map (outOf _)), Nat.reduceBEq, Nat.reduceAdd, Nat.reduceSub, Nat.reduceLeDiff, Nat.reduceMul, good_71, ty_zeroCells_120, ty_szOf_120, ev_indexAddr_arr ty_arrOf_120, ty_shapeT_3, good_72, hr, hn, TV.flat, b0, b1, z0, z1, f1]
    · rw [h1] at f1
      cases h2 : decide (Sl.few b)
      · rw [h2] at f2
        rw [if_neg (fun h => of_decide_eq_false h2 h.2)]
        unfold nthA
        refine den_run rfl Tryd.func64 rfl Tryd.ntmps64 ⟨by simp, by simp [LK]⟩ ?_
        simp only [go_sem, Nat.reduceLT, reduceIte, reduceCtorEq, Nat.reduceEqDiff, apply_ite (Option.map (outOf _)), Nat.reduceBEq, Nat.reduceAdd, Nat.reduceSub, Nat.reduceLeDiff, Nat.reduceMul, good_71, ty_zeroCells_120, ty_szOf_120, ev_indexAddr_arr ty_arrOf_120, ty_shapeT_3, good_72, hr, hn, TV.flat, b0, b1, z0, z1, f1, f2]
      · rw [h2] at f2
        rw [if_pos ⟨of_decide_eq_true h1, of_decide_eq_true h2⟩]
        unfold nthA
        refine den_run rfl Tryd.func64 rfl Tryd.ntmps64 ⟨by simp, by simp [LK]⟩ ?_
        simp only [go_sem, Nat.reduceLT, reduceIte, reduceCtorEq, Nat.reduceEqDiff, apply_ite (Option.map (outOf _)), Nat.reduceBEq, Nat.reduceAdd, Nat.reduceSub, Nat.reduceLeDiff, Nat.reduceMul, good_71, ty_zeroCells_120, ty_szOf_120, ev_indexAddr_arr ty_arrOf_120, ty_shapeT_3, good_72, hr, hn, TV.flat, b0, b1, z0, z1, f1, f2]
end Go.Abs
