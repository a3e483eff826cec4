/-
  WHAT THE DOCUMENT'S ANSWER COMPUTES, layer 1: the tokens of a text; whether tokens may be.
-/
import Derived.Test.YtmcjabhnmealgaaDoorQSpecR3
import Derived.Test.YtmcjabhnmealgaaDoorQJ
set_option linter.unusedSimpArgs false
set_option linter.unusedVariables false
namespace Go.Abs
open Go Go.Proofs
set_option maxRecDepth 10000
attribute [local go_sem] exL_seq exL_region exL_cond exL_block exL_scope exL_ret exL_skip exL_exit runRegion runOps stepOp guardA absOp takeOver opd avOf cvOf St.degAt St.put okPV okVal okAV absBin intBin strBin boolBin setBoxes if_true Bool.false_eq_true if_false Option.map_some Option.map_none Option.bind_some Option.bind_none thenO outOf upd List.toList_toArray isOwn steal appArgs inApps AV.deg CV.deg AV.gv AV.isIter absNext some_bne List.length_nil List.length_cons List.filterMap_cons List.filterMap_nil beq_iff_eq List.getElem?_cons_zero List.getElem?_cons_succ Option.getD_some K_hook hookB Bool.false_and Bool.and_false Bool.and_self K_P K_own absCall doCall getBoxes lend back idx dedup AV.ren CV.ren TV.ren AV.ptrs CV.ptrs zipBox AV.flat CV.flat absLoad absStore cellsOfAV setAt newBox markB bldTypes absFieldAddr absField absExtract absAssert noAssert absMkIface ifcOf CV.pv? content pushHead ownT fillCells reps pvs chunks enterSt leave resOf resVars resVar outBoxes lentOnly TV.deg TV.av LK CV.plain CV.noBld nilBin absUn bound List.map_cons List.map_nil List.all_cons List.all_nil List.any_cons List.any_nil List.contains_cons List.contains_nil List.elem_cons List.elem_nil List.cons_append List.nil_append List.append_nil List.flatMap_cons List.flatMap_nil List.zip_cons_cons List.zip_nil_left List.zip_nil_right List.take_succ_cons List.take_zero List.take_nil List.drop_succ_cons List.drop_zero List.drop_nil List.isEmpty_nil List.isEmpty_cons Bool.and_true Bool.true_and Bool.or_true Bool.true_or Bool.or_false Bool.false_or Bool.not_true Bool.not_false Nat.add_zero Nat.zero_add Option.isNone_none Option.isNone_some Option.getD_none true_and and_true not_true_eq_false not_false_eq_true decide_true decide_false Nat.le_refl and_self Bool.not_eq_true Nat.sub_self or_true true_or Option.some.injEq List.length_map List.nil_eq and_false false_and AV.live CV.live CV.liveIn K_keep firstReg Option.orElse_some Option.orElse_none head keepSlots keepBoxes Int.lt_irrefl List.length_append ite_self memOK logOps opKey lentBoxes Key.clash Key.sees Key.writes Nat.lt_irrefl gt_iff_lt nobox_at bot_at false_or or_false beq_self_eq_true Bool.true_beq Bool.false_beq

abbrev allH1 (s : List UInt8) (i : Nat) (ys : List Tok) : St := { sl := upd (upd (upd bot 4 (I i)) 3 (.c (.own 83 (ys.map Tok.enc)))) 0 (T s), bx := nobox, nt := 27 }

theorem good_ne {t : Tok} (h : Tk.Good t) : (t.kind != 0) = true := by
  rw [bne_iff_ne]
  cases h <;> simp

set_option maxHeartbeats 4000000 in
theorem all1_loop (s : List UInt8) (hs : s.length < 4000000000) : ∀ (l : List UInt8) (i : Nat) (ys : List Tok), s.drop i = l → i ≤ s.length → ys.length + l.length < 4000000000 →
    Ends (exL K 21 (.loop (loopAt Tryd.f21 3)) (allH1 s i ys)) fun o S => o = .exit 0 ∧ S.nt = 27 ∧ S.sl 3 = .c (.own 83 ((ys ++ Tk.all l).map Tok.enc)) := by
  refine Tk.all_ind (Q := fun l => ∀ (i : Nat) (ys : List Tok), s.drop i = l → i ≤ s.length → ys.length + l.length < 4000000000 →
    Ends (exL K 21 (.loop (loopAt Tryd.f21 3)) (allH1 s i ys)) fun o S => o = .exit 0 ∧ S.nt = 27 ∧ S.sl 3 = .c (.own 83 ((ys ++ Tk.all l).map Tok.enc))) ?_ ?_
  · intro i ys hd hi _
    have hin : i = s.length := by
      have := List.drop_eq_nil_iff.1 hd
      omega
    subst hin
    rw [Tk.all_nil, List.append_nil]
    conv in loopAt _ _ => whnf
    rw [exL_loop]
    simp only [go_sem, Nat.reduceLT, reduceIte, reduceCtorEq, Nat.reduceEqDiff, apply_ite (Option.map (outOf _)), Nat.reduceBEq, Nat.reduceAdd, Nat.reduceSub, Nat.reduceLeDiff, Nat.reduceMul, ev_buildSlice (len := 0) ty_descOf_60 ty_szOf_83 ty_zeroCells_83 ⟨rfl, by decide, by decide⟩, ev_len_str ty_descOf_9, good_31, ty_zeroCells_83, ty_szOf_83, ty_fieldOff_83_0, ty_szOf_3, ty_shapeT_3, ty_shapeT_83, ev_buildSlice (len := 1) ty_descOf_60 ty_szOf_83 ty_zeroCells_83 ⟨rfl, by decide, by decide⟩, ev_append ty_appInfo_60, ev_appNew_sl ty_descOf_60, keep_21_3, ends_some]
  · intro c r ih i ys hd hi hl
    obtain ⟨g1, g2, g3⟩ := drop_cons hd
    have hp := Tk.step_pos c r
    have hle := Tk.step_le c r
    have hn := next1_den s i c r hs hd
    have hlt : decide ((i : Int) < (s.length : Int)) = true := decide_eq_true (by omega)
    have hlen : (c :: r).length = s.length - i := by rw [← hd, List.length_drop]
    have hdd : s.drop (i + (Tk.step c r).2) = (c :: r).drop (Tk.step c r).2 := by rw [← List.drop_drop, hd]
    have hall := Tk.all_cons c r
    have ih' := ih (i + (Tk.step c r).2)
    simp only [tokAt, Tok.cells] at hn
    cases hst : (Tk.step c r).1 with
    | none =>
      rw [hst] at hn hall
      simp only [stepT, Option.getD_none] at hn
      simp only [Option.toList_none, List.nil_append] at hall
      have e0 : ((0 : Int) != 0) = false := by decide
      have ih2 := ih' ys hdd (by omega) (by rw [List.length_drop]; omega)
      rw [← hall] at ih2
      conv at ih2 in loopAt _ _ => whnf
      conv in loopAt _ _ => whnf
      rw [exL_loop]
      simp only [go_sem, Nat.reduceLT, reduceIte, reduceCtorEq, Nat.reduceEqDiff, apply_ite (Option.map (outOf _)), Nat.reduceBEq, Nat.reduceAdd, Nat.reduceSub, Nat.reduceLeDiff, Nat.reduceMul, ev_buildSlice (len := 0) ty_descOf_60 ty_szOf_83 ty_zeroCells_83 ⟨rfl, by decide, by decide⟩, ev_len_str ty_descOf_9, good_31, ty_zeroCells_83, ty_szOf_83, ty_fieldOff_83_0, ty_szOf_3, ty_shapeT_3, ty_shapeT_83, ev_buildSlice (len := 1) ty_descOf_60 ty_szOf_83 ty_zeroCells_83 ⟨rfl, by decide, by decide⟩, ev_append ty_appInfo_60, ev_appNew_sl ty_descOf_60, keep_21_3, hlt, hn, e0, TV.flat]
      rw [exL_head]
      simp only [go_sem, Nat.reduceLT, reduceIte, reduceCtorEq, Nat.reduceEqDiff, apply_ite (Option.map (outOf _)), Nat.reduceBEq, Nat.reduceAdd, Nat.reduceSub, Nat.reduceLeDiff, Nat.reduceMul, ev_buildSlice (len := 0) ty_descOf_60 ty_szOf_83 ty_zeroCells_83 ⟨rfl, by decide, by decide⟩, ev_len_str ty_descOf_9, good_31, ty_zeroCells_83, ty_szOf_83, ty_fieldOff_83_0, ty_szOf_3, ty_shapeT_3, ty_shapeT_83, ev_buildSlice (len := 1) ty_descOf_60 ty_szOf_83 ty_zeroCells_83 ⟨rfl, by decide, by decide⟩, ev_append ty_appInfo_60, ev_appNew_sl ty_descOf_60, keep_21_3]
      exact ih2
    | some t =>
      rw [hst] at hn hall
      simp only [stepT, Option.getD_some] at hn
      simp only [Option.toList_some, List.cons_append, List.nil_append] at hall
      have e0 := good_ne (Tk.step_good hst)
      have hla : ys.length + 1 < appLim := by simp [appLim]; simp only [List.length_cons] at hl; omega
      have ih2 := ih' (ys ++ [t]) hdd (by omega) (by rw [List.length_append, List.length_drop]; simp only [List.length_cons, List.length_nil] at *; omega)
      rw [List.append_assoc, List.cons_append, List.nil_append, ← hall] at ih2
      have hys : (ys ++ [t]).map Tok.enc = ys.map Tok.enc ++ [[.int .i64 t.kind, .str t.text, .int .i64 t.n]] := by simp [Tok.enc]
      simp only [allH1, hys] at ih2
      conv at ih2 in loopAt _ _ => whnf
      conv in loopAt _ _ => whnf
      rw [exL_loop]
      simp only [go_sem, Nat.reduceLT, reduceIte, reduceCtorEq, Nat.reduceEqDiff, apply_ite (Option.map (outOf _)), Nat.reduceBEq, Nat.reduceAdd, Nat.reduceSub, Nat.reduceLeDiff, Nat.reduceMul, ev_buildSlice (len := 0) ty_descOf_60 ty_szOf_83 ty_zeroCells_83 ⟨rfl, by decide, by decide⟩, ev_len_str ty_descOf_9, good_31, ty_zeroCells_83, ty_szOf_83, ty_fieldOff_83_0, ty_szOf_3, ty_shapeT_3, ty_shapeT_83, ev_buildSlice (len := 1) ty_descOf_60 ty_szOf_83 ty_zeroCells_83 ⟨rfl, by decide, by decide⟩, ev_append ty_appInfo_60, ev_appNew_sl ty_descOf_60, keep_21_3, hlt, hn, e0, TV.flat, hla, lens_toks, lens_tok]
      rw [exL_head]
      simp only [go_sem, Nat.reduceLT, reduceIte, reduceCtorEq, Nat.reduceEqDiff, apply_ite (Option.map (outOf _)), Nat.reduceBEq, Nat.reduceAdd, Nat.reduceSub, Nat.reduceLeDiff, Nat.reduceMul, ev_buildSlice (len := 0) ty_descOf_60 ty_szOf_83 ty_zeroCells_83 ⟨rfl, by decide, by decide⟩, ev_len_str ty_descOf_9, good_31, ty_zeroCells_83, ty_szOf_83, ty_fieldOff_83_0, ty_szOf_3, ty_shapeT_3, ty_shapeT_83, ev_buildSlice (len := 1) ty_descOf_60 ty_szOf_83 ty_zeroCells_83 ⟨rfl, by decide, by decide⟩, ev_append ty_appInfo_60, ev_appNew_sl ty_descOf_60, keep_21_3]
      exact ih2

theorem All1_den (s : List UInt8) (hs : s.length < 4000000000) : den K 21 [T s] [] = some (.ret (L ((Tk.all s).map Tok.enc)) []) := by
  refine den_run rfl Tryd.func21 rfl Tryd.ntmps21 ⟨by simp, by simp [LK]⟩ ?_
  have hr : Tryd.f21.results = #[.tmp 2] := rfl
  have hl := all1_loop s hs s 0 [] rfl (Nat.zero_le _) (by simp; omega)
  conv at hl in loopAt _ _ => whnf
  obtain ⟨o, S', e2, rfl, hn, h3⟩ := hl
  simp only [List.nil_append] at h3
  simp only [go_sem, Nat.reduceLT, reduceIte, reduceCtorEq, Nat.reduceEqDiff, apply_ite (Option.map (outOf _)), Nat.reduceBEq, Nat.reduceAdd, Nat.reduceSub, Nat.reduceLeDiff, Nat.reduceMul, ev_buildSlice (len := 0) ty_descOf_60 ty_szOf_83 ty_zeroCells_83 ⟨rfl, by decide, by decide⟩, ev_len_str ty_descOf_9, good_31, ty_zeroCells_83, ty_szOf_83, ty_fieldOff_83_0, ty_szOf_3, ty_shapeT_3, ty_shapeT_83, ev_buildSlice (len := 1) ty_descOf_60 ty_szOf_83 ty_zeroCells_83 ⟨rfl, by decide, by decide⟩, ev_append ty_appInfo_60, ev_appNew_sl ty_descOf_60, keep_21_3]
  rw [exL_head]
  simp only [go_sem, Nat.reduceLT, reduceIte, reduceCtorEq, Nat.reduceEqDiff, apply_ite (Option.map (outOf _)), Nat.reduceBEq, Nat.reduceAdd, Nat.reduceSub, Nat.reduceLeDiff, Nat.reduceMul, ev_buildSlice (len := 0) ty_descOf_60 ty_szOf_83 ty_zeroCells_83 ⟨rfl, by decide, by decide⟩, ev_len_str ty_descOf_9, good_31, ty_zeroCells_83, ty_szOf_83, ty_fieldOff_83_0, ty_szOf_3, ty_shapeT_3, ty_shapeT_83, ev_buildSlice (len := 1) ty_descOf_60 ty_szOf_83 ty_zeroCells_83 ⟨rfl, by decide, by decide⟩, ev_append ty_appInfo_60, ev_appNew_sl ty_descOf_60, keep_21_3]
  erw [e2]
  simp only [go_sem, Nat.reduceLT, reduceIte, reduceCtorEq, Nat.reduceEqDiff, apply_ite (Option.map (outOf _)), Nat.reduceBEq, Nat.reduceAdd, Nat.reduceSub, Nat.reduceLeDiff, Nat.reduceMul, ev_buildSlice (len := 0) ty_descOf_60 ty_szOf_83 ty_zeroCells_83 ⟨rfl, by decide, by decide⟩, ev_len_str ty_descOf_9, good_31, ty_zeroCells_83, ty_szOf_83, ty_fieldOff_83_0, ty_szOf_3, ty_shapeT_3, ty_shapeT_83, ev_buildSlice (len := 1) ty_descOf_60 ty_szOf_83 ty_zeroCells_83 ⟨rfl, by decide, by decide⟩, ev_append ty_appInfo_60, ev_appNew_sl ty_descOf_60, keep_21_3, hr, hn, h3]

abbrev maysH (l : List Tok) (i : Nat) : St := { sl := upd (upd bot 3 (I i)) 0 (L (l.map Tok.enc)), bx := nobox, nt := 16 }

end Go.Abs
