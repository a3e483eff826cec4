/-
  WHAT THE FUNCTIONS COMPUTE, layer 4, the document's reader of selectors: a complex selector, by recursion.
-/
import Derived.Test.YtmcjabhnmealgaaDoorQSpecL9b
import Derived.Test.YtmcjabhnmealgaaDoorQSpecL10
set_option linter.unusedSimpArgs false
set_option linter.unusedVariables false
namespace Go.Abs
open Go Go.Proofs
set_option maxRecDepth 10000
attribute [local go_sem] exL_seq exL_region exL_cond exL_block exL_scope exL_ret exL_skip exL_exit runRegion runOps stepOp guardA absOp takeOver opd avOf cvOf St.degAt St.put okPV okVal okAV absBin intBin strBin boolBin setBoxes if_true Bool.false_eq_true if_false Option.map_some Option.map_none Option.bind_some Option.bind_none thenO outOf upd List.toList_toArray isOwn steal appArgs inApps AV.deg CV.deg AV.gv AV.isIter absNext some_bne List.length_nil List.length_cons List.filterMap_cons List.filterMap_nil beq_iff_eq List.getElem?_cons_zero List.getElem?_cons_succ Option.getD_some K_hook hookB Bool.false_and Bool.and_false Bool.and_self K_P K_own absCall doCall getBoxes lend back idx dedup AV.ren CV.ren TV.ren AV.ptrs CV.ptrs zipBox AV.flat CV.flat absLoad absStore cellsOfAV setAt newBox markB bldTypes absFieldAddr absField absExtract absAssert noAssert absMkIface ifcOf CV.pv? content pushHead ownT fillCells reps pvs chunks enterSt leave resOf resVars resVar outBoxes lentOnly TV.deg TV.av LK CV.plain CV.noBld nilBin absUn bound List.map_cons List.map_nil List.all_cons List.all_nil List.any_cons List.any_nil List.contains_cons List.contains_nil List.elem_cons List.elem_nil List.cons_append List.nil_append List.append_nil List.flatMap_cons List.flatMap_nil List.zip_cons_cons List.zip_nil_left List.zip_nil_right List.take_succ_cons List.take_zero List.take_nil List.drop_succ_cons List.drop_zero List.drop_nil List.isEmpty_nil List.isEmpty_cons Bool.and_true Bool.true_and Bool.or_true Bool.true_or Bool.or_false Bool.false_or Bool.not_true Bool.not_false Nat.add_zero Nat.zero_add Option.isNone_none Option.isNone_some Option.getD_none true_and and_true not_true_eq_false not_false_eq_true decide_true decide_false Nat.le_refl and_self Bool.not_eq_true Nat.sub_self or_true true_or Option.some.injEq List.length_map List.nil_eq and_false false_and AV.live CV.live CV.liveIn K_keep firstReg Option.orElse_some Option.orElse_none head keepSlots keepBoxes Int.lt_irrefl List.length_append ite_self memOK logOps opKey lentBoxes Key.clash Key.sees Key.writes Nat.lt_irrefl gt_iff_lt nobox_at bot_at false_or or_false beq_self_eq_true Bool.true_beq Bool.false_beq

theorem double_lt {l : List Val} {j : Nat} (h : Sl.double (l.drop j) = true) : j < l.length := by
  rcases Nat.lt_or_ge j l.length with h' | h'
  · exact h'
  · rw [List.drop_eq_nil_iff.2 h'] at h; cases h

/-- a complex selector of so many parts at most, behind some -/
theorem cpx_loop (l : List Val) (hsz : Ne.size l ≤ 100000000) (hts : TSh l) : ∀ (n : Nat) (i : Nat) (cb : Int) (e : Nat) (ps : List Prt), ps.length + n = 16 → i ≤ l.length → (e = 46 ∨ ps = []) →
    Ends (exL K 24 cxlp (cx4H l i cb e ps)) fun o S => match Sl.cpx n cb (l.drop i) with
      | some c => CYes (ps ++ c.parts) c.pseudo o S
      | none => CNo o S ∨ (o = .exit 0 ∧ S.nt = 141 ∧ S.sl 2 = .c (.loc 2 0) ∧ S.bx 2 = some zcpx)
  | 0, i, cb, e, ps, h, hi, he => by
    refine ends_imp (cpx_full l i cb e ps (by omega)) fun o S q => .inr q
  | n + 1, i, cb, e, ps, h, hi, he => by
    have hl : l.length ≤ 100000000 := Nat.le_trans (Ne.length_size l) hsz
    have hp := part_loop l cb e (encQ ps) hsz hts ((l.drop i).length + 1) i 0 [] true (by omega) hi rfl (Nat.zero_le _) (.inr rfl)
    obtain ⟨o, S, w, rfl, hk, hend⟩ := hp
    rw [Sl.cpx]
    unfold PEnd at hend
    cases hpt : Sl.part ((l.drop i).length + 1) true (l.drop i) with
    | none =>
      rw [hpt] at hend
      obtain ⟨j, e7, acc, gb10, gb7, _, _⟩ := hend
      exact ends_imp (cpx_bad l i cb e ps hl (by omega) he S w hk j e7 acc gb10 gb7) fun o S q => .inl q
    | some y =>
      obtain ⟨acc, r⟩ := y
      rw [hpt] at hend
      obtain ⟨j, e7, j1, j2, j3, hod, gb10, gb7, he7⟩ := hend
      rw [List.nil_append] at gb7 he7
      subst j1
      simp only
      cases hd : Sl.double (l.drop j) with
      | true =>
        rw [if_pos rfl, List.drop_drop]
        cases hn : Sl.name (l.drop (j + 2)) with
        | none =>
          simp only
          exact ends_imp (cpx_pnone l i cb e ps hl (by omega) he S w hk j e7 acc (double_lt hd) hd hn gb10 gb7) fun o S q => .inl q
        | some z =>
          obtain ⟨s, r⟩ := z
          have hh := cpx_pseudo l i cb e ps hl (by omega) he S w hk j e7 acc (double_lt hd) hd s r hn gb10 gb7
          cases r with
          | nil =>
            simp only
            by_cases hc : (s = Sl.beforeT ∨ s = Sl.afterT) ∧ acc.length ≤ 8
            · rw [if_pos hc]
              rw [if_pos ⟨rfl, hc⟩] at hh
              exact hh
            · rw [if_neg hc]
              rw [if_neg (fun h => hc h.2)] at hh
              exact ends_imp hh fun o S q => .inl q
          | cons v r =>
            simp only
            rw [if_neg (fun h => by cases h.1)] at hh
            exact ends_imp hh fun o S q => .inl q
      | false =>
        rw [if_neg (by simp)]
        by_cases hw : 8 < acc.length ∨ acc = []
        · rw [if_pos hw]
          exact ends_imp (cpx_wrong l i cb e ps hl (by omega) he S w hk j e7 acc j3 hd hw gb10 gb7) fun o S q => .inl q
        · rw [if_neg hw]
          have h8 : acc.length ≤ 8 := by
            rcases Nat.lt_or_ge 8 acc.length with h | h
            · exact absurd (.inl h) hw
            · exact h
          have hne : acc ≠ [] := fun h => hw (.inr h)
          by_cases hjl : j < l.length
          · have hem : (l.drop j).isEmpty = false := by
              cases hx : l.drop j with
              | nil => have := List.drop_eq_nil_iff.1 hx; omega
              | cons _ _ => rfl
            rw [hem, if_neg (by simp)]
            obtain ⟨m, m1, m2, m3, hc⟩ := combr_den l j false hl j3
            rw [cpx_more l i cb e ps hl (by omega) he S w hk j e7 acc hjl hd h8 hne gb10 gb7 _ m hc, ← m1]
            have ih := cpx_loop l hsz hts n m (Sl.comb (l.drop j)).1 46 (ps ++ [⟨cb, acc⟩]) (by rw [List.length_append, List.length_singleton]; omega) m3 (.inl rfl)
            refine ends_imp ih fun o S q => ?_
            cases hcx : Sl.cpx n (Sl.comb (l.drop j)).1 (l.drop m) with
            | none => rw [hcx] at q; exact q
            | some c =>
              rw [hcx] at q
              simp only [Option.map_some]
              simp only at q
              rw [List.append_assoc, List.singleton_append] at q
              exact q
          · have hje : j = l.length := by omega
            subst hje
            rw [List.drop_length, List.isEmpty_nil, if_pos rfl]
            exact cpx_last l i cb e ps hl (by omega) he S w hk e7 acc hd h8 hne gb10 gb7

def cpxA (x : Option Cpx) : AV := match x with
  | some c => .tup [.agg [.pv (.sl (encQ c.parts)), .pv (.str c.pseudo)], .c (.pv (.bool true))]
  | none => .tup [.agg [.nils, .pv (.str [])], .c (.pv (.bool false))]

set_option maxHeartbeats 8000000 in
theorem complex1_den (l : List Val) (hsz : Ne.size l ≤ 100000000) (hts : TSh l) : den K 24 [L (encL l)] [] = some (.ret (cpxA (Sl.cpx 16 0 l)) []) := by
  have hr : Tryd.f24.results = #[.cell 2 38, .tmp 3] := rfl
  have z0 : ((0 : Nat) : Int) = 0 := rfl
  have h := cpx_loop l hsz hts 16 0 0 0 [] rfl (Nat.zero_le _) (.inr rfl)
  rw [List.drop_zero] at h
  obtain ⟨o, S, w, h⟩ := h
  unfold cxlp at w
  conv at w in loopAt _ _ => whnf
  simp only [cx4H, rb0, z0] at w
  unfold cpxA
  cases hx : Sl.cpx 16 0 l with
  | some c =>
    rw [hx] at h
    obtain ⟨rfl, s2, s3, b2⟩ := h
    rw [List.nil_append] at b2
    refine den_run rfl Tryd.func24 rfl Tryd.ntmps24 ⟨by simp, by simp [LK]⟩ ?_
    simp only [go_sem, Nat.reduceLT, reduceIte, reduceCtorEq, Nat.reduceEqDiff, apply_ite (Option.map (outOf _)), Nat.reduceBEq, Nat.reduceAdd, Nat.reduceSub, Nat.reduceLeDiff, Nat.reduceMul, ty_shapeT_38, ty_zeroCells_38, ev_build ty_zeroCells_92 ty_placesOf_92, ev_build ty_zeroCells_38 ty_placesOf_38, ty_szOf_38, ty_fieldOff_92_2, ty_szOf_4, ty_shapeT_4, ty_fieldOff_38_0, ty_szOf_36, ty_shapeT_36, ev_len_sl ty_descOf_36, ev_build ty_zeroCells_46 ty_placesOf_46, ty_zeroCells_46, ty_szOf_46, good_34, good_35, ty_fieldOff_46_1, ty_szOf_30, ty_shapeT_30, ev_len_sl ty_descOf_30, good_36, ev_buildSlice (len := 1) ty_descOf_30 ty_szOf_32 ty_zeroCells_32 ⟨rfl, by decide, by decide⟩, ev_append ty_appInfo_30, ev_appNew_sl ty_descOf_30, ty_fieldOff_92_1, ty_szOf_3, ty_shapeT_3, good_37, ty_fieldOff_38_1, ty_szOf_9, ty_shapeT_9, ty_fieldOff_92_0, ty_szOf_39, ty_shapeT_39, ev_len_sl ty_descOf_39, ty_shapeT_46, ev_buildSlice (len := 1) ty_descOf_36 ty_szOf_46 ty_zeroCells_46 ⟨rfl, by decide, by decide⟩, ev_append ty_appInfo_36, ev_appNew_sl ty_descOf_36, good_38, keep_24_4, keep_24_6]
    rw [exL_head]
    simp only [go_sem, Nat.reduceLT, reduceIte, reduceCtorEq, Nat.reduceEqDiff, apply_ite (Option.map (outOf _)), Nat.reduceBEq, Nat.reduceAdd, Nat.reduceSub, Nat.reduceLeDiff, Nat.reduceMul, ty_shapeT_38, ty_zeroCells_38, ev_build ty_zeroCells_92 ty_placesOf_92, ev_build ty_zeroCells_38 ty_placesOf_38, ty_szOf_38, ty_fieldOff_92_2, ty_szOf_4, ty_shapeT_4, ty_fieldOff_38_0, ty_szOf_36, ty_shapeT_36, ev_len_sl ty_descOf_36, ev_build ty_zeroCells_46 ty_placesOf_46, ty_zeroCells_46, ty_szOf_46, good_34, good_35, ty_fieldOff_46_1, ty_szOf_30, ty_shapeT_30, ev_len_sl ty_descOf_30, good_36, ev_buildSlice (len := 1) ty_descOf_30 ty_szOf_32 ty_zeroCells_32 ⟨rfl, by decide, by decide⟩, ev_append ty_appInfo_30, ev_appNew_sl ty_descOf_30, ty_fieldOff_92_1, ty_szOf_3, ty_shapeT_3, good_37, ty_fieldOff_38_1, ty_szOf_9, ty_shapeT_9, ty_fieldOff_92_0, ty_szOf_39, ty_shapeT_39, ev_len_sl ty_descOf_39, ty_shapeT_46, ev_buildSlice (len := 1) ty_descOf_36 ty_szOf_46 ty_zeroCells_46 ⟨rfl, by decide, by decide⟩, ev_append ty_appInfo_36, ev_appNew_sl ty_descOf_36, good_38, keep_24_4, keep_24_6]
    erw [w]
    simp only [go_sem, Nat.reduceLT, reduceIte, reduceCtorEq, Nat.reduceEqDiff, apply_ite (Option.map (outOf _)), Nat.reduceBEq, Nat.reduceAdd, Nat.reduceSub, Nat.reduceLeDiff, Nat.reduceMul, ty_shapeT_38, ty_zeroCells_38, ev_build ty_zeroCells_92 ty_placesOf_92, ev_build ty_zeroCells_38 ty_placesOf_38, ty_szOf_38, ty_fieldOff_92_2, ty_szOf_4, ty_shapeT_4, ty_fieldOff_38_0, ty_szOf_36, ty_shapeT_36, ev_len_sl ty_descOf_36, ev_build ty_zeroCells_46 ty_placesOf_46, ty_zeroCells_46, ty_szOf_46, good_34, good_35, ty_fieldOff_46_1, ty_szOf_30, ty_shapeT_30, ev_len_sl ty_descOf_30, good_36, ev_buildSlice (len := 1) ty_descOf_30 ty_szOf_32 ty_zeroCells_32 ⟨rfl, by decide, by decide⟩, ev_append ty_appInfo_30, ev_appNew_sl ty_descOf_30, ty_fieldOff_92_1, ty_szOf_3, ty_shapeT_3, good_37, ty_fieldOff_38_1, ty_szOf_9, ty_shapeT_9, ty_fieldOff_92_0, ty_szOf_39, ty_shapeT_39, ev_len_sl ty_descOf_39, ty_shapeT_46, ev_buildSlice (len := 1) ty_descOf_36 ty_szOf_46 ty_zeroCells_46 ⟨rfl, by decide, by decide⟩, ev_append ty_appInfo_36, ev_appNew_sl ty_descOf_36, good_38, keep_24_4, keep_24_6, hr, s2, s3, b2, TV.flat]
  | none =>
    rw [hx] at h
    rcases h with ⟨rfl, s2, s3, b2⟩ | ⟨rfl, hn, s2, b2⟩
    · refine den_run rfl Tryd.func24 rfl Tryd.ntmps24 ⟨by simp, by simp [LK]⟩ ?_
      simp only [go_sem, Nat.reduceLT, reduceIte, reduceCtorEq, Nat.reduceEqDiff, apply_ite (Option.map (outOf _)), Nat.reduceBEq, Nat.reduceAdd, Nat.reduceSub, Nat.reduceLeDiff, Nat.reduceMul, ty_shapeT_38, ty_zeroCells_38, ev_build ty_zeroCells_92 ty_placesOf_92, ev_build ty_zeroCells_38 ty_placesOf_38, ty_szOf_38, ty_fieldOff_92_2, ty_szOf_4, ty_shapeT_4, ty_fieldOff_38_0, ty_szOf_36, ty_shapeT_36, ev_len_sl ty_descOf_36, ev_build ty_zeroCells_46 ty_placesOf_46, ty_zeroCells_46, ty_szOf_46, good_34, good_35, ty_fieldOff_46_1, ty_szOf_30, ty_shapeT_30, ev_len_sl ty_descOf_30, good_36, ev_buildSlice (len := 1) ty_descOf_30 ty_szOf_32 ty_zeroCells_32 ⟨rfl, by decide, by decide⟩, ev_append ty_appInfo_30, ev_appNew_sl ty_descOf_30, ty_fieldOff_92_1, ty_szOf_3, ty_shapeT_3, good_37, ty_fieldOff_38_1, ty_szOf_9, ty_shapeT_9, ty_fieldOff_92_0, ty_szOf_39, ty_shapeT_39, ev_len_sl ty_descOf_39, ty_shapeT_46, ev_buildSlice (len := 1) ty_descOf_36 ty_szOf_46 ty_zeroCells_46 ⟨rfl, by decide, by decide⟩, ev_append ty_appInfo_36, ev_appNew_sl ty_descOf_36, good_38, keep_24_4, keep_24_6]
      rw [exL_head]
      simp only [go_sem, Nat.reduceLT, reduceIte, reduceCtorEq, Nat.reduceEqDiff, apply_ite (Option.map (outOf _)), Nat.reduceBEq, Nat.reduceAdd, Nat.reduceSub, Nat.reduceLeDiff, Nat.reduceMul, ty_shapeT_38, ty_zeroCells_38, ev_build ty_zeroCells_92 ty_placesOf_92, ev_build ty_zeroCells_38 ty_placesOf_38, ty_szOf_38, ty_fieldOff_92_2, ty_szOf_4, ty_shapeT_4, ty_fieldOff_38_0, ty_szOf_36, ty_shapeT_36, ev_len_sl ty_descOf_36, ev_build ty_zeroCells_46 ty_placesOf_46, ty_zeroCells_46, ty_szOf_46, good_34, good_35, ty_fieldOff_46_1, ty_szOf_30, ty_shapeT_30, ev_len_sl ty_descOf_30, good_36, ev_buildSlice (len := 1) ty_descOf_30 ty_szOf_32 ty_zeroCells_32 ⟨rfl, by decide, by decide⟩, ev_append ty_appInfo_30, ev_appNew_sl ty_descOf_30, ty_fieldOff_92_1, ty_szOf_3, ty_shapeT_3, good_37, ty_fieldOff_38_1, ty_szOf_9, ty_shapeT_9, ty_fieldOff_92_0, ty_szOf_39, ty_shapeT_39, ev_len_sl ty_descOf_39, ty_shapeT_46, ev_buildSlice (len := 1) ty_descOf_36 ty_szOf_46 ty_zeroCells_46 ⟨rfl, by decide, by decide⟩, ev_append ty_appInfo_36, ev_appNew_sl ty_descOf_36, good_38, keep_24_4, keep_24_6]
      erw [w]
      simp only [go_sem, Nat.reduceLT, reduceIte, reduceCtorEq, Nat.reduceEqDiff, apply_ite (Option.map (outOf _)), Nat.reduceBEq, Nat.reduceAdd, Nat.reduceSub, Nat.reduceLeDiff, Nat.reduceMul, ty_shapeT_38, ty_zeroCells_38, ev_build ty_zeroCells_92 ty_placesOf_92, ev_build ty_zeroCells_38 ty_placesOf_38, ty_szOf_38, ty_fieldOff_92_2, ty_szOf_4, ty_shapeT_4, ty_fieldOff_38_0, ty_szOf_36, ty_shapeT_36, ev_len_sl ty_descOf_36, ev_build ty_zeroCells_46 ty_placesOf_46, ty_zeroCells_46, ty_szOf_46, good_34, good_35, ty_fieldOff_46_1, ty_szOf_30, ty_shapeT_30, ev_len_sl ty_descOf_30, good_36, ev_buildSlice (len := 1) ty_descOf_30 ty_szOf_32 ty_zeroCells_32 ⟨rfl, by decide, by decide⟩, ev_append ty_appInfo_30, ev_appNew_sl ty_descOf_30, ty_fieldOff_92_1, ty_szOf_3, ty_shapeT_3, good_37, ty_fieldOff_38_1, ty_szOf_9, ty_shapeT_9, ty_fieldOff_92_0, ty_szOf_39, ty_shapeT_39, ev_len_sl ty_descOf_39, ty_shapeT_46, ev_buildSlice (len := 1) ty_descOf_36 ty_szOf_46 ty_zeroCells_46 ⟨rfl, by decide, by decide⟩, ev_append ty_appInfo_36, ev_appNew_sl ty_descOf_36, good_38, keep_24_4, keep_24_6, hr, s2, s3, b2, TV.flat]
    · refine den_run rfl Tryd.func24 rfl Tryd.ntmps24 ⟨by simp, by simp [LK]⟩ ?_
      simp only [go_sem, Nat.reduceLT, reduceIte, reduceCtorEq, Nat.reduceEqDiff, apply_ite (Option.map (outOf _)), Nat.reduceBEq, Nat.reduceAdd, Nat.reduceSub, Nat.reduceLeDiff, Nat.reduceMul, ty_shapeT_38, ty_zeroCells_38, ev_build ty_zeroCells_92 ty_placesOf_92, ev_build ty_zeroCells_38 ty_placesOf_38, ty_szOf_38, ty_fieldOff_92_2, ty_szOf_4, ty_shapeT_4, ty_fieldOff_38_0, ty_szOf_36, ty_shapeT_36, ev_len_sl ty_descOf_36, ev_build ty_zeroCells_46 ty_placesOf_46, ty_zeroCells_46, ty_szOf_46, good_34, good_35, ty_fieldOff_46_1, ty_szOf_30, ty_shapeT_30, ev_len_sl ty_descOf_30, good_36, ev_buildSlice (len := 1) ty_descOf_30 ty_szOf_32 ty_zeroCells_32 ⟨rfl, by decide, by decide⟩, ev_append ty_appInfo_30, ev_appNew_sl ty_descOf_30, ty_fieldOff_92_1, ty_szOf_3, ty_shapeT_3, good_37, ty_fieldOff_38_1, ty_szOf_9, ty_shapeT_9, ty_fieldOff_92_0, ty_szOf_39, ty_shapeT_39, ev_len_sl ty_descOf_39, ty_shapeT_46, ev_buildSlice (len := 1) ty_descOf_36 ty_szOf_46 ty_zeroCells_46 ⟨rfl, by decide, by decide⟩, ev_append ty_appInfo_36, ev_appNew_sl ty_descOf_36, good_38, keep_24_4, keep_24_6]
      rw [exL_head]
      simp only [go_sem, Nat.reduceLT, reduceIte, reduceCtorEq, Nat.reduceEqDiff, apply_ite (Option.map (outOf _)), Nat.reduceBEq, Nat.reduceAdd, Nat.reduceSub, Nat.reduceLeDiff, Nat.reduceMul, ty_shapeT_38, ty_zeroCells_38, ev_build ty_zeroCells_92 ty_placesOf_92, ev_build ty_zeroCells_38 ty_placesOf_38, ty_szOf_38, ty_fieldOff_92_2, ty_szOf_4, ty_shapeT_4, ty_fieldOff_38_0, ty_szOf_36, ty_shapeT_36, ev_len_sl ty_descOf_36, ev_build ty_zeroCells_46 ty_placesOf_46, ty_zeroCells_46, ty_szOf_46, good_34, good_35, ty_fieldOff_46_1, ty_szOf_30, ty_shapeT_30, ev_len_sl ty_descOf_30, good_36, ev_buildSlice (len := 1) ty_descOf_30 ty_szOf_32 ty_zeroCells_32 ⟨rfl, by decide, by decide⟩, ev_append ty_appInfo_30, ev_appNew_sl ty_descOf_30, ty_fieldOff_92_1, ty_szOf_3, ty_shapeT_3, good_37, ty_fieldOff_38_1, ty_szOf_9, ty_shapeT_9, ty_fieldOff_92_0, ty_szOf_39, ty_shapeT_39, ev_len_sl ty_descOf_39, ty_shapeT_46, ev_buildSlice (len := 1) ty_descOf_36 ty_szOf_46 ty_zeroCells_46 ⟨rfl, by decide, by decide⟩, ev_append ty_appInfo_36, ev_appNew_sl ty_descOf_36, good_38, keep_24_4, keep_24_6]
      erw [w]
      simp only [go_sem, Nat.reduceLT, reduceIte, reduceCtorEq, Nat.reduceEqDiff, apply_ite (Option.map (outOf _)), Nat.reduceBEq, Nat.reduceAdd, Nat.reduceSub, Nat.reduceLeDiff, Nat.reduceMul, ty_shapeT_38, ty_zeroCells_38, ev_build ty_zeroCells_92 ty_placesOf_92, ev_build ty_zeroCells_38 ty_placesOf_38, ty_szOf_38, ty_fieldOff_92_2, ty_szOf_4, ty_shapeT_4, ty_fieldOff_38_0, ty_szOf_36, ty_shapeT_36, ev_len_sl ty_descOf_36, ev_build ty_zeroCells_46 ty_placesOf_46, ty_zeroCells_46, ty_szOf_46, good_34, good_35, ty_fieldOff_46_1, ty_szOf_30, ty_shapeT_30, ev_len_sl ty_descOf_30, good_36, ev_buildSlice (len := 1) ty_descOf_30 ty_szOf_32 ty_zeroCells_32 ⟨rfl, by decide, by decide⟩, ev_append ty_appInfo_30, ev_appNew_sl ty_descOf_30, ty_fieldOff_92_1, ty_szOf_3, ty_shapeT_3, good_37, ty_fieldOff_38_1, ty_szOf_9, ty_shapeT_9, ty_fieldOff_92_0, ty_szOf_39, ty_shapeT_39, ev_len_sl ty_descOf_39, ty_shapeT_46, ev_buildSlice (len := 1) ty_descOf_36 ty_szOf_46 ty_zeroCells_46 ⟨rfl, by decide, by decide⟩, ev_append ty_appInfo_36, ev_appNew_sl ty_descOf_36, good_38, keep_24_4, keep_24_6, hr, hn, s2, b2, TV.flat]
end Go.Abs
