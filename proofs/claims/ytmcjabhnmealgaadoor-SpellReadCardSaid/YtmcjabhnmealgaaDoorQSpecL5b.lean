/-
  WHAT THE FUNCTIONS COMPUTE, layer 4, the document's reader of selectors: attributes, whole.
-/
import Derived.Test.YtmcjabhnmealgaaDoorQSpecL5
import Derived.Test.YtmcjabhnmealgaaDoorQS
set_option linter.unusedSimpArgs false
set_option linter.unusedVariables false
namespace Go.Abs
open Go Go.Proofs
set_option maxRecDepth 10000
attribute [local go_sem] exL_seq exL_region exL_cond exL_block exL_scope exL_ret exL_skip exL_exit runRegion runOps stepOp guardA absOp takeOver opd avOf cvOf St.degAt St.put okPV okVal okAV absBin intBin strBin boolBin setBoxes if_true Bool.false_eq_true if_false Option.map_some Option.map_none Option.bind_some Option.bind_none thenO outOf upd List.toList_toArray isOwn steal appArgs inApps AV.deg CV.deg AV.gv AV.isIter absNext some_bne List.length_nil List.length_cons List.filterMap_cons List.filterMap_nil beq_iff_eq List.getElem?_cons_zero List.getElem?_cons_succ Option.getD_some K_hook hookB Bool.false_and Bool.and_false Bool.and_self K_P K_own absCall doCall getBoxes lend back idx dedup AV.ren CV.ren TV.ren AV.ptrs CV.ptrs zipBox AV.flat CV.flat absLoad absStore cellsOfAV setAt newBox markB bldTypes absFieldAddr absField absExtract absAssert noAssert absMkIface ifcOf CV.pv? content pushHead ownT fillCells reps pvs chunks enterSt leave resOf resVars resVar outBoxes lentOnly TV.deg TV.av LK CV.plain CV.noBld nilBin absUn bound List.map_cons List.map_nil List.all_cons List.all_nil List.any_cons List.any_nil List.contains_cons List.contains_nil List.elem_cons List.elem_nil List.cons_append List.nil_append List.append_nil List.flatMap_cons List.flatMap_nil List.zip_cons_cons List.zip_nil_left List.zip_nil_right List.take_succ_cons List.take_zero List.take_nil List.drop_succ_cons List.drop_zero List.drop_nil List.isEmpty_nil List.isEmpty_cons Bool.and_true Bool.true_and Bool.or_true Bool.true_or Bool.or_false Bool.false_or Bool.not_true Bool.not_false Nat.add_zero Nat.zero_add Option.isNone_none Option.isNone_some Option.getD_none true_and and_true not_true_eq_false not_false_eq_true decide_true decide_false Nat.le_refl and_self Bool.not_eq_true Nat.sub_self or_true true_or Option.some.injEq List.length_map List.nil_eq and_false false_and AV.live CV.live CV.liveIn K_keep firstReg Option.orElse_some Option.orElse_none head keepSlots keepBoxes Int.lt_irrefl List.length_append ite_self memOK logOps opKey lentBoxes Key.clash Key.sees Key.writes Nat.lt_irrefl gt_iff_lt nobox_at bot_at false_or or_false beq_self_eq_true Bool.true_beq Bool.false_beq
attribute [local go_sem] ty_shapeT_32 ty_zeroCells_32 ty_szOf_88 ty_shapeT_88 good_32 ty_fieldOff_92_0 ty_szOf_39 ty_shapeT_39 good_37 ty_szOf_32 ty_fieldOff_92_2 ty_szOf_4 ty_shapeT_4 good_54 ty_fieldOff_32_0 ty_szOf_3 ty_fieldOff_88_1 ty_szOf_83 ty_shapeT_83 ty_zeroCells_83 ty_fieldOff_83_1 ty_szOf_9 ty_shapeT_9 ty_fieldOff_32_2 ty_fieldOff_88_0 ty_shapeT_3 ty_fieldOff_83_0 keep_57_3

theorem attr_end (l : List Val) (e : Nat) (acc : List Val) : Ends (exL K 57 attlp (attrH l l.length e acc)) fun o S => o = .exit 0 ∧ S.nt = 100 ∧ S.sl 4 = .c (.loc 9 0) ∧ S.sl 2 = .c (.loc 2 0) ∧ S.bx 9 = some [.own e (encL acc), .pv (.int .i64 0), .pv (.bool false)] ∧ S.bx 2 = some [.pv (.int .i64 0), .pv (.str []), .pv (.str []), .pv (.int .i64 0), .pv (.int .i64 0), .own 0 []] ∧ S.bx 6 = none ∧ S.bx 7 = none := by
  have hlt : decide ((l.length : Int) < (l.length : Int)) = false := decide_eq_false (by omega)
  unfold attlp
  conv in loopAt _ _ => whnf
  rw [exL_loop]
  simp only [go_sem, Nat.reduceLT, reduceIte, reduceCtorEq, Nat.reduceEqDiff, apply_ite (Option.map (outOf _)), Nat.reduceBEq, Nat.reduceAdd, Nat.reduceSub, Nat.reduceLeDiff, Nat.reduceMul, ev_build ty_zeroCells_92 ty_placesOf_92, ev_len_sl ty_descOf_39, ev_indexAddr ty_descOf_39, ev_buildSlice (len := 1) ty_descOf_39 ty_szOf_88 ty_zeroCells_88 ⟨rfl, by decide, by decide⟩, ev_append ty_appInfo_39, ev_appNew_sl ty_descOf_39, ev_build ty_zeroCells_32 ty_placesOf_32, hlt, encL_len, ends_some]

theorem attr_loop (l : List Val) (hl : l.length ≤ 100000000) : ∀ (rest : List Val) (i e : Nat) (acc : List Val), l.drop i = rest → i ≤ l.length → (e = 88 ∨ acc = []) → acc.length ≤ i →
    Ends (exL K 57 attlp (attrH l i e acc)) fun o S => o = .exit 0 ∧ S.nt = 100 ∧ S.sl 4 = .c (.loc 9 0) ∧ S.sl 2 = .c (.loc 2 0) ∧ (∃ e' : Nat, S.bx 9 = some [.own e' (encL (acc ++ noB rest)), .pv (.int .i64 0), .pv (.bool false)]) ∧ S.bx 2 = some [.pv (.int .i64 0), .pv (.str []), .pv (.str []), .pv (.int .i64 0), .pv (.int .i64 0), .own 0 []] ∧ S.bx 6 = none ∧ S.bx 7 = none
  | [], i, e, acc, hd, hi, he, ha => by
    have hin : i = l.length := by
      have := List.drop_eq_nil_iff.1 hd
      omega
    subst hin
    refine ends_imp (attr_end l e acc) fun o S q => ⟨q.1, q.2.1, q.2.2.1, q.2.2.2.1, ⟨e, ?_⟩, q.2.2.2.2.2⟩
    rw [q.2.2.2.2.1]
    simp [noB]
  | v :: rest, i, e, acc, hd, hi, he, ha => by
    obtain ⟨g1, g2, g3⟩ := drop_val hd
    cases hb : Sl.isBlank v with
    | true =>
      rw [attr_blank l i e acc hl v g1 hb]
      have hn : noB (v :: rest) = noB rest := by simp [noB, hb]
      rw [hn]
      exact attr_loop l hl rest (i + 1) e acc g2 g3 he (by omega)
    | false =>
      rw [attr_push l i e acc hl (by omega) he v g1 hb]
      have hn : acc ++ noB (v :: rest) = (acc ++ [v]) ++ noB rest := by simp [noB, hb]
      rw [hn]
      exact attr_loop l hl rest (i + 1) 88 (acc ++ [v]) g2 g3 (.inl rfl) (by simp; omega)

/-- an attribute, of what is no blank -/
def attrG (R : List Val) : Option Sim :=
  match R with
  | [.mk k t _] => if k = 1 ∧ t.kind = 1 then some (.mk 5 t.text [] 0 0 []) else none
  | [.mk k t _, e, .mk k' u _] => if k = 1 ∧ t.kind = 1 ∧ Sl.isSign [61] e = true ∧ k' = 1 ∧ (u.kind = 1 ∨ u.kind = 6) then some (.mk 6 t.text u.text 0 0 []) else none
  | _ => none
theorem attr_G (l : List Val) : Sl.attr l = attrG (noB l) := rfl

theorem attrG_no {R : List Val} (h : Sl.name R = none) : attrG R = none := by
  have key : ∀ (k : Int) (t : Tok) (c r : List Val), Sl.name (.mk k t c :: r) = none → ¬(k = 1 ∧ t.kind = 1) := by
    intro k t c r h hh
    unfold Sl.name Sl.tokK at h
    simp only [if_pos hh] at h
    cases h
  match R with
  | [] => rfl
  | [.mk k t c] => exact if_neg (key k t c _ h)
  | [.mk _ _ _, .mk _ _ _] => rfl
  | [.mk k t c, _, .mk k' u c'] => exact if_neg fun hh => key k t c _ h ⟨hh.1, hh.2.1⟩
  | .mk _ _ _ :: _ :: .mk _ _ _ :: _ :: _ => rfl
theorem attrG_len {R : List Val} (h1 : R.length ≠ 1) (h3 : R.length ≠ 3) : attrG R = none := by
  match R with
  | [] => rfl
  | [_] => exact absurd rfl h1
  | [.mk _ _ _, .mk _ _ _] => rfl
  | [_, _, _] => exact absurd rfl h3
  | .mk _ _ _ :: _ :: .mk _ _ _ :: _ :: _ => rfl
theorem attrG_1 {R r : List Val} {s : List UInt8} (h1 : R.length = 1) (h : Sl.name R = some (s, r)) : attrG R = some (.mk 5 s [] 0 0 []) := by
  obtain ⟨t, c, e, hk, rfl⟩ := Sl.name_some h
  subst e
  have : r = [] := List.eq_nil_of_length_eq_zero (by simpa using h1)
  subst this
  exact if_pos ⟨rfl, hk⟩
theorem attrG_3n {R : List Val} (h3 : R.length = 3) (hs : Sl.sign [61] (R.drop 1) = none) : attrG R = none := by
  match R with
  | [.mk k t c, v, .mk k' u c'] =>
    refine if_neg fun hh => ?_
    have h' : (if Sl.isSign [61] v = true then some [Val.mk k' u c'] else none) = none := hs
    rw [if_pos hh.2.2.1] at h'
    cases h'
theorem attrG_3y {R r r' c : List Val} {s : List UInt8} {k : Int} {u : Tok} (h3 : R.length = 3) (h : Sl.name R = some (s, r)) (hs : Sl.sign [61] (R.drop 1) = some r') (h2 : R[2]? = some (.mk k u c)) :
    attrG R = if k = 1 ∧ (u.kind = 1 ∨ u.kind = 6) then some (.mk 6 s u.text 0 0 []) else none := by
  obtain ⟨t, c1, e, hk, rfl⟩ := Sl.name_some h
  subst e
  match r with
  | [v, w] =>
    have hw : w = .mk k u c := by simpa using h2
    subst hw
    have hv : Sl.isSign [61] v = true := by
      have h' : (if Sl.isSign [61] v = true then some [Val.mk k u c] else none) = some r' := hs
      split at h'
      · assumption
      · cases h'
    unfold attrG
    simp only [hk, hv, true_and]

theorem len3 {R : List Val} (h : R.length = 3) : ∃ k u c, R[2]? = some (Val.mk k u c) := by
  match R with
  | [_, _, .mk k u c] => exact ⟨k, u, c, rfl⟩

set_option maxHeartbeats 8000000 in
theorem attr_den (l : List Val) (hl : l.length ≤ 100000000) : ∃ (x : Sim) (ok : Bool), den K 57 [L (encL l)] [] = some (.ret (.tup [.agg (simCv x), .c (.pv (.bool ok))]) []) ∧ (match Sl.attr l with | some y => x = y ∧ ok = true | none => ok = false) := by
  have hr : Tryd.f57.results = #[.cell 2 32, .tmp 3] := rfl
  obtain ⟨o, S, w, rfl, hn, s4, s2, ⟨e, b9⟩, b2, b6, b7⟩ := attr_loop l hl l 0 0 [] rfl (Nat.zero_le _) (.inr rfl) (Nat.zero_le _)
  have z0 : ((0 : Nat) : Int) = 0 := rfl
  have z1 : ((1 : Nat) : Int) = 1 := rfl
  have z2 : ((2 : Nat) : Int) = 2 := rfl
  have t2 : (2 : Int).toNat = 2 := rfl
  have p2 : (0 : Int) ≤ 2 := by decide
  unfold attlp at w
  conv at w in loopAt _ _ => whnf
  simp only [attrH, z0] at w
  rw [List.nil_append] at b9
  rw [attr_G]
  have hR : (noB l).length ≤ 100000000 := Nat.le_trans (List.length_filter_le _ _) hl
  generalize noB l = R at b9 hR
  cases hnm : Sl.name R with
  | none =>
    have nm := name_no (some e) R 0 false hR (by rw [List.drop_zero]; exact hnm)
    simp only [rb, rl_some, z0] at nm
    rw [attrG_no hnm]
    by_cases L1 : R.length = 1
    · have e1 : ((R.length : Int) == 1) = true := by rw [L1]; rfl
      refine ⟨.mk 5 [] [] 0 0 [], false, ?_, rfl⟩
      refine den_run rfl Tryd.func57 rfl Tryd.ntmps57 ⟨by simp, by simp [LK]⟩ ?_
      simp only [go_sem, Nat.reduceLT, reduceIte, reduceCtorEq, Nat.reduceEqDiff, apply_ite (Option.map (outOf _)), Nat.reduceBEq, Nat.reduceAdd, Nat.reduceSub, Nat.reduceLeDiff, Nat.reduceMul, ev_build ty_zeroCells_92 ty_placesOf_92, ev_len_sl ty_descOf_39, ev_indexAddr ty_descOf_39, ev_buildSlice (len := 1) ty_descOf_39 ty_szOf_88 ty_zeroCells_88 ⟨rfl, by decide, by decide⟩, ev_append ty_appInfo_39, ev_appNew_sl ty_descOf_39, ev_build ty_zeroCells_32 ty_placesOf_32]
      rw [exL_head]
      simp only [go_sem, Nat.reduceLT, reduceIte, reduceCtorEq, Nat.reduceEqDiff, apply_ite (Option.map (outOf _)), Nat.reduceBEq, Nat.reduceAdd, Nat.reduceSub, Nat.reduceLeDiff, Nat.reduceMul, ev_build ty_zeroCells_92 ty_placesOf_92, ev_len_sl ty_descOf_39, ev_indexAddr ty_descOf_39, ev_buildSlice (len := 1) ty_descOf_39 ty_szOf_88 ty_zeroCells_88 ⟨rfl, by decide, by decide⟩, ev_append ty_appInfo_39, ev_appNew_sl ty_descOf_39, ev_build ty_zeroCells_32 ty_placesOf_32]
      erw [w]
      simp only [go_sem, Nat.reduceLT, reduceIte, reduceCtorEq, Nat.reduceEqDiff, apply_ite (Option.map (outOf _)), Nat.reduceBEq, Nat.reduceAdd, Nat.reduceSub, Nat.reduceLeDiff, Nat.reduceMul, ev_build ty_zeroCells_92 ty_placesOf_92, ev_len_sl ty_descOf_39, ev_indexAddr ty_descOf_39, ev_buildSlice (len := 1) ty_descOf_39 ty_szOf_88 ty_zeroCells_88 ⟨rfl, by decide, by decide⟩, ev_append ty_appInfo_39, ev_appNew_sl ty_descOf_39, ev_build ty_zeroCells_32 ty_placesOf_32, hr, hn, s4, s2, b9, b2, b6, b7, nm, e1, encL_len, TV.flat, simCv_nil]
    · have e1 : ((R.length : Int) == 1) = false := by rw [beq_eq_false_iff_ne]; omega
      by_cases L3 : R.length = 3
      · have e3 : ((R.length : Int) != 3) = false := by rw [L3]; rfl
        cases hs : Sl.sign [61] (R.drop 0) with
        | none =>
          have sg := sign_no (some e) R 0 true [61] hR hs
          simp only [rb, rl_some, z0] at sg
          refine ⟨.mk 5 [] [] 0 0 [], false, ?_, rfl⟩
          refine den_run rfl Tryd.func57 rfl Tryd.ntmps57 ⟨by simp, by simp [LK]⟩ ?_
          simp only [go_sem, Nat.reduceLT, reduceIte, reduceCtorEq, Nat.reduceEqDiff, apply_ite (Option.map (outOf _)), Nat.reduceBEq, Nat.reduceAdd, Nat.reduceSub, Nat.reduceLeDiff, Nat.reduceMul, ev_build ty_zeroCells_92 ty_placesOf_92, ev_len_sl ty_descOf_39, ev_indexAddr ty_descOf_39, ev_buildSlice (len := 1) ty_descOf_39 ty_szOf_88 ty_zeroCells_88 ⟨rfl, by decide, by decide⟩, ev_append ty_appInfo_39, ev_appNew_sl ty_descOf_39, ev_build ty_zeroCells_32 ty_placesOf_32]
          rw [exL_head]
          simp only [go_sem, Nat.reduceLT, reduceIte, reduceCtorEq, Nat.reduceEqDiff, apply_ite (Option.map (outOf _)), Nat.reduceBEq, Nat.reduceAdd, Nat.reduceSub, Nat.reduceLeDiff, Nat.reduceMul, ev_build ty_zeroCells_92 ty_placesOf_92, ev_len_sl ty_descOf_39, ev_indexAddr ty_descOf_39, ev_buildSlice (len := 1) ty_descOf_39 ty_szOf_88 ty_zeroCells_88 ⟨rfl, by decide, by decide⟩, ev_append ty_appInfo_39, ev_appNew_sl ty_descOf_39, ev_build ty_zeroCells_32 ty_placesOf_32]
          erw [w]
          simp only [go_sem, Nat.reduceLT, reduceIte, reduceCtorEq, Nat.reduceEqDiff, apply_ite (Option.map (outOf _)), Nat.reduceBEq, Nat.reduceAdd, Nat.reduceSub, Nat.reduceLeDiff, Nat.reduceMul, ev_build ty_zeroCells_92 ty_placesOf_92, ev_len_sl ty_descOf_39, ev_indexAddr ty_descOf_39, ev_buildSlice (len := 1) ty_descOf_39 ty_szOf_88 ty_zeroCells_88 ⟨rfl, by decide, by decide⟩, ev_append ty_appInfo_39, ev_appNew_sl ty_descOf_39, ev_build ty_zeroCells_32 ty_placesOf_32, hr, hn, s4, s2, b9, b2, b6, b7, nm, e1, e3, sg, encL_len, TV.flat, simCv_nil]
        | some r =>
          have sg := (sign_yes (some e) R 0 true [61] hR r hs).1
          simp only [rb, rl_some, z0, Nat.zero_add, z1] at sg
          obtain ⟨k, u, c, h2⟩ := len3 L3
          have hget := val_at R 2 k u c h2
          have n2 : ((2 : Nat) : Int).toNat = 2 := rfl
          simp only [n2] at hget
          refine ⟨.mk 6 [] u.text 0 0 [], false, ?_, rfl⟩
          refine den_run rfl Tryd.func57 rfl Tryd.ntmps57 ⟨by simp, by simp [LK]⟩ ?_
          simp only [go_sem, Nat.reduceLT, reduceIte, reduceCtorEq, Nat.reduceEqDiff, apply_ite (Option.map (outOf _)), Nat.reduceBEq, Nat.reduceAdd, Nat.reduceSub, Nat.reduceLeDiff, Nat.reduceMul, ev_build ty_zeroCells_92 ty_placesOf_92, ev_len_sl ty_descOf_39, ev_indexAddr ty_descOf_39, ev_buildSlice (len := 1) ty_descOf_39 ty_szOf_88 ty_zeroCells_88 ⟨rfl, by decide, by decide⟩, ev_append ty_appInfo_39, ev_appNew_sl ty_descOf_39, ev_build ty_zeroCells_32 ty_placesOf_32]
          rw [exL_head]
          simp only [go_sem, Nat.reduceLT, reduceIte, reduceCtorEq, Nat.reduceEqDiff, apply_ite (Option.map (outOf _)), Nat.reduceBEq, Nat.reduceAdd, Nat.reduceSub, Nat.reduceLeDiff, Nat.reduceMul, ev_build ty_zeroCells_92 ty_placesOf_92, ev_len_sl ty_descOf_39, ev_indexAddr ty_descOf_39, ev_buildSlice (len := 1) ty_descOf_39 ty_szOf_88 ty_zeroCells_88 ⟨rfl, by decide, by decide⟩, ev_append ty_appInfo_39, ev_appNew_sl ty_descOf_39, ev_build ty_zeroCells_32 ty_placesOf_32]
          erw [w]
          simp only [go_sem, Nat.reduceLT, reduceIte, reduceCtorEq, Nat.reduceEqDiff, apply_ite (Option.map (outOf _)), Nat.reduceBEq, Nat.reduceAdd, Nat.reduceSub, Nat.reduceLeDiff, Nat.reduceMul, ev_build ty_zeroCells_92 ty_placesOf_92, ev_len_sl ty_descOf_39, ev_indexAddr ty_descOf_39, ev_buildSlice (len := 1) ty_descOf_39 ty_szOf_88 ty_zeroCells_88 ⟨rfl, by decide, by decide⟩, ev_append ty_appInfo_39, ev_appNew_sl ty_descOf_39, ev_build ty_zeroCells_32 ty_placesOf_32, hr, hn, s4, s2, b9, b2, b6, b7, nm, e1, e3, sg, hget, t2, p2, encL_len, TV.flat, simCv_nil]
      · have e3 : ((R.length : Int) != 3) = true := by rw [bne_iff_ne]; omega
        refine ⟨.mk 5 [] [] 0 0 [], false, ?_, rfl⟩
        refine den_run rfl Tryd.func57 rfl Tryd.ntmps57 ⟨by simp, by simp [LK]⟩ ?_
        simp only [go_sem, Nat.reduceLT, reduceIte, reduceCtorEq, Nat.reduceEqDiff, apply_ite (Option.map (outOf _)), Nat.reduceBEq, Nat.reduceAdd, Nat.reduceSub, Nat.reduceLeDiff, Nat.reduceMul, ev_build ty_zeroCells_92 ty_placesOf_92, ev_len_sl ty_descOf_39, ev_indexAddr ty_descOf_39, ev_buildSlice (len := 1) ty_descOf_39 ty_szOf_88 ty_zeroCells_88 ⟨rfl, by decide, by decide⟩, ev_append ty_appInfo_39, ev_appNew_sl ty_descOf_39, ev_build ty_zeroCells_32 ty_placesOf_32]
        rw [exL_head]
        simp only [go_sem, Nat.reduceLT, reduceIte, reduceCtorEq, Nat.reduceEqDiff, apply_ite (Option.map (outOf _)), Nat.reduceBEq, Nat.reduceAdd, Nat.reduceSub, Nat.reduceLeDiff, Nat.reduceMul, ev_build ty_zeroCells_92 ty_placesOf_92, ev_len_sl ty_descOf_39, ev_indexAddr ty_descOf_39, ev_buildSlice (len := 1) ty_descOf_39 ty_szOf_88 ty_zeroCells_88 ⟨rfl, by decide, by decide⟩, ev_append ty_appInfo_39, ev_appNew_sl ty_descOf_39, ev_build ty_zeroCells_32 ty_placesOf_32]
        erw [w]
        simp only [go_sem, Nat.reduceLT, reduceIte, reduceCtorEq, Nat.reduceEqDiff, apply_ite (Option.map (outOf _)), Nat.reduceBEq, Nat.reduceAdd, Nat.reduceSub, Nat.reduceLeDiff, Nat.reduceMul, ev_build ty_zeroCells_92 ty_placesOf_92, ev_len_sl ty_descOf_39, ev_indexAddr ty_descOf_39, ev_buildSlice (len := 1) ty_descOf_39 ty_szOf_88 ty_zeroCells_88 ⟨rfl, by decide, by decide⟩, ev_append ty_appInfo_39, ev_appNew_sl ty_descOf_39, ev_build ty_zeroCells_32 ty_placesOf_32, hr, hn, s4, s2, b9, b2, b6, b7, nm, e1, e3, encL_len, TV.flat, simCv_nil]
  | some y =>
    obtain ⟨s, r⟩ := y
    have nm := (name_yes (some e) R 0 false hR s r (by rw [List.drop_zero]; exact hnm)).1
    simp only [rb, rl_some, z0, Nat.zero_add, z1] at nm
    by_cases L1 : R.length = 1
    · have e1 : ((R.length : Int) == 1) = true := by rw [L1]; rfl
      rw [attrG_1 L1 hnm]
      refine ⟨.mk 5 s [] 0 0 [], true, ?_, rfl, rfl⟩
      refine den_run rfl Tryd.func57 rfl Tryd.ntmps57 ⟨by simp, by simp [LK]⟩ ?_
      simp only [go_sem, Nat.reduceLT, reduceIte, reduceCtorEq, Nat.reduceEqDiff, apply_ite (Option.map (outOf _)), Nat.reduceBEq, Nat.reduceAdd, Nat.reduceSub, Nat.reduceLeDiff, Nat.reduceMul, ev_build ty_zeroCells_92 ty_placesOf_92, ev_len_sl ty_descOf_39, ev_indexAddr ty_descOf_39, ev_buildSlice (len := 1) ty_descOf_39 ty_szOf_88 ty_zeroCells_88 ⟨rfl, by decide, by decide⟩, ev_append ty_appInfo_39, ev_appNew_sl ty_descOf_39, ev_build ty_zeroCells_32 ty_placesOf_32]
      rw [exL_head]
      simp only [go_sem, Nat.reduceLT, reduceIte, reduceCtorEq, Nat.reduceEqDiff, apply_ite (Option.map (outOf _)), Nat.reduceBEq, Nat.reduceAdd, Nat.reduceSub, Nat.reduceLeDiff, Nat.reduceMul, ev_build ty_zeroCells_92 ty_placesOf_92, ev_len_sl ty_descOf_39, ev_indexAddr ty_descOf_39, ev_buildSlice (len := 1) ty_descOf_39 ty_szOf_88 ty_zeroCells_88 ⟨rfl, by decide, by decide⟩, ev_append ty_appInfo_39, ev_appNew_sl ty_descOf_39, ev_build ty_zeroCells_32 ty_placesOf_32]
      erw [w]
      simp only [go_sem, Nat.reduceLT, reduceIte, reduceCtorEq, Nat.reduceEqDiff, apply_ite (Option.map (outOf _)), Nat.reduceBEq, Nat.reduceAdd, Nat.reduceSub, Nat.reduceLeDiff, Nat.reduceMul, ev_build ty_zeroCells_92 ty_placesOf_92, ev_len_sl ty_descOf_39, ev_indexAddr ty_descOf_39, ev_buildSlice (len := 1) ty_descOf_39 ty_szOf_88 ty_zeroCells_88 ⟨rfl, by decide, by decide⟩, ev_append ty_appInfo_39, ev_appNew_sl ty_descOf_39, ev_build ty_zeroCells_32 ty_placesOf_32, hr, hn, s4, s2, b9, b2, b6, b7, nm, e1, encL_len, TV.flat, simCv_nil]
    · have e1 : ((R.length : Int) == 1) = false := by rw [beq_eq_false_iff_ne]; omega
      by_cases L3 : R.length = 3
      · have e3 : ((R.length : Int) != 3) = false := by rw [L3]; rfl
        cases hs : Sl.sign [61] (R.drop 1) with
        | none =>
          have sg := sign_no (some e) R 1 false [61] hR hs
          simp only [rb, rl_some, z1] at sg
          rw [attrG_3n L3 hs]
          refine ⟨.mk 5 s [] 0 0 [], false, ?_, rfl⟩
          refine den_run rfl Tryd.func57 rfl Tryd.ntmps57 ⟨by simp, by simp [LK]⟩ ?_
          simp only [go_sem, Nat.reduceLT, reduceIte, reduceCtorEq, Nat.reduceEqDiff, apply_ite (Option.map (outOf _)), Nat.reduceBEq, Nat.reduceAdd, Nat.reduceSub, Nat.reduceLeDiff, Nat.reduceMul, ev_build ty_zeroCells_92 ty_placesOf_92, ev_len_sl ty_descOf_39, ev_indexAddr ty_descOf_39, ev_buildSlice (len := 1) ty_descOf_39 ty_szOf_88 ty_zeroCells_88 ⟨rfl, by decide, by decide⟩, ev_append ty_appInfo_39, ev_appNew_sl ty_descOf_39, ev_build ty_zeroCells_32 ty_placesOf_32]
          rw [exL_head]
          simp only [go_sem, Nat.reduceLT, reduceIte, reduceCtorEq, Nat.reduceEqDiff, apply_ite (Option.map (outOf _)), Nat.reduceBEq, Nat.reduceAdd, Nat.reduceSub, Nat.reduceLeDiff, Nat.reduceMul, ev_build ty_zeroCells_92 ty_placesOf_92, ev_len_sl ty_descOf_39, ev_indexAddr ty_descOf_39, ev_buildSlice (len := 1) ty_descOf_39 ty_szOf_88 ty_zeroCells_88 ⟨rfl, by decide, by decide⟩, ev_append ty_appInfo_39, ev_appNew_sl ty_descOf_39, ev_build ty_zeroCells_32 ty_placesOf_32]
          erw [w]
          simp only [go_sem, Nat.reduceLT, reduceIte, reduceCtorEq, Nat.reduceEqDiff, apply_ite (Option.map (outOf _)), Nat.reduceBEq, Nat.reduceAdd, Nat.reduceSub, Nat.reduceLeDiff, Nat.reduceMul, ev_build ty_zeroCells_92 ty_placesOf_92, ev_len_sl ty_descOf_39, ev_indexAddr ty_descOf_39, ev_buildSlice (len := 1) ty_descOf_39 ty_szOf_88 ty_zeroCells_88 ⟨rfl, by decide, by decide⟩, ev_append ty_appInfo_39, ev_appNew_sl ty_descOf_39, ev_build ty_zeroCells_32 ty_placesOf_32, hr, hn, s4, s2, b9, b2, b6, b7, nm, e1, e3, sg, encL_len, TV.flat, simCv_nil]
        | some r' =>
          have sg := (sign_yes (some e) R 1 false [61] hR r' hs).1
          simp only [rb, rl_some, z1, Nat.reduceAdd, z2] at sg
          obtain ⟨k, u, c, h2⟩ := len3 L3
          have hget := val_at R 2 k u c h2
          have n2 : ((2 : Nat) : Int).toNat = 2 := rfl
          simp only [n2] at hget
          rw [attrG_3y L3 hnm hs h2]
          cases ek : (k == 1)
          · rw [if_neg (fun h => by rw [h.1] at ek; cases ek)]
            refine ⟨.mk 6 s u.text 0 0 [], false, ?_, rfl⟩
            refine den_run rfl Tryd.func57 rfl Tryd.ntmps57 ⟨by simp, by simp [LK]⟩ ?_
            simp only [go_sem, Nat.reduceLT, reduceIte, reduceCtorEq, Nat.reduceEqDiff, apply_ite (Option.map (outOf _)), Nat.reduceBEq, Nat.reduceAdd, Nat.reduceSub, Nat.reduceLeDiff, Nat.reduceMul, ev_build ty_zeroCells_92 ty_placesOf_92, ev_len_sl ty_descOf_39, ev_indexAddr ty_descOf_39, ev_buildSlice (len := 1) ty_descOf_39 ty_szOf_88 ty_zeroCells_88 ⟨rfl, by decide, by decide⟩, ev_append ty_appInfo_39, ev_appNew_sl ty_descOf_39, ev_build ty_zeroCells_32 ty_placesOf_32]
            rw [exL_head]
            simp only [go_sem, Nat.reduceLT, reduceIte, reduceCtorEq, Nat.reduceEqDiff, apply_ite (Option.map (outOf _)), Nat.reduceBEq, Nat.reduceAdd, Nat.reduceSub, Nat.reduceLeDiff, Nat.reduceMul, ev_build ty_zeroCells_92 ty_placesOf_92, ev_len_sl ty_descOf_39, ev_indexAddr ty_descOf_39, ev_buildSlice (len := 1) ty_descOf_39 ty_szOf_88 ty_zeroCells_88 ⟨rfl, by decide, by decide⟩, ev_append ty_appInfo_39, ev_appNew_sl ty_descOf_39, ev_build ty_zeroCells_32 ty_placesOf_32]
            erw [w]
            simp only [go_sem, Nat.reduceLT, reduceIte, reduceCtorEq, Nat.reduceEqDiff, apply_ite (Option.map (outOf _)), Nat.reduceBEq, Nat.reduceAdd, Nat.reduceSub, Nat.reduceLeDiff, Nat.reduceMul, ev_build ty_zeroCells_92 ty_placesOf_92, ev_len_sl ty_descOf_39, ev_indexAddr ty_descOf_39, ev_buildSlice (len := 1) ty_descOf_39 ty_szOf_88 ty_zeroCells_88 ⟨rfl, by decide, by decide⟩, ev_append ty_appInfo_39, ev_appNew_sl ty_descOf_39, ev_build ty_zeroCells_32 ty_placesOf_32, hr, hn, s4, s2, b9, b2, b6, b7, nm, e1, e3, sg, hget, t2, p2, ek, encL_len, TV.flat, simCv_nil]
          · have hk : k = 1 := by simpa using ek
            cases eu : (u.kind == 1)
            · cases ev : (u.kind == 6)
              · rw [if_neg (fun h => by
                  rcases h.2 with h | h
                  · rw [h] at eu; cases eu
                  · rw [h] at ev; cases ev)]
                refine ⟨.mk 6 s u.text 0 0 [], false, ?_, rfl⟩
                refine den_run rfl Tryd.func57 rfl Tryd.ntmps57 ⟨by simp, by simp [LK]⟩ ?_
                simp only [go_sem, Nat.reduceLT, reduceIte, reduceCtorEq, Nat.reduceEqDiff, apply_ite (Option.map (outOf _)), Nat.reduceBEq, Nat.reduceAdd, Nat.reduceSub, Nat.reduceLeDiff, Nat.reduceMul, ev_build ty_zeroCells_92 ty_placesOf_92, ev_len_sl ty_descOf_39, ev_indexAddr ty_descOf_39, ev_buildSlice (len := 1) ty_descOf_39 ty_szOf_88 ty_zeroCells_88 ⟨rfl, by decide, by decide⟩, ev_append ty_appInfo_39, ev_appNew_sl ty_descOf_39, ev_build ty_zeroCells_32 ty_placesOf_32]
                rw [exL_head]
                simp only [go_sem, Nat.reduceLT, reduceIte, reduceCtorEq, Nat.reduceEqDiff, apply_ite (Option.map (outOf _)), Nat.reduceBEq, Nat.reduceAdd, Nat.reduceSub, Nat.reduceLeDiff, Nat.reduceMul, ev_build ty_zeroCells_92 ty_placesOf_92, ev_len_sl ty_descOf_39, ev_indexAddr ty_descOf_39, ev_buildSlice (len := 1) ty_descOf_39 ty_szOf_88 ty_zeroCells_88 ⟨rfl, by decide, by decide⟩, ev_append ty_appInfo_39, ev_appNew_sl ty_descOf_39, ev_build ty_zeroCells_32 ty_placesOf_32]
                erw [w]
                simp only [go_sem, Nat.reduceLT, reduceIte, reduceCtorEq, Nat.reduceEqDiff, apply_ite (Option.map (outOf _)), Nat.reduceBEq, Nat.reduceAdd, Nat.reduceSub, Nat.reduceLeDiff, Nat.reduceMul, ev_build ty_zeroCells_92 ty_placesOf_92, ev_len_sl ty_descOf_39, ev_indexAddr ty_descOf_39, ev_buildSlice (len := 1) ty_descOf_39 ty_szOf_88 ty_zeroCells_88 ⟨rfl, by decide, by decide⟩, ev_append ty_appInfo_39, ev_appNew_sl ty_descOf_39, ev_build ty_zeroCells_32 ty_placesOf_32, hr, hn, s4, s2, b9, b2, b6, b7, nm, e1, e3, sg, hget, t2, p2, ek, eu, ev, encL_len, TV.flat, simCv_nil]
              · rw [if_pos ⟨hk, .inr (by simpa using ev)⟩]
                refine ⟨.mk 6 s u.text 0 0 [], true, ?_, rfl, rfl⟩
                refine den_run rfl Tryd.func57 rfl Tryd.ntmps57 ⟨by simp, by simp [LK]⟩ ?_
                simp only [go_sem, Nat.reduceLT, reduceIte, reduceCtorEq, Nat.reduceEqDiff, apply_ite (Option.map (outOf _)), Nat.reduceBEq, Nat.reduceAdd, Nat.reduceSub, Nat.reduceLeDiff, Nat.reduceMul, ev_build ty_zeroCells_92 ty_placesOf_92, ev_len_sl ty_descOf_39, ev_indexAddr ty_descOf_39, ev_buildSlice (len := 1) ty_descOf_39 ty_szOf_88 ty_zeroCells_88 ⟨rfl, by decide, by decide⟩, ev_append ty_appInfo_39, ev_appNew_sl ty_descOf_39, ev_build ty_zeroCells_32 ty_placesOf_32]
                rw [exL_head]
                simp only [go_sem, Nat.reduceLT, reduceIte, reduceCtorEq, Nat.reduceEqDiff, apply_ite (Option.map (outOf _)), Nat.reduceBEq, Nat.reduceAdd, Nat.reduceSub, Nat.reduceLeDiff, Nat.reduceMul, ev_build ty_zeroCells_92 ty_placesOf_92, ev_len_sl ty_descOf_39, ev_indexAddr ty_descOf_39, ev_buildSlice (len := 1) ty_descOf_39 ty_szOf_88 ty_zeroCells_88 ⟨rfl, by decide, by decide⟩, ev_append ty_appInfo_39, ev_appNew_sl ty_descOf_39, ev_build ty_zeroCells_32 ty_placesOf_32]
                erw [w]
                simp only [go_sem, Nat.reduceLT, reduceIte, reduceCtorEq, Nat.reduceEqDiff, apply_ite (Option.map (outOf _)), Nat.reduceBEq, Nat.reduceAdd, Nat.reduceSub, Nat.reduceLeDiff, Nat.reduceMul, ev_build ty_zeroCells_92 ty_placesOf_92, ev_len_sl ty_descOf_39, ev_indexAddr ty_descOf_39, ev_buildSlice (len := 1) ty_descOf_39 ty_szOf_88 ty_zeroCells_88 ⟨rfl, by decide, by decide⟩, ev_append ty_appInfo_39, ev_appNew_sl ty_descOf_39, ev_build ty_zeroCells_32 ty_placesOf_32, hr, hn, s4, s2, b9, b2, b6, b7, nm, e1, e3, sg, hget, t2, p2, ek, eu, ev, encL_len, TV.flat, simCv_nil]
            · rw [if_pos ⟨hk, .inl (by simpa using eu)⟩]
              refine ⟨.mk 6 s u.text 0 0 [], true, ?_, rfl, rfl⟩
              refine den_run rfl Tryd.func57 rfl Tryd.ntmps57 ⟨by simp, by simp [LK]⟩ ?_
              simp only [go_sem, Nat.reduceLT, reduceIte, reduceCtorEq, Nat.reduceEqDiff, apply_ite (Option.map (outOf _)), Nat.reduceBEq, Nat.reduceAdd, Nat.reduceSub, Nat.reduceLeDiff, Nat.reduceMul, ev_build ty_zeroCells_92 ty_placesOf_92, ev_len_sl ty_descOf_39, ev_indexAddr ty_descOf_39, ev_buildSlice (len := 1) ty_descOf_39 ty_szOf_88 ty_zeroCells_88 ⟨rfl, by decide, by decide⟩, ev_append ty_appInfo_39, ev_appNew_sl ty_descOf_39, ev_build ty_zeroCells_32 ty_placesOf_32]
              rw [exL_head]
              simp only [go_sem, Nat.reduceLT, reduceIte, reduceCtorEq, Nat.reduceEqDiff, apply_ite (Option.map (outOf _)), Nat.reduceBEq, Nat.reduceAdd, Nat.reduceSub, Nat.reduceLeDiff, Nat.reduceMul, ev_build ty_zeroCells_92 ty_placesOf_92, ev_len_sl ty_descOf_39, ev_indexAddr ty_descOf_39, ev_buildSlice (len := 1) ty_descOf_39 ty_szOf_88 ty_zeroCells_88 ⟨rfl, by decide, by decide⟩, ev_append ty_appInfo_39, ev_appNew_sl ty_descOf_39, ev_build ty_zeroCells_32 ty_placesOf_32]
              erw [w]
              simp only [go_sem, Nat.reduceLT, reduceIte, reduceCtorEq, Nat.reduceEqDiff, apply_ite (Option.map (outOf _)), Nat.reduceBEq, Nat.reduceAdd, Nat.reduceSub, Nat.reduceLeDiff, Nat.reduceMul, ev_build ty_zeroCells_92 ty_placesOf_92, ev_len_sl ty_descOf_39, ev_indexAddr ty_descOf_39, ev_buildSlice (len := 1) ty_descOf_39 ty_szOf_88 ty_zeroCells_88 ⟨rfl, by decide, by decide⟩, ev_append ty_appInfo_39, ev_appNew_sl ty_descOf_39, ev_build ty_zeroCells_32 ty_placesOf_32, hr, hn, s4, s2, b9, b2, b6, b7, nm, e1, e3, sg, hget, t2, p2, ek, eu, encL_len, TV.flat, simCv_nil]
      · have e3 : ((R.length : Int) != 3) = true := by rw [bne_iff_ne]; omega
        rw [attrG_len L1 L3]
        refine ⟨.mk 5 s [] 0 0 [], false, ?_, rfl⟩
        refine den_run rfl Tryd.func57 rfl Tryd.ntmps57 ⟨by simp, by simp [LK]⟩ ?_
        simp only [go_sem, Nat.reduceLT, reduceIte, reduceCtorEq, Nat.reduceEqDiff, apply_ite (Option.map (outOf _)), Nat.reduceBEq, Nat.reduceAdd, Nat.reduceSub, Nat.reduceLeDiff, Nat.reduceMul, ev_build ty_zeroCells_92 ty_placesOf_92, ev_len_sl ty_descOf_39, ev_indexAddr ty_descOf_39, ev_buildSlice (len := 1) ty_descOf_39 ty_szOf_88 ty_zeroCells_88 ⟨rfl, by decide, by decide⟩, ev_append ty_appInfo_39, ev_appNew_sl ty_descOf_39, ev_build ty_zeroCells_32 ty_placesOf_32]
        rw [exL_head]
        simp only [go_sem, Nat.reduceLT, reduceIte, reduceCtorEq, Nat.reduceEqDiff, apply_ite (Option.map (outOf _)), Nat.reduceBEq, Nat.reduceAdd, Nat.reduceSub, Nat.reduceLeDiff, Nat.reduceMul, ev_build ty_zeroCells_92 ty_placesOf_92, ev_len_sl ty_descOf_39, ev_indexAddr ty_descOf_39, ev_buildSlice (len := 1) ty_descOf_39 ty_szOf_88 ty_zeroCells_88 ⟨rfl, by decide, by decide⟩, ev_append ty_appInfo_39, ev_appNew_sl ty_descOf_39, ev_build ty_zeroCells_32 ty_placesOf_32]
        erw [w]
        simp only [go_sem, Nat.reduceLT, reduceIte, reduceCtorEq, Nat.reduceEqDiff, apply_ite (Option.map (outOf _)), Nat.reduceBEq, Nat.reduceAdd, Nat.reduceSub, Nat.reduceLeDiff, Nat.reduceMul, ev_build ty_zeroCells_92 ty_placesOf_92, ev_len_sl ty_descOf_39, ev_indexAddr ty_descOf_39, ev_buildSlice (len := 1) ty_descOf_39 ty_szOf_88 ty_zeroCells_88 ⟨rfl, by decide, by decide⟩, ev_append ty_appInfo_39, ev_appNew_sl ty_descOf_39, ev_build ty_zeroCells_32 ty_placesOf_32, hr, hn, s4, s2, b9, b2, b6, b7, nm, e1, e3, encL_len, TV.flat, simCv_nil]

/-- of a value that there is not -/
theorem attr_nils : ∃ x : Sim, den K 57 [.c .nils] [] = some (.ret (.tup [.agg (simCv x), .c (.pv (.bool false))]) []) := by
  have hr : Tryd.f57.results = #[.cell 2 32, .tmp 3] := rfl
  have nm := name_no (some 0) [] 0 false (by decide) rfl
  have z0 : ((0 : Nat) : Int) = 0 := rfl
  have en : encL [] = [] := rfl
  have hz : decide ((0 : Int) < 0) = false := rfl
  have e01 : ((0 : Int) == 1) = false := rfl
  have e03 : ((0 : Int) != 3) = true := rfl
  simp only [rb, rl_some, z0, en] at nm
  refine ⟨.mk 5 [] [] 0 0 [], ?_⟩
  refine den_run rfl Tryd.func57 rfl Tryd.ntmps57 ⟨by simp, by simp [LK]⟩ ?_
  simp only [go_sem, Nat.reduceLT, reduceIte, reduceCtorEq, Nat.reduceEqDiff, apply_ite (Option.map (outOf _)), Nat.reduceBEq, Nat.reduceAdd, Nat.reduceSub, Nat.reduceLeDiff, Nat.reduceMul, ev_build ty_zeroCells_92 ty_placesOf_92, ev_len_sl ty_descOf_39, ev_indexAddr ty_descOf_39, ev_buildSlice (len := 1) ty_descOf_39 ty_szOf_88 ty_zeroCells_88 ⟨rfl, by decide, by decide⟩, ev_append ty_appInfo_39, ev_appNew_sl ty_descOf_39, ev_build ty_zeroCells_32 ty_placesOf_32]
  rw [exL_head]
  simp only [go_sem, Nat.reduceLT, reduceIte, reduceCtorEq, Nat.reduceEqDiff, apply_ite (Option.map (outOf _)), Nat.reduceBEq, Nat.reduceAdd, Nat.reduceSub, Nat.reduceLeDiff, Nat.reduceMul, ev_build ty_zeroCells_92 ty_placesOf_92, ev_len_sl ty_descOf_39, ev_indexAddr ty_descOf_39, ev_buildSlice (len := 1) ty_descOf_39 ty_szOf_88 ty_zeroCells_88 ⟨rfl, by decide, by decide⟩, ev_append ty_appInfo_39, ev_appNew_sl ty_descOf_39, ev_build ty_zeroCells_32 ty_placesOf_32]
  rw [exL_loop]
  simp only [go_sem, Nat.reduceLT, reduceIte, reduceCtorEq, Nat.reduceEqDiff, apply_ite (Option.map (outOf _)), Nat.reduceBEq, Nat.reduceAdd, Nat.reduceSub, Nat.reduceLeDiff, Nat.reduceMul, ev_build ty_zeroCells_92 ty_placesOf_92, ev_len_sl ty_descOf_39, ev_indexAddr ty_descOf_39, ev_buildSlice (len := 1) ty_descOf_39 ty_szOf_88 ty_zeroCells_88 ⟨rfl, by decide, by decide⟩, ev_append ty_appInfo_39, ev_appNew_sl ty_descOf_39, ev_build ty_zeroCells_32 ty_placesOf_32, hr, nm, hz, z0, e01, e03, TV.flat, simCv_nil]
end Go.Abs
