/-
  WHAT THE FUNCTIONS COMPUTE, layer 2: the document's reader of values.
  WHAT THE FUNCTIONS COMPUTE, layer 2: parsing; whether values may be.
-/
import Derived.Test.YtmcjabhnmealgaaDoorQR
import Derived.Test.YtmcjabhnmealgaaDoorQJ
import Derived.Test.YtmcjabhnmealgaaDoorQSpecR4
set_option linter.unusedSimpArgs false
set_option linter.unusedVariables false
namespace Go.Abs
open Go Go.Proofs
set_option maxRecDepth 10000
attribute [local go_sem] exL_seq exL_region exL_cond exL_block exL_scope exL_ret exL_skip exL_exit runRegion runOps stepOp guardA absOp takeOver opd avOf cvOf St.degAt St.put okPV okVal okAV absBin intBin strBin boolBin setBoxes if_true Bool.false_eq_true if_false Option.map_some Option.map_none Option.bind_some Option.bind_none thenO outOf upd List.toList_toArray isOwn steal appArgs inApps AV.deg CV.deg AV.gv AV.isIter absNext some_bne List.length_nil List.length_cons List.filterMap_cons List.filterMap_nil beq_iff_eq List.getElem?_cons_zero List.getElem?_cons_succ Option.getD_some K_hook hookB Bool.false_and Bool.and_false Bool.and_self K_P K_own absCall doCall getBoxes lend back idx dedup AV.ren CV.ren TV.ren AV.ptrs CV.ptrs zipBox AV.flat CV.flat absLoad absStore cellsOfAV setAt newBox markB bldTypes absFieldAddr absField absExtract absAssert noAssert absMkIface ifcOf CV.pv? content pushHead ownT fillCells reps pvs chunks enterSt leave resOf resVars resVar outBoxes lentOnly TV.deg TV.av LK CV.plain CV.noBld nilBin absUn bound List.map_cons List.map_nil List.all_cons List.all_nil List.any_cons List.any_nil List.contains_cons List.contains_nil List.elem_cons List.elem_nil List.cons_append List.nil_append List.append_nil List.flatMap_cons List.flatMap_nil List.zip_cons_cons List.zip_nil_left List.zip_nil_right List.take_succ_cons List.take_zero List.take_nil List.drop_succ_cons List.drop_zero List.drop_nil List.isEmpty_nil List.isEmpty_cons Bool.and_true Bool.true_and Bool.or_true Bool.true_or Bool.or_false Bool.false_or Bool.not_true Bool.not_false Nat.add_zero Nat.zero_add Option.isNone_none Option.isNone_some Option.getD_none true_and and_true not_true_eq_false not_false_eq_true decide_true decide_false Nat.le_refl and_self Bool.not_eq_true Nat.sub_self or_true true_or Option.some.injEq List.length_map List.nil_eq and_false false_and AV.live CV.live CV.liveIn K_keep firstReg Option.orElse_some Option.orElse_none head keepSlots keepBoxes Int.lt_irrefl List.length_append ite_self memOK logOps opKey lentBoxes Key.clash Key.sees Key.writes Nat.lt_irrefl gt_iff_lt nobox_at bot_at false_or or_false beq_self_eq_true Bool.true_beq Bool.false_beq

abbrev tokCv (t : Tok) : List CV := [.pv (.int .i64 t.kind), .pv (.str t.text), .pv (.int .i64 t.n)]

theorem last_den (t : Tok) (kind : Int) : den K 44 [.agg (tokCv t), I kind] [] = some (.ret (B (decide (t = Ne.closeT kind))) []) := by
  have hv : decide (t = Ne.closeT kind) = ((t.kind == 7) && ((t.text == [Ne.closeC kind]) && ((t.n == 0) && true))) := (tok_beq t (Ne.closeT kind)).symm
  rw [hv]
  refine den_run rfl Tryd.func44 rfl Tryd.ntmps44 ⟨by simp, by simp [LK]⟩ ?_
  have hr : Tryd.f44.results = #[.tmp 4] := rfl
  cases b1 : (t.kind == 7)
  · have e1 : (t.kind != 7) = true := by rw [bne, b1]; rfl
    simp only [go_sem, Nat.reduceLT, reduceIte, reduceCtorEq, Nat.reduceEqDiff, apply_ite (Option.map (outOf _)), Nat.reduceBEq, Nat.reduceAdd, Nat.reduceSub, Nat.reduceLeDiff, Nat.reduceMul, ty_fieldOff_83_0, ty_szOf_3, ty_shapeT_3, ty_fieldOff_83_2, ty_fieldOff_83_1, ty_szOf_9, ty_shapeT_9, hr, e1]
  · have e1 : (t.kind != 7) = false := by rw [bne, b1]; rfl
    cases b2 : (t.n == 0)
    · have e2 : (t.n != 0) = true := by rw [bne, b2]; rfl
      simp only [go_sem, Nat.reduceLT, reduceIte, reduceCtorEq, Nat.reduceEqDiff, apply_ite (Option.map (outOf _)), Nat.reduceBEq, Nat.reduceAdd, Nat.reduceSub, Nat.reduceLeDiff, Nat.reduceMul, ty_fieldOff_83_0, ty_szOf_3, ty_shapeT_3, ty_fieldOff_83_2, ty_fieldOff_83_1, ty_szOf_9, ty_shapeT_9, hr, e1, e2]
    · have e2 : (t.n != 0) = false := by rw [bne, b2]; rfl
      by_cases h3 : kind = 3
      · subst h3
        have c3 : Ne.closeC 3 = 93 := rfl
        simp only [go_sem, Nat.reduceLT, reduceIte, reduceCtorEq, Nat.reduceEqDiff, apply_ite (Option.map (outOf _)), Nat.reduceBEq, Nat.reduceAdd, Nat.reduceSub, Nat.reduceLeDiff, Nat.reduceMul, ty_fieldOff_83_0, ty_szOf_3, ty_shapeT_3, ty_fieldOff_83_2, ty_fieldOff_83_1, ty_szOf_9, ty_shapeT_9, hr, e1, e2, c3]
      · have e3 : (kind == 3) = false := by rw [beq_eq_false_iff_ne]; exact h3
        by_cases h4 : kind = 4
        · subst h4
          have c4 : Ne.closeC 4 = 125 := rfl
          have e43 : ((4 : Int) == 3) = false := by decide
          have n43 : ((4 : Int) = 3) = False := by decide
          simp only [go_sem, Nat.reduceLT, reduceIte, reduceCtorEq, Nat.reduceEqDiff, apply_ite (Option.map (outOf _)), Nat.reduceBEq, Nat.reduceAdd, Nat.reduceSub, Nat.reduceLeDiff, Nat.reduceMul, ty_fieldOff_83_0, ty_szOf_3, ty_shapeT_3, ty_fieldOff_83_2, ty_fieldOff_83_1, ty_szOf_9, ty_shapeT_9, hr, e1, e2, c4, e43, n43]
        · have e4 : (kind == 4) = false := by rw [beq_eq_false_iff_ne]; exact h4
          have c : Ne.closeC kind = 41 := by simp [Ne.closeC, h3, h4]
          simp only [go_sem, Nat.reduceLT, reduceIte, reduceCtorEq, Nat.reduceEqDiff, apply_ite (Option.map (outOf _)), Nat.reduceBEq, Nat.reduceAdd, Nat.reduceSub, Nat.reduceLeDiff, Nat.reduceMul, ty_fieldOff_83_0, ty_szOf_3, ty_shapeT_3, ty_fieldOff_83_2, ty_fieldOff_83_1, ty_szOf_9, ty_shapeT_9, hr, e1, e2, e3, e4, c]

theorem open_den (t : Tok) : den K 45 [.agg (tokCv t)] [] = some (.ret (I (Ne.opens t)) []) := by
  obtain ⟨k, s, n⟩ := t
  have hv : Ne.opens ⟨k, s, n⟩ = opensL k s n := rfl
  rw [hv]
  unfold opensL
  refine den_run rfl Tryd.func45 rfl Tryd.ntmps45 ⟨by simp, by simp [LK]⟩ ?_
  have hr : Tryd.f45.results = #[.tmp 2] := rfl
  by_cases h2 : k = 2
  · subst h2
    simp only [go_sem, Nat.reduceLT, reduceIte, reduceCtorEq, Nat.reduceEqDiff, apply_ite (Option.map (outOf _)), Nat.reduceBEq, Nat.reduceAdd, Nat.reduceSub, Nat.reduceLeDiff, Nat.reduceMul, ty_fieldOff_83_0, ty_szOf_3, ty_shapeT_3, ty_fieldOff_83_2, ty_fieldOff_83_1, ty_szOf_9, ty_shapeT_9, hr]
  · rw [if_neg h2]
    have e2 : (k == 2) = false := by rw [beq_eq_false_iff_ne]; exact h2
    by_cases h7 : k = 7
    · subst h7
      have e72 : ((7 : Int) == 2) = false := by decide
      have n72 : ((7 : Int) = 2) = False := by decide
      have e77 : ((7 : Int) != 7) = false := by decide
      by_cases hn : n = 0
      · subst hn
        have e0 : ((0 : Int) != 0) = false := by decide
        rw [if_pos ⟨rfl, rfl⟩]
        by_cases a1 : s = [40]
        · subst a1
          simp only [go_sem, Nat.reduceLT, reduceIte, reduceCtorEq, Nat.reduceEqDiff, apply_ite (Option.map (outOf _)), Nat.reduceBEq, Nat.reduceAdd, Nat.reduceSub, Nat.reduceLeDiff, Nat.reduceMul, ty_fieldOff_83_0, ty_szOf_3, ty_shapeT_3, ty_fieldOff_83_2, ty_fieldOff_83_1, ty_szOf_9, ty_shapeT_9, hr, e72, n72, e77, e0]
        · have b1 : (s == [40]) = false := by rw [beq_eq_false_iff_ne]; exact a1
          rw [if_neg a1]
          by_cases a2 : s = [91]
          · subst a2
            simp only [go_sem, Nat.reduceLT, reduceIte, reduceCtorEq, Nat.reduceEqDiff, apply_ite (Option.map (outOf _)), Nat.reduceBEq, Nat.reduceAdd, Nat.reduceSub, Nat.reduceLeDiff, Nat.reduceMul, ty_fieldOff_83_0, ty_szOf_3, ty_shapeT_3, ty_fieldOff_83_2, ty_fieldOff_83_1, ty_szOf_9, ty_shapeT_9, hr, e72, n72, e77, e0, b1]
          · have b2 : (s == [91]) = false := by rw [beq_eq_false_iff_ne]; exact a2
            rw [if_neg a2]
            by_cases a3 : s = [123]
            · subst a3
              simp only [go_sem, Nat.reduceLT, reduceIte, reduceCtorEq, Nat.reduceEqDiff, apply_ite (Option.map (outOf _)), Nat.reduceBEq, Nat.reduceAdd, Nat.reduceSub, Nat.reduceLeDiff, Nat.reduceMul, ty_fieldOff_83_0, ty_szOf_3, ty_shapeT_3, ty_fieldOff_83_2, ty_fieldOff_83_1, ty_szOf_9, ty_shapeT_9, hr, e72, n72, e77, e0, b1, b2]
            · have b3 : (s == [123]) = false := by rw [beq_eq_false_iff_ne]; exact a3
              rw [if_neg a3]
              simp only [go_sem, Nat.reduceLT, reduceIte, reduceCtorEq, Nat.reduceEqDiff, apply_ite (Option.map (outOf _)), Nat.reduceBEq, Nat.reduceAdd, Nat.reduceSub, Nat.reduceLeDiff, Nat.reduceMul, ty_fieldOff_83_0, ty_szOf_3, ty_shapeT_3, ty_fieldOff_83_2, ty_fieldOff_83_1, ty_szOf_9, ty_shapeT_9, hr, e72, n72, e77, e0, b1, b2, b3]
      · have e0 : (n != 0) = true := by rw [bne_iff_ne]; exact hn
        rw [if_neg (fun h => hn h.2)]
        simp only [go_sem, Nat.reduceLT, reduceIte, reduceCtorEq, Nat.reduceEqDiff, apply_ite (Option.map (outOf _)), Nat.reduceBEq, Nat.reduceAdd, Nat.reduceSub, Nat.reduceLeDiff, Nat.reduceMul, ty_fieldOff_83_0, ty_szOf_3, ty_shapeT_3, ty_fieldOff_83_2, ty_fieldOff_83_1, ty_szOf_9, ty_shapeT_9, hr, e72, n72, e77, e0]
    · have e7 : (k != 7) = true := by rw [bne_iff_ne]; exact h7
      rw [if_neg (fun h => h7 h.1)]
      simp only [go_sem, Nat.reduceLT, reduceIte, reduceCtorEq, Nat.reduceEqDiff, apply_ite (Option.map (outOf _)), Nat.reduceBEq, Nat.reduceAdd, Nat.reduceSub, Nat.reduceLeDiff, Nat.reduceMul, ty_fieldOff_83_0, ty_szOf_3, ty_shapeT_3, ty_fieldOff_83_2, ty_fieldOff_83_1, ty_szOf_9, ty_shapeT_9, hr, e2, e7]

/-! ### until -/

theorem opens_posT {t : Tok} (h : Ne.opens t ≠ 0) : 0 < Ne.opens t := by
  rcases Ne.opens_vals t with h1 | h1 | h1 | h1 | h1 <;> omega

abbrev u2H (l : List Tok) (kind left : Int) (i : Nat) (e : Nat) (acc : List Val) : St :=
  { sl := upd (upd (upd (upd (upd bot 9 (.c (.loc 9 0))) 8 (.c (.loc 8 0))) 3 (I left)) 2 (I kind)) 0 (L (l.map Tok.enc)), bx := upd (upd nobox 9 (some [.own e (encL acc), .pv (.int .i64 i), .pv (.bool false)])) 8 (some [.own 0 [], .pv (.int .i64 0), .pv (.bool false)]), nt := 76 }
noncomputable def ulp2 : Code := .loop (loopAt Tryd.f30 2)

/-- a frame that returns so -/
def Ret2 (x : List (List PV)) (j : Int) (bad : Bool) (o : Out) (S : St) : Prop := o = .ret ∧ S.sl 8 = .c (.loc 8 0) ∧ S.bx 8 = some [.pv (.sl x), .pv (.int .i64 j), .pv (.bool bad)]

theorem u2_nil (l : List Tok) (kind left : Int) (e : Nat) (acc : List Val) :
    Ends (exL K 30 ulp2 (u2H l kind left l.length e acc)) fun o S => o = .exit 0 ∧ S.nt = 76 ∧ S.sl 8 = .c (.loc 8 0) ∧ S.sl 9 = .c (.loc 9 0) ∧ S.bx 8 = some [.own 0 [], .pv (.int .i64 0), .pv (.bool false)] ∧ S.bx 9 = some [.own e (encL acc), .pv (.int .i64 l.length), .pv (.bool false)] := by
  unfold ulp2
  conv in loopAt _ _ => whnf
  rw [exL_loop]
  simp only [go_sem, Nat.reduceLT, reduceIte, reduceCtorEq, Nat.reduceEqDiff, apply_ite (Option.map (outOf _)), Nat.reduceBEq, Nat.reduceAdd, Nat.reduceSub, Nat.reduceLeDiff, Nat.reduceMul, ty_shapeT_80, ty_zeroCells_80, ev_build ty_zeroCells_80 ty_placesOf_80, ty_szOf_80, ty_fieldOff_80_1, ty_szOf_3, ty_shapeT_3, ev_len_sl ty_descOf_60, ev_indexAddr ty_descOf_60, ty_szOf_83, ty_shapeT_83, ty_zeroCells_83, good_44, good_45, ev_build ty_zeroCells_88 ty_placesOf_88, ty_zeroCells_88, ty_szOf_88, ty_fieldOff_80_2, ty_szOf_4, good_30, ty_shapeT_4, ty_fieldOff_80_0, ty_szOf_39, ty_shapeT_39, ty_fieldOff_88_1, ty_shapeT_88, ev_buildSlice (len := 1) ty_descOf_39 ty_szOf_88 ty_zeroCells_88 ⟨rfl, by decide, by decide⟩, ev_append ty_appInfo_39, ev_appNew_sl ty_descOf_39, keep_30_2, ends_some]

theorem tok_at (l : List Tok) (i : Nat) (t : Tok) (h : l[i]? = some t) : (l.map Tok.enc)[(i : Int).toNat]? = some [.int .i64 t.kind, .str t.text, .int .i64 t.n] := by
  simp [h, Tok.enc]

theorem u2_last (l : List Tok) (kind left : Int) (i : Nat) (e : Nat) (acc : List Val) (t : Tok) (hi : l[i]? = some t) (hl : l.length ≤ 100000000) (h : Ne.isLast kind t = true) :
    Ends (exL K 30 ulp2 (u2H l kind left i e acc)) (Ret2 (encL acc) ((i + 1 : Nat) : Int) false) := by
  have hil : i < l.length := (List.getElem?_eq_some_iff.1 hi).1
  have hlt : decide ((i : Int) < (l.length : Int)) = true := decide_eq_true (by omega)
  have hget := tok_at l i t hi
  have hw : IntKind.i64.wrap ((i : Int) + 1) = ((i + 1 : Nat) : Int) := wrap_nat i (by omega)
  unfold Ne.isLast at h
  rw [Bool.and_eq_true] at h
  obtain ⟨e1, e2⟩ := h
  have hld := last_den t kind
  rw [e2] at hld
  unfold ulp2 Ret2
  conv in loopAt _ _ => whnf
  rw [exL_loop]
  simp only [go_sem, Nat.reduceLT, reduceIte, reduceCtorEq, Nat.reduceEqDiff, apply_ite (Option.map (outOf _)), Nat.reduceBEq, Nat.reduceAdd, Nat.reduceSub, Nat.reduceLeDiff, Nat.reduceMul, ty_shapeT_80, ty_zeroCells_80, ev_build ty_zeroCells_80 ty_placesOf_80, ty_szOf_80, ty_fieldOff_80_1, ty_szOf_3, ty_shapeT_3, ev_len_sl ty_descOf_60, ev_indexAddr ty_descOf_60, ty_szOf_83, ty_shapeT_83, ty_zeroCells_83, good_44, good_45, ev_build ty_zeroCells_88 ty_placesOf_88, ty_zeroCells_88, ty_szOf_88, ty_fieldOff_80_2, ty_szOf_4, good_30, ty_shapeT_4, ty_fieldOff_80_0, ty_szOf_39, ty_shapeT_39, ty_fieldOff_88_1, ty_shapeT_88, ev_buildSlice (len := 1) ty_descOf_39 ty_szOf_88 ty_zeroCells_88 ⟨rfl, by decide, by decide⟩, ev_append ty_appInfo_39, ev_appNew_sl ty_descOf_39, keep_30_2, hlt, hget, Int.natCast_nonneg, hw, e1, hld, ends_some]

theorem snoc_valK (acc : List Val) (k : Int) (t : Tok) (vs : List Val) : encL acc ++ [[.int .i64 k, .int .i64 t.kind, .str t.text, .int .i64 t.n, .sl (encL vs)]] = encL (acc ++ [.mk k t vs]) := by
  rw [encL_app]; rfl
theorem snoc_valN (acc : List Val) (k : Int) (t : Tok) : encL acc ++ [[.int .i64 k, .int .i64 t.kind, .str t.text, .int .i64 t.n, .sl []]] = encL (acc ++ [.mk k t []]) := by
  rw [encL_app]; rfl
theorem snoc_val0 (acc : List Val) (k : Int) (vs : List Val) : encL acc ++ [[.int .i64 k, .int .i64 0, .str [], .int .i64 0, .sl (encL vs)]] = encL (acc ++ [.mk k Ne.tok0 vs]) := by
  rw [encL_app]; rfl

set_option maxHeartbeats 4000000 in
theorem u2_tok (l : List Tok) (kind left : Int) (i : Nat) (e : Nat) (acc : List Val) (t : Tok) (hi : l[i]? = some t) (hl : l.length ≤ 100000000) (h : Ne.isLast kind t = false) (he : e = 88 ∨ acc = []) (hacc : acc.length < 100000000) (h0 : Ne.opens t = 0) :
    exL K 30 ulp2 (u2H l kind left i e acc) = exL K 30 ulp2 (u2H l kind left (i + 1) 88 (acc ++ [.mk 1 t []])) := by
  have hil : i < l.length := (List.getElem?_eq_some_iff.1 hi).1
  have hlt : decide ((i : Int) < (l.length : Int)) = true := decide_eq_true (by omega)
  have hget := tok_at l i t hi
  have hw : IntKind.i64.wrap ((i : Int) + 1) = ((i + 1 : Nat) : Int) := wrap_nat i (by omega)
  have hld := last_den t kind
  have hop := open_den t
  rw [h0] at hop
  have hown : e = 88 ∨ (encL acc).isEmpty = true := by
    rcases he with rfl | rfl
    · exact .inl rfl
    · exact .inr rfl
  have hlim : acc.length + 1 < appLim := by unfold appLim; omega
  have hlv := lens_valsK acc
  unfold ulp2
  conv in loopAt _ _ => whnf
  conv in loopAt _ _ => whnf
  conv in exL _ _ _ (u2H l kind left i e acc) => rw [exL_loop]
  unfold Ne.isLast at h
  cases e1 : decide (0 < kind)
  · simp only [go_sem, Nat.reduceLT, reduceIte, reduceCtorEq, Nat.reduceEqDiff, apply_ite (Option.map (outOf _)), Nat.reduceBEq, Nat.reduceAdd, Nat.reduceSub, Nat.reduceLeDiff, Nat.reduceMul, ty_shapeT_80, ty_zeroCells_80, ev_build ty_zeroCells_80 ty_placesOf_80, ty_szOf_80, ty_fieldOff_80_1, ty_szOf_3, ty_shapeT_3, ev_len_sl ty_descOf_60, ev_indexAddr ty_descOf_60, ty_szOf_83, ty_shapeT_83, ty_zeroCells_83, good_44, good_45, ev_build ty_zeroCells_88 ty_placesOf_88, ty_zeroCells_88, ty_szOf_88, ty_fieldOff_80_2, ty_szOf_4, good_30, ty_shapeT_4, ty_fieldOff_80_0, ty_szOf_39, ty_shapeT_39, ty_fieldOff_88_1, ty_shapeT_88, ev_buildSlice (len := 1) ty_descOf_39 ty_szOf_88 ty_zeroCells_88 ⟨rfl, by decide, by decide⟩, ev_append ty_appInfo_39, ev_appNew_sl ty_descOf_39, keep_30_2, hlt, hget, Int.natCast_nonneg, hw, e1, hop, encL_len, hlim, hlv, lens_valK, hown, snoc_valN]
    rw [exL_head]
    simp only [go_sem, Nat.reduceLT, reduceIte, reduceCtorEq, Nat.reduceEqDiff, apply_ite (Option.map (outOf _)), Nat.reduceBEq, Nat.reduceAdd, Nat.reduceSub, Nat.reduceLeDiff, Nat.reduceMul, ty_shapeT_80, ty_zeroCells_80, ev_build ty_zeroCells_80 ty_placesOf_80, ty_szOf_80, ty_fieldOff_80_1, ty_szOf_3, ty_shapeT_3, ev_len_sl ty_descOf_60, ev_indexAddr ty_descOf_60, ty_szOf_83, ty_shapeT_83, ty_zeroCells_83, good_44, good_45, ev_build ty_zeroCells_88 ty_placesOf_88, ty_zeroCells_88, ty_szOf_88, ty_fieldOff_80_2, ty_szOf_4, good_30, ty_shapeT_4, ty_fieldOff_80_0, ty_szOf_39, ty_shapeT_39, ty_fieldOff_88_1, ty_shapeT_88, ev_buildSlice (len := 1) ty_descOf_39 ty_szOf_88 ty_zeroCells_88 ⟨rfl, by decide, by decide⟩, ev_append ty_appInfo_39, ev_appNew_sl ty_descOf_39, keep_30_2]
  · rw [e1, Bool.true_and] at h
    rw [h] at hld
    simp only [go_sem, Nat.reduceLT, reduceIte, reduceCtorEq, Nat.reduceEqDiff, apply_ite (Option.map (outOf _)), Nat.reduceBEq, Nat.reduceAdd, Nat.reduceSub, Nat.reduceLeDiff, Nat.reduceMul, ty_shapeT_80, ty_zeroCells_80, ev_build ty_zeroCells_80 ty_placesOf_80, ty_szOf_80, ty_fieldOff_80_1, ty_szOf_3, ty_shapeT_3, ev_len_sl ty_descOf_60, ev_indexAddr ty_descOf_60, ty_szOf_83, ty_shapeT_83, ty_zeroCells_83, good_44, good_45, ev_build ty_zeroCells_88 ty_placesOf_88, ty_zeroCells_88, ty_szOf_88, ty_fieldOff_80_2, ty_szOf_4, good_30, ty_shapeT_4, ty_fieldOff_80_0, ty_szOf_39, ty_shapeT_39, ty_fieldOff_88_1, ty_shapeT_88, ev_buildSlice (len := 1) ty_descOf_39 ty_szOf_88 ty_zeroCells_88 ⟨rfl, by decide, by decide⟩, ev_append ty_appInfo_39, ev_appNew_sl ty_descOf_39, keep_30_2, hlt, hget, Int.natCast_nonneg, hw, e1, hld, hop, encL_len, hlim, hlv, lens_valK, hown, snoc_valN]
    rw [exL_head]
    simp only [go_sem, Nat.reduceLT, reduceIte, reduceCtorEq, Nat.reduceEqDiff, apply_ite (Option.map (outOf _)), Nat.reduceBEq, Nat.reduceAdd, Nat.reduceSub, Nat.reduceLeDiff, Nat.reduceMul, ty_shapeT_80, ty_zeroCells_80, ev_build ty_zeroCells_80 ty_placesOf_80, ty_szOf_80, ty_fieldOff_80_1, ty_szOf_3, ty_shapeT_3, ev_len_sl ty_descOf_60, ev_indexAddr ty_descOf_60, ty_szOf_83, ty_shapeT_83, ty_zeroCells_83, good_44, good_45, ev_build ty_zeroCells_88 ty_placesOf_88, ty_zeroCells_88, ty_szOf_88, ty_fieldOff_80_2, ty_szOf_4, good_30, ty_shapeT_4, ty_fieldOff_80_0, ty_szOf_39, ty_shapeT_39, ty_fieldOff_88_1, ty_shapeT_88, ev_buildSlice (len := 1) ty_descOf_39 ty_szOf_88 ty_zeroCells_88 ⟨rfl, by decide, by decide⟩, ev_append ty_appInfo_39, ev_appNew_sl ty_descOf_39, keep_30_2]

set_option maxHeartbeats 4000000 in
theorem u2_in (l : List Tok) (kind : Int) (n : Nat) (i j : Nat) (e : Nat) (acc : List Val) (t : Tok) (vs : List Val) (hi : l[i]? = some t) (hl : l.length ≤ 100000000) (hn : n < 1000) (h : Ne.isLast kind t = false) (he : e = 88 ∨ acc = []) (hacc : acc.length < 100000000) (h0 : Ne.opens t ≠ 0)
    (hin : den K 30 [L (l.map Tok.enc), I ((i + 1 : Nat) : Int), I (Ne.opens t), I n] [] = some (.ret (.agg [.pv (.sl (encL vs)), .pv (.int .i64 j), .pv (.bool false)]) [])) :
    exL K 30 ulp2 (u2H l kind ((n + 1 : Nat) : Int) i e acc) = exL K 30 ulp2 (u2H l kind ((n + 1 : Nat) : Int) j 88 (acc ++ [.mk (Ne.opens t) (if Ne.opens t = 5 then t else Ne.tok0) vs])) := by
  have hil : i < l.length := (List.getElem?_eq_some_iff.1 hi).1
  have hlt : decide ((i : Int) < (l.length : Int)) = true := decide_eq_true (by omega)
  have hget := tok_at l i t hi
  have hw : IntKind.i64.wrap ((i : Int) + 1) = ((i + 1 : Nat) : Int) := wrap_nat i (by omega)
  have hld := last_den t kind
  have hop := open_den t
  have hpos : decide (0 < Ne.opens t) = true := decide_eq_true (opens_posT h0)
  have hown : e = 88 ∨ (encL acc).isEmpty = true := by
    rcases he with rfl | rfl
    · exact .inl rfl
    · exact .inr rfl
  have hlim : acc.length + 1 < appLim := by unfold appLim; omega
  have hlv := lens_valsK acc
  have hl0 : (((n + 1 : Nat) : Int) == 0) = false := by rw [beq_eq_false_iff_ne]; omega
  have hwl : IntKind.i64.wrap (((n + 1 : Nat) : Int) - 1) = (n : Int) := by rw [IntWalk.i64_in _ (by omega)]; omega
  unfold ulp2
  conv in loopAt _ _ => whnf
  conv in loopAt _ _ => whnf
  conv in exL _ _ _ (u2H l kind _ i e acc) => rw [exL_loop]
  by_cases h5 : Ne.opens t = 5
  · have e5 : (Ne.opens t == 5) = true := by rw [beq_iff_eq]; exact h5
    rw [if_pos h5]
    unfold Ne.isLast at h
    cases e1 : decide (0 < kind)
    · simp only [go_sem, Nat.reduceLT, reduceIte, reduceCtorEq, Nat.reduceEqDiff, apply_ite (Option.map (outOf _)), Nat.reduceBEq, Nat.reduceAdd, Nat.reduceSub, Nat.reduceLeDiff, Nat.reduceMul, ty_shapeT_80, ty_zeroCells_80, ev_build ty_zeroCells_80 ty_placesOf_80, ty_szOf_80, ty_fieldOff_80_1, ty_szOf_3, ty_shapeT_3, ev_len_sl ty_descOf_60, ev_indexAddr ty_descOf_60, ty_szOf_83, ty_shapeT_83, ty_zeroCells_83, good_44, good_45, ev_build ty_zeroCells_88 ty_placesOf_88, ty_zeroCells_88, ty_szOf_88, ty_fieldOff_80_2, ty_szOf_4, good_30, ty_shapeT_4, ty_fieldOff_80_0, ty_szOf_39, ty_shapeT_39, ty_fieldOff_88_1, ty_shapeT_88, ev_buildSlice (len := 1) ty_descOf_39 ty_szOf_88 ty_zeroCells_88 ⟨rfl, by decide, by decide⟩, ev_append ty_appInfo_39, ev_appNew_sl ty_descOf_39, keep_30_2, hlt, hget, Int.natCast_nonneg, hw, e1, hld, hop, hpos, encL_len, hlim, hlv, lens_valK, hown, hin, hwl, hl0, e5, snoc_valK]
      rw [exL_head]
      simp only [go_sem, Nat.reduceLT, reduceIte, reduceCtorEq, Nat.reduceEqDiff, apply_ite (Option.map (outOf _)), Nat.reduceBEq, Nat.reduceAdd, Nat.reduceSub, Nat.reduceLeDiff, Nat.reduceMul, ty_shapeT_80, ty_zeroCells_80, ev_build ty_zeroCells_80 ty_placesOf_80, ty_szOf_80, ty_fieldOff_80_1, ty_szOf_3, ty_shapeT_3, ev_len_sl ty_descOf_60, ev_indexAddr ty_descOf_60, ty_szOf_83, ty_shapeT_83, ty_zeroCells_83, good_44, good_45, ev_build ty_zeroCells_88 ty_placesOf_88, ty_zeroCells_88, ty_szOf_88, ty_fieldOff_80_2, ty_szOf_4, good_30, ty_shapeT_4, ty_fieldOff_80_0, ty_szOf_39, ty_shapeT_39, ty_fieldOff_88_1, ty_shapeT_88, ev_buildSlice (len := 1) ty_descOf_39 ty_szOf_88 ty_zeroCells_88 ⟨rfl, by decide, by decide⟩, ev_append ty_appInfo_39, ev_appNew_sl ty_descOf_39, keep_30_2]
    · rw [e1, Bool.true_and] at h
      rw [h] at hld
      simp only [go_sem, Nat.reduceLT, reduceIte, reduceCtorEq, Nat.reduceEqDiff, apply_ite (Option.map (outOf _)), Nat.reduceBEq, Nat.reduceAdd, Nat.reduceSub, Nat.reduceLeDiff, Nat.reduceMul, ty_shapeT_80, ty_zeroCells_80, ev_build ty_zeroCells_80 ty_placesOf_80, ty_szOf_80, ty_fieldOff_80_1, ty_szOf_3, ty_shapeT_3, ev_len_sl ty_descOf_60, ev_indexAddr ty_descOf_60, ty_szOf_83, ty_shapeT_83, ty_zeroCells_83, good_44, good_45, ev_build ty_zeroCells_88 ty_placesOf_88, ty_zeroCells_88, ty_szOf_88, ty_fieldOff_80_2, ty_szOf_4, good_30, ty_shapeT_4, ty_fieldOff_80_0, ty_szOf_39, ty_shapeT_39, ty_fieldOff_88_1, ty_shapeT_88, ev_buildSlice (len := 1) ty_descOf_39 ty_szOf_88 ty_zeroCells_88 ⟨rfl, by decide, by decide⟩, ev_append ty_appInfo_39, ev_appNew_sl ty_descOf_39, keep_30_2, hlt, hget, Int.natCast_nonneg, hw, e1, hld, hop, hpos, encL_len, hlim, hlv, lens_valK, hown, hin, hwl, hl0, e5, snoc_valK]
      rw [exL_head]
      simp only [go_sem, Nat.reduceLT, reduceIte, reduceCtorEq, Nat.reduceEqDiff, apply_ite (Option.map (outOf _)), Nat.reduceBEq, Nat.reduceAdd, Nat.reduceSub, Nat.reduceLeDiff, Nat.reduceMul, ty_shapeT_80, ty_zeroCells_80, ev_build ty_zeroCells_80 ty_placesOf_80, ty_szOf_80, ty_fieldOff_80_1, ty_szOf_3, ty_shapeT_3, ev_len_sl ty_descOf_60, ev_indexAddr ty_descOf_60, ty_szOf_83, ty_shapeT_83, ty_zeroCells_83, good_44, good_45, ev_build ty_zeroCells_88 ty_placesOf_88, ty_zeroCells_88, ty_szOf_88, ty_fieldOff_80_2, ty_szOf_4, good_30, ty_shapeT_4, ty_fieldOff_80_0, ty_szOf_39, ty_shapeT_39, ty_fieldOff_88_1, ty_shapeT_88, ev_buildSlice (len := 1) ty_descOf_39 ty_szOf_88 ty_zeroCells_88 ⟨rfl, by decide, by decide⟩, ev_append ty_appInfo_39, ev_appNew_sl ty_descOf_39, keep_30_2]
  · have e5 : (Ne.opens t == 5) = false := by rw [beq_eq_false_iff_ne]; exact h5
    rw [if_neg h5]
    unfold Ne.isLast at h
    cases e1 : decide (0 < kind)
    · simp only [go_sem, Nat.reduceLT, reduceIte, reduceCtorEq, Nat.reduceEqDiff, apply_ite (Option.map (outOf _)), Nat.reduceBEq, Nat.reduceAdd, Nat.reduceSub, Nat.reduceLeDiff, Nat.reduceMul, ty_shapeT_80, ty_zeroCells_80, ev_build ty_zeroCells_80 ty_placesOf_80, ty_szOf_80, ty_fieldOff_80_1, ty_szOf_3, ty_shapeT_3, ev_len_sl ty_descOf_60, ev_indexAddr ty_descOf_60, ty_szOf_83, ty_shapeT_83, ty_zeroCells_83, good_44, good_45, ev_build ty_zeroCells_88 ty_placesOf_88, ty_zeroCells_88, ty_szOf_88, ty_fieldOff_80_2, ty_szOf_4, good_30, ty_shapeT_4, ty_fieldOff_80_0, ty_szOf_39, ty_shapeT_39, ty_fieldOff_88_1, ty_shapeT_88, ev_buildSlice (len := 1) ty_descOf_39 ty_szOf_88 ty_zeroCells_88 ⟨rfl, by decide, by decide⟩, ev_append ty_appInfo_39, ev_appNew_sl ty_descOf_39, keep_30_2, hlt, hget, Int.natCast_nonneg, hw, e1, hld, hop, hpos, encL_len, hlim, hlv, lens_valK, hown, hin, hwl, hl0, e5, snoc_val0]
      rw [exL_head]
      simp only [go_sem, Nat.reduceLT, reduceIte, reduceCtorEq, Nat.reduceEqDiff, apply_ite (Option.map (outOf _)), Nat.reduceBEq, Nat.reduceAdd, Nat.reduceSub, Nat.reduceLeDiff, Nat.reduceMul, ty_shapeT_80, ty_zeroCells_80, ev_build ty_zeroCells_80 ty_placesOf_80, ty_szOf_80, ty_fieldOff_80_1, ty_szOf_3, ty_shapeT_3, ev_len_sl ty_descOf_60, ev_indexAddr ty_descOf_60, ty_szOf_83, ty_shapeT_83, ty_zeroCells_83, good_44, good_45, ev_build ty_zeroCells_88 ty_placesOf_88, ty_zeroCells_88, ty_szOf_88, ty_fieldOff_80_2, ty_szOf_4, good_30, ty_shapeT_4, ty_fieldOff_80_0, ty_szOf_39, ty_shapeT_39, ty_fieldOff_88_1, ty_shapeT_88, ev_buildSlice (len := 1) ty_descOf_39 ty_szOf_88 ty_zeroCells_88 ⟨rfl, by decide, by decide⟩, ev_append ty_appInfo_39, ev_appNew_sl ty_descOf_39, keep_30_2]
    · rw [e1, Bool.true_and] at h
      rw [h] at hld
      simp only [go_sem, Nat.reduceLT, reduceIte, reduceCtorEq, Nat.reduceEqDiff, apply_ite (Option.map (outOf _)), Nat.reduceBEq, Nat.reduceAdd, Nat.reduceSub, Nat.reduceLeDiff, Nat.reduceMul, ty_shapeT_80, ty_zeroCells_80, ev_build ty_zeroCells_80 ty_placesOf_80, ty_szOf_80, ty_fieldOff_80_1, ty_szOf_3, ty_shapeT_3, ev_len_sl ty_descOf_60, ev_indexAddr ty_descOf_60, ty_szOf_83, ty_shapeT_83, ty_zeroCells_83, good_44, good_45, ev_build ty_zeroCells_88 ty_placesOf_88, ty_zeroCells_88, ty_szOf_88, ty_fieldOff_80_2, ty_szOf_4, good_30, ty_shapeT_4, ty_fieldOff_80_0, ty_szOf_39, ty_shapeT_39, ty_fieldOff_88_1, ty_shapeT_88, ev_buildSlice (len := 1) ty_descOf_39 ty_szOf_88 ty_zeroCells_88 ⟨rfl, by decide, by decide⟩, ev_append ty_appInfo_39, ev_appNew_sl ty_descOf_39, keep_30_2, hlt, hget, Int.natCast_nonneg, hw, e1, hld, hop, hpos, encL_len, hlim, hlv, lens_valK, hown, hin, hwl, hl0, e5, snoc_val0]
      rw [exL_head]
      simp only [go_sem, Nat.reduceLT, reduceIte, reduceCtorEq, Nat.reduceEqDiff, apply_ite (Option.map (outOf _)), Nat.reduceBEq, Nat.reduceAdd, Nat.reduceSub, Nat.reduceLeDiff, Nat.reduceMul, ty_shapeT_80, ty_zeroCells_80, ev_build ty_zeroCells_80 ty_placesOf_80, ty_szOf_80, ty_fieldOff_80_1, ty_szOf_3, ty_shapeT_3, ev_len_sl ty_descOf_60, ev_indexAddr ty_descOf_60, ty_szOf_83, ty_shapeT_83, ty_zeroCells_83, good_44, good_45, ev_build ty_zeroCells_88 ty_placesOf_88, ty_zeroCells_88, ty_szOf_88, ty_fieldOff_80_2, ty_szOf_4, good_30, ty_shapeT_4, ty_fieldOff_80_0, ty_szOf_39, ty_shapeT_39, ty_fieldOff_88_1, ty_shapeT_88, ev_buildSlice (len := 1) ty_descOf_39 ty_szOf_88 ty_zeroCells_88 ⟨rfl, by decide, by decide⟩, ev_append ty_appInfo_39, ev_appNew_sl ty_descOf_39, keep_30_2]

theorem u2_zero (l : List Tok) (kind : Int) (i : Nat) (e : Nat) (acc : List Val) (t : Tok) (hi : l[i]? = some t) (hl : l.length ≤ 100000000) (h : Ne.isLast kind t = false) (h0 : Ne.opens t ≠ 0) :
    Ends (exL K 30 ulp2 (u2H l kind ((0 : Nat) : Int) i e acc)) fun o S => ∃ a b, Ret2 a b true o S := by
  have hil : i < l.length := (List.getElem?_eq_some_iff.1 hi).1
  have hlt : decide ((i : Int) < (l.length : Int)) = true := decide_eq_true (by omega)
  have hget := tok_at l i t hi
  have hw : IntKind.i64.wrap ((i : Int) + 1) = ((i + 1 : Nat) : Int) := wrap_nat i (by omega)
  have hld := last_den t kind
  have hop := open_den t
  have hpos : decide (0 < Ne.opens t) = true := decide_eq_true (opens_posT h0)
  have hl0 : (((0 : Nat) : Int) == 0) = true := by decide
  unfold ulp2 Ret2
  conv in loopAt _ _ => whnf
  rw [exL_loop]
  unfold Ne.isLast at h
  cases e1 : decide (0 < kind)
  · simp only [go_sem, Nat.reduceLT, reduceIte, reduceCtorEq, Nat.reduceEqDiff, apply_ite (Option.map (outOf _)), Nat.reduceBEq, Nat.reduceAdd, Nat.reduceSub, Nat.reduceLeDiff, Nat.reduceMul, ty_shapeT_80, ty_zeroCells_80, ev_build ty_zeroCells_80 ty_placesOf_80, ty_szOf_80, ty_fieldOff_80_1, ty_szOf_3, ty_shapeT_3, ev_len_sl ty_descOf_60, ev_indexAddr ty_descOf_60, ty_szOf_83, ty_shapeT_83, ty_zeroCells_83, good_44, good_45, ev_build ty_zeroCells_88 ty_placesOf_88, ty_zeroCells_88, ty_szOf_88, ty_fieldOff_80_2, ty_szOf_4, good_30, ty_shapeT_4, ty_fieldOff_80_0, ty_szOf_39, ty_shapeT_39, ty_fieldOff_88_1, ty_shapeT_88, ev_buildSlice (len := 1) ty_descOf_39 ty_szOf_88 ty_zeroCells_88 ⟨rfl, by decide, by decide⟩, ev_append ty_appInfo_39, ev_appNew_sl ty_descOf_39, keep_30_2, hlt, hget, Int.natCast_nonneg, hw, e1, hld, hop, hpos, hl0, ends_some]
    exact ⟨_, _, rfl⟩
  · rw [e1, Bool.true_and] at h
    rw [h] at hld
    simp only [go_sem, Nat.reduceLT, reduceIte, reduceCtorEq, Nat.reduceEqDiff, apply_ite (Option.map (outOf _)), Nat.reduceBEq, Nat.reduceAdd, Nat.reduceSub, Nat.reduceLeDiff, Nat.reduceMul, ty_shapeT_80, ty_zeroCells_80, ev_build ty_zeroCells_80 ty_placesOf_80, ty_szOf_80, ty_fieldOff_80_1, ty_szOf_3, ty_shapeT_3, ev_len_sl ty_descOf_60, ev_indexAddr ty_descOf_60, ty_szOf_83, ty_shapeT_83, ty_zeroCells_83, good_44, good_45, ev_build ty_zeroCells_88 ty_placesOf_88, ty_zeroCells_88, ty_szOf_88, ty_fieldOff_80_2, ty_szOf_4, good_30, ty_shapeT_4, ty_fieldOff_80_0, ty_szOf_39, ty_shapeT_39, ty_fieldOff_88_1, ty_shapeT_88, ev_buildSlice (len := 1) ty_descOf_39 ty_szOf_88 ty_zeroCells_88 ⟨rfl, by decide, by decide⟩, ev_append ty_appInfo_39, ev_appNew_sl ty_descOf_39, keep_30_2, hlt, hget, Int.natCast_nonneg, hw, e1, hld, hop, hpos, hl0, ends_some]
    exact ⟨_, _, rfl⟩

theorem u2_bad (l : List Tok) (kind : Int) (n : Nat) (i : Nat) (e : Nat) (acc : List Val) (t : Tok) (hi : l[i]? = some t) (hl : l.length ≤ 100000000) (hn : n < 1000) (h : Ne.isLast kind t = false) (h0 : Ne.opens t ≠ 0) (x : List (List PV)) (j : Int)
    (hin : den K 30 [L (l.map Tok.enc), I ((i + 1 : Nat) : Int), I (Ne.opens t), I n] [] = some (.ret (.agg [.pv (.sl x), .pv (.int .i64 j), .pv (.bool true)]) [])) :
    Ends (exL K 30 ulp2 (u2H l kind ((n + 1 : Nat) : Int) i e acc)) fun o S => ∃ a b, Ret2 a b true o S := by
  have hil : i < l.length := (List.getElem?_eq_some_iff.1 hi).1
  have hlt : decide ((i : Int) < (l.length : Int)) = true := decide_eq_true (by omega)
  have hget := tok_at l i t hi
  have hw : IntKind.i64.wrap ((i : Int) + 1) = ((i + 1 : Nat) : Int) := wrap_nat i (by omega)
  have hld := last_den t kind
  have hop := open_den t
  have hpos : decide (0 < Ne.opens t) = true := decide_eq_true (opens_posT h0)
  have hl0 : (((n + 1 : Nat) : Int) == 0) = false := by rw [beq_eq_false_iff_ne]; omega
  have hwl : IntKind.i64.wrap (((n + 1 : Nat) : Int) - 1) = (n : Int) := by rw [IntWalk.i64_in _ (by omega)]; omega
  unfold ulp2 Ret2
  conv in loopAt _ _ => whnf
  rw [exL_loop]
  unfold Ne.isLast at h
  cases e1 : decide (0 < kind)
  · simp only [go_sem, Nat.reduceLT, reduceIte, reduceCtorEq, Nat.reduceEqDiff, apply_ite (Option.map (outOf _)), Nat.reduceBEq, Nat.reduceAdd, Nat.reduceSub, Nat.reduceLeDiff, Nat.reduceMul, ty_shapeT_80, ty_zeroCells_80, ev_build ty_zeroCells_80 ty_placesOf_80, ty_szOf_80, ty_fieldOff_80_1, ty_szOf_3, ty_shapeT_3, ev_len_sl ty_descOf_60, ev_indexAddr ty_descOf_60, ty_szOf_83, ty_shapeT_83, ty_zeroCells_83, good_44, good_45, ev_build ty_zeroCells_88 ty_placesOf_88, ty_zeroCells_88, ty_szOf_88, ty_fieldOff_80_2, ty_szOf_4, good_30, ty_shapeT_4, ty_fieldOff_80_0, ty_szOf_39, ty_shapeT_39, ty_fieldOff_88_1, ty_shapeT_88, ev_buildSlice (len := 1) ty_descOf_39 ty_szOf_88 ty_zeroCells_88 ⟨rfl, by decide, by decide⟩, ev_append ty_appInfo_39, ev_appNew_sl ty_descOf_39, keep_30_2, hlt, hget, Int.natCast_nonneg, hw, e1, hld, hop, hpos, hl0, hwl, hin, ends_some]
    exact ⟨_, _, rfl⟩
  · rw [e1, Bool.true_and] at h
    rw [h] at hld
    simp only [go_sem, Nat.reduceLT, reduceIte, reduceCtorEq, Nat.reduceEqDiff, apply_ite (Option.map (outOf _)), Nat.reduceBEq, Nat.reduceAdd, Nat.reduceSub, Nat.reduceLeDiff, Nat.reduceMul, ty_shapeT_80, ty_zeroCells_80, ev_build ty_zeroCells_80 ty_placesOf_80, ty_szOf_80, ty_fieldOff_80_1, ty_szOf_3, ty_shapeT_3, ev_len_sl ty_descOf_60, ev_indexAddr ty_descOf_60, ty_szOf_83, ty_shapeT_83, ty_zeroCells_83, good_44, good_45, ev_build ty_zeroCells_88 ty_placesOf_88, ty_zeroCells_88, ty_szOf_88, ty_fieldOff_80_2, ty_szOf_4, good_30, ty_shapeT_4, ty_fieldOff_80_0, ty_szOf_39, ty_shapeT_39, ty_fieldOff_88_1, ty_shapeT_88, ev_buildSlice (len := 1) ty_descOf_39 ty_szOf_88 ty_zeroCells_88 ⟨rfl, by decide, by decide⟩, ev_append ty_appInfo_39, ev_appNew_sl ty_descOf_39, keep_30_2, hlt, hget, Int.natCast_nonneg, hw, e1, hld, hop, hpos, hl0, hwl, hin, ends_some]
    exact ⟨_, _, rfl⟩

/-- what the loop comes to -/
def ULoop2 (l : List Tok) (kind : Int) (left : Nat) (i : Nat) (acc : List Val) (o : Out) (S : St) : Prop :=
  match Ne.until_ kind left (l.drop i) with
  | some (vs, rest) => ∃ j : Nat, l.drop j = rest ∧ j ≤ l.length ∧ i ≤ j ∧ (Ret2 (encL (acc ++ vs)) (j : Int) false o S ∨
      (o = .exit 0 ∧ S.nt = 76 ∧ S.sl 8 = .c (.loc 8 0) ∧ S.sl 9 = .c (.loc 9 0) ∧ S.bx 8 = some [.own 0 [], .pv (.int .i64 0), .pv (.bool false)] ∧ ∃ e, S.bx 9 = some [.own e (encL (acc ++ vs)), .pv (.int .i64 j), .pv (.bool false)]))
  | none => ∃ a b, Ret2 a b true o S

def UDen2 (l : List Tok) (kind : Int) (left : Nat) (i : Nat) : Prop :=
  match Ne.until_ kind left (l.drop i) with
  | some (vs, rest) => ∃ j : Nat, l.drop j = rest ∧ j ≤ l.length ∧ i ≤ j ∧ den K 30 [L (l.map Tok.enc), I (i : Int), I kind, I left] [] = some (.ret (.agg [.pv (.sl (encL vs)), .pv (.int .i64 j), .pv (.bool false)]) [])
  | none => ∃ a b, den K 30 [L (l.map Tok.enc), I (i : Int), I kind, I left] [] = some (.ret (.agg [.pv (.sl a), .pv (.int .i64 b), .pv (.bool true)]) [])

theorem u2_den {l : List Tok} {kind : Int} {left i : Nat}
    (h : Ends (exL K 30 ulp2 (u2H l kind left i 0 [])) (ULoop2 l kind left i [])) : UDen2 l kind left i := by
  have hr : Tryd.f30.results = #[.cell 8 80] := rfl
  unfold ulp2 at h
  conv at h in loopAt _ _ => whnf
  obtain ⟨o, S', w, hq⟩ := h
  unfold ULoop2 at hq
  unfold UDen2
  cases hu : Ne.until_ kind left (l.drop i) with
  | some x =>
    obtain ⟨vs, rest⟩ := x
    rw [hu] at hq
    obtain ⟨j, q1, q2, q3, hq⟩ := hq
    refine ⟨j, q1, q2, q3, ?_⟩
    rw [List.nil_append] at hq
    refine den_run rfl Tryd.func30 rfl Tryd.ntmps30 ⟨by simp, by simp [LK]⟩ ?_
    simp only [go_sem, Nat.reduceLT, reduceIte, reduceCtorEq, Nat.reduceEqDiff, apply_ite (Option.map (outOf _)), Nat.reduceBEq, Nat.reduceAdd, Nat.reduceSub, Nat.reduceLeDiff, Nat.reduceMul, ty_shapeT_80, ty_zeroCells_80, ev_build ty_zeroCells_80 ty_placesOf_80, ty_szOf_80, ty_fieldOff_80_1, ty_szOf_3, ty_shapeT_3, ev_len_sl ty_descOf_60, ev_indexAddr ty_descOf_60, ty_szOf_83, ty_shapeT_83, ty_zeroCells_83, good_44, good_45, ev_build ty_zeroCells_88 ty_placesOf_88, ty_zeroCells_88, ty_szOf_88, ty_fieldOff_80_2, ty_szOf_4, good_30, ty_shapeT_4, ty_fieldOff_80_0, ty_szOf_39, ty_shapeT_39, ty_fieldOff_88_1, ty_shapeT_88, ev_buildSlice (len := 1) ty_descOf_39 ty_szOf_88 ty_zeroCells_88 ⟨rfl, by decide, by decide⟩, ev_append ty_appInfo_39, ev_appNew_sl ty_descOf_39, keep_30_2]
    rw [exL_head]
    simp only [go_sem, Nat.reduceLT, reduceIte, reduceCtorEq, Nat.reduceEqDiff, apply_ite (Option.map (outOf _)), Nat.reduceBEq, Nat.reduceAdd, Nat.reduceSub, Nat.reduceLeDiff, Nat.reduceMul, ty_shapeT_80, ty_zeroCells_80, ev_build ty_zeroCells_80 ty_placesOf_80, ty_szOf_80, ty_fieldOff_80_1, ty_szOf_3, ty_shapeT_3, ev_len_sl ty_descOf_60, ev_indexAddr ty_descOf_60, ty_szOf_83, ty_shapeT_83, ty_zeroCells_83, good_44, good_45, ev_build ty_zeroCells_88 ty_placesOf_88, ty_zeroCells_88, ty_szOf_88, ty_fieldOff_80_2, ty_szOf_4, good_30, ty_shapeT_4, ty_fieldOff_80_0, ty_szOf_39, ty_shapeT_39, ty_fieldOff_88_1, ty_shapeT_88, ev_buildSlice (len := 1) ty_descOf_39 ty_szOf_88 ty_zeroCells_88 ⟨rfl, by decide, by decide⟩, ev_append ty_appInfo_39, ev_appNew_sl ty_descOf_39, keep_30_2]
    erw [w]
    rcases hq with ⟨rfl, h1, h2⟩ | ⟨rfl, hn, h8, h9, b8, e, b9⟩
    · simp only [go_sem, Nat.reduceLT, reduceIte, reduceCtorEq, Nat.reduceEqDiff, apply_ite (Option.map (outOf _)), Nat.reduceBEq, Nat.reduceAdd, Nat.reduceSub, Nat.reduceLeDiff, Nat.reduceMul, ty_shapeT_80, ty_zeroCells_80, ev_build ty_zeroCells_80 ty_placesOf_80, ty_szOf_80, ty_fieldOff_80_1, ty_szOf_3, ty_shapeT_3, ev_len_sl ty_descOf_60, ev_indexAddr ty_descOf_60, ty_szOf_83, ty_shapeT_83, ty_zeroCells_83, good_44, good_45, ev_build ty_zeroCells_88 ty_placesOf_88, ty_zeroCells_88, ty_szOf_88, ty_fieldOff_80_2, ty_szOf_4, good_30, ty_shapeT_4, ty_fieldOff_80_0, ty_szOf_39, ty_shapeT_39, ty_fieldOff_88_1, ty_shapeT_88, ev_buildSlice (len := 1) ty_descOf_39 ty_szOf_88 ty_zeroCells_88 ⟨rfl, by decide, by decide⟩, ev_append ty_appInfo_39, ev_appNew_sl ty_descOf_39, keep_30_2, hr, h1, h2]
    · simp only [go_sem, Nat.reduceLT, reduceIte, reduceCtorEq, Nat.reduceEqDiff, apply_ite (Option.map (outOf _)), Nat.reduceBEq, Nat.reduceAdd, Nat.reduceSub, Nat.reduceLeDiff, Nat.reduceMul, ty_shapeT_80, ty_zeroCells_80, ev_build ty_zeroCells_80 ty_placesOf_80, ty_szOf_80, ty_fieldOff_80_1, ty_szOf_3, ty_shapeT_3, ev_len_sl ty_descOf_60, ev_indexAddr ty_descOf_60, ty_szOf_83, ty_shapeT_83, ty_zeroCells_83, good_44, good_45, ev_build ty_zeroCells_88 ty_placesOf_88, ty_zeroCells_88, ty_szOf_88, ty_fieldOff_80_2, ty_szOf_4, good_30, ty_shapeT_4, ty_fieldOff_80_0, ty_szOf_39, ty_shapeT_39, ty_fieldOff_88_1, ty_shapeT_88, ev_buildSlice (len := 1) ty_descOf_39 ty_szOf_88 ty_zeroCells_88 ⟨rfl, by decide, by decide⟩, ev_append ty_appInfo_39, ev_appNew_sl ty_descOf_39, keep_30_2, hr, hn, h8, h9, b8, b9]
  | none =>
    rw [hu] at hq
    obtain ⟨a, b, rfl, h1, h2⟩ := hq
    refine ⟨a, b, ?_⟩
    refine den_run rfl Tryd.func30 rfl Tryd.ntmps30 ⟨by simp, by simp [LK]⟩ ?_
    simp only [go_sem, Nat.reduceLT, reduceIte, reduceCtorEq, Nat.reduceEqDiff, apply_ite (Option.map (outOf _)), Nat.reduceBEq, Nat.reduceAdd, Nat.reduceSub, Nat.reduceLeDiff, Nat.reduceMul, ty_shapeT_80, ty_zeroCells_80, ev_build ty_zeroCells_80 ty_placesOf_80, ty_szOf_80, ty_fieldOff_80_1, ty_szOf_3, ty_shapeT_3, ev_len_sl ty_descOf_60, ev_indexAddr ty_descOf_60, ty_szOf_83, ty_shapeT_83, ty_zeroCells_83, good_44, good_45, ev_build ty_zeroCells_88 ty_placesOf_88, ty_zeroCells_88, ty_szOf_88, ty_fieldOff_80_2, ty_szOf_4, good_30, ty_shapeT_4, ty_fieldOff_80_0, ty_szOf_39, ty_shapeT_39, ty_fieldOff_88_1, ty_shapeT_88, ev_buildSlice (len := 1) ty_descOf_39 ty_szOf_88 ty_zeroCells_88 ⟨rfl, by decide, by decide⟩, ev_append ty_appInfo_39, ev_appNew_sl ty_descOf_39, keep_30_2]
    rw [exL_head]
    simp only [go_sem, Nat.reduceLT, reduceIte, reduceCtorEq, Nat.reduceEqDiff, apply_ite (Option.map (outOf _)), Nat.reduceBEq, Nat.reduceAdd, Nat.reduceSub, Nat.reduceLeDiff, Nat.reduceMul, ty_shapeT_80, ty_zeroCells_80, ev_build ty_zeroCells_80 ty_placesOf_80, ty_szOf_80, ty_fieldOff_80_1, ty_szOf_3, ty_shapeT_3, ev_len_sl ty_descOf_60, ev_indexAddr ty_descOf_60, ty_szOf_83, ty_shapeT_83, ty_zeroCells_83, good_44, good_45, ev_build ty_zeroCells_88 ty_placesOf_88, ty_zeroCells_88, ty_szOf_88, ty_fieldOff_80_2, ty_szOf_4, good_30, ty_shapeT_4, ty_fieldOff_80_0, ty_szOf_39, ty_shapeT_39, ty_fieldOff_88_1, ty_shapeT_88, ev_buildSlice (len := 1) ty_descOf_39 ty_szOf_88 ty_zeroCells_88 ⟨rfl, by decide, by decide⟩, ev_append ty_appInfo_39, ev_appNew_sl ty_descOf_39, keep_30_2]
    erw [w]
    simp only [go_sem, Nat.reduceLT, reduceIte, reduceCtorEq, Nat.reduceEqDiff, apply_ite (Option.map (outOf _)), Nat.reduceBEq, Nat.reduceAdd, Nat.reduceSub, Nat.reduceLeDiff, Nat.reduceMul, ty_shapeT_80, ty_zeroCells_80, ev_build ty_zeroCells_80 ty_placesOf_80, ty_szOf_80, ty_fieldOff_80_1, ty_szOf_3, ty_shapeT_3, ev_len_sl ty_descOf_60, ev_indexAddr ty_descOf_60, ty_szOf_83, ty_shapeT_83, ty_zeroCells_83, good_44, good_45, ev_build ty_zeroCells_88 ty_placesOf_88, ty_zeroCells_88, ty_szOf_88, ty_fieldOff_80_2, ty_szOf_4, good_30, ty_shapeT_4, ty_fieldOff_80_0, ty_szOf_39, ty_shapeT_39, ty_fieldOff_88_1, ty_shapeT_88, ev_buildSlice (len := 1) ty_descOf_39 ty_szOf_88 ty_zeroCells_88 ⟨rfl, by decide, by decide⟩, ev_append ty_appInfo_39, ev_appNew_sl ty_descOf_39, keep_30_2, hr, h1, h2]
end Go.Abs

namespace Go.Abs
open Go Go.Proofs
set_option maxRecDepth 10000
attribute [local go_sem] exL_seq exL_region exL_cond exL_block exL_scope exL_ret exL_skip exL_exit runRegion runOps stepOp guardA absOp takeOver opd avOf cvOf St.degAt St.put okPV okVal okAV absBin intBin strBin boolBin setBoxes if_true Bool.false_eq_true if_false Option.map_some Option.map_none Option.bind_some Option.bind_none thenO outOf upd List.toList_toArray isOwn steal appArgs inApps AV.deg CV.deg AV.gv AV.isIter absNext some_bne List.length_nil List.length_cons List.filterMap_cons List.filterMap_nil beq_iff_eq List.getElem?_cons_zero List.getElem?_cons_succ Option.getD_some K_hook hookB Bool.false_and Bool.and_false Bool.and_self K_P K_own absCall doCall getBoxes lend back idx dedup AV.ren CV.ren TV.ren AV.ptrs CV.ptrs zipBox AV.flat CV.flat absLoad absStore cellsOfAV setAt newBox markB bldTypes absFieldAddr absField absExtract absAssert noAssert absMkIface ifcOf CV.pv? content pushHead ownT fillCells reps pvs chunks enterSt leave resOf resVars resVar outBoxes lentOnly TV.deg TV.av LK CV.plain CV.noBld nilBin absUn bound List.map_cons List.map_nil List.all_cons List.all_nil List.any_cons List.any_nil List.contains_cons List.contains_nil List.elem_cons List.elem_nil List.cons_append List.nil_append List.append_nil List.flatMap_cons List.flatMap_nil List.zip_cons_cons List.zip_nil_left List.zip_nil_right List.take_succ_cons List.take_zero List.take_nil List.drop_succ_cons List.drop_zero List.drop_nil List.isEmpty_nil List.isEmpty_cons Bool.and_true Bool.true_and Bool.or_true Bool.true_or Bool.or_false Bool.false_or Bool.not_true Bool.not_false Nat.add_zero Nat.zero_add Option.isNone_none Option.isNone_some Option.getD_none true_and and_true not_true_eq_false not_false_eq_true decide_true decide_false Nat.le_refl and_self Bool.not_eq_true Nat.sub_self or_true true_or Option.some.injEq List.length_map List.nil_eq and_false false_and AV.live CV.live CV.liveIn K_keep firstReg Option.orElse_some Option.orElse_none head keepSlots keepBoxes Int.lt_irrefl List.length_append ite_self memOK logOps opKey lentBoxes Key.clash Key.sees Key.writes Nat.lt_irrefl gt_iff_lt nobox_at bot_at false_or or_false beq_self_eq_true Bool.true_beq Bool.false_beq

theorem u2_loop (l : List Tok) (hl : l.length ≤ 100000000) : ∀ (m : Nat) (i : Nat), l.length - i ≤ m → i ≤ l.length → ∀ (kind : Int) (left : Nat), left < 1000 → ∀ (e : Nat) (acc : List Val), acc.length ≤ i → (e = 88 ∨ acc = []) →
    Ends (exL K 30 ulp2 (u2H l kind left i e acc)) (ULoop2 l kind left i acc) := by
  intro m
  induction m with
  | zero =>
    intro i hm hi kind left hleft e acc hacc he
    obtain rfl : i = l.length := by omega
    refine ends_imp (u2_nil l kind left e acc) fun o S q => ?_
    unfold ULoop2
    rw [List.drop_length, Ne.until_nil]
    refine ⟨l.length, List.drop_length, Nat.le_refl _, Nat.le_refl _, .inr ?_⟩
    rw [List.append_nil]
    exact ⟨q.1, q.2.1, q.2.2.1, q.2.2.2.1, q.2.2.2.2.1, e, q.2.2.2.2.2⟩
  | succ m ih =>
    intro i hm hi kind left hleft e acc hacc he
    by_cases hil : i = l.length
    · subst hil
      refine ends_imp (u2_nil l kind left e acc) fun o S q => ?_
      unfold ULoop2
      rw [List.drop_length, Ne.until_nil]
      refine ⟨l.length, List.drop_length, Nat.le_refl _, Nat.le_refl _, .inr ?_⟩
      rw [List.append_nil]
      exact ⟨q.1, q.2.1, q.2.2.1, q.2.2.2.1, q.2.2.2.2.1, e, q.2.2.2.2.2⟩
    · have hlt : i < l.length := by omega
      have hd : l.drop i = l[i] :: l.drop (i + 1) := List.drop_eq_getElem_cons hlt
      have hg : l[i]? = some l[i] := List.getElem?_eq_getElem hlt
      generalize l[i] = t at hd hg
      have hu := Ne.until_cons kind left t (l.drop (i + 1))
      rw [← hd] at hu
      cases hb : Ne.isLast kind t with
      | true =>
        refine ends_imp (u2_last l kind left i e acc t hg hl hb) fun o S q => ?_
        rw [hb, if_pos rfl] at hu
        unfold ULoop2
        rw [hu]
        exact ⟨i + 1, rfl, hlt, by omega, .inl (by rw [List.append_nil]; exact q)⟩
      | false =>
        rw [hb, if_neg (by simp)] at hu
        by_cases h0 : Ne.opens t = 0
        · rw [if_pos h0] at hu
          have hs := u2_tok l kind left i e acc t hg hl hb he (by omega) h0
          rw [hs]
          have hacc2 : (acc ++ [Val.mk 1 t []]).length ≤ i + 1 := by rw [List.length_append, List.length_singleton]; omega
          have hmm : l.length - (i + 1) ≤ m := by omega
          have hi := ih (i + 1) hmm hlt kind left hleft 88 (acc ++ [.mk 1 t []]) hacc2 (Or.inl rfl)
          refine ends_imp hi fun o S q => ?_
          unfold ULoop2 at q ⊢
          rw [hu]
          cases hv : Ne.until_ kind left (l.drop (i + 1)) with
          | none => rw [hv] at q; exact q
          | some x =>
            rw [hv] at q
            obtain ⟨j, q1, q2, q3, q4⟩ := q
            have ha : acc ++ Val.mk 1 t [] :: x.1 = acc ++ [Val.mk 1 t []] ++ x.1 := by simp
            refine ⟨j, q1, q2, by omega, ?_⟩
            show Ret2 (encL (acc ++ Val.mk 1 t [] :: x.1)) _ _ _ _ ∨ _
            rw [ha]
            exact q4
        · rw [if_neg h0] at hu
          cases left with
          | zero =>
            refine ends_imp (u2_zero l kind i e acc t hg hl hb h0) fun o S q => ?_
            unfold ULoop2
            rw [hu]
            exact q
          | succ n =>
            have hn : n < 1000 := by omega
            have hmm : l.length - (i + 1) ≤ m := by omega
            have hin := u2_den (ih (i + 1) hmm hlt (Ne.opens t) n hn 0 [] (Nat.zero_le _) (Or.inr rfl))
            unfold UDen2 at hin
            simp only at hu
            cases hv : Ne.until_ (Ne.opens t) n (l.drop (i + 1)) with
            | none =>
              rw [hv] at hin hu
              obtain ⟨a, b, hin⟩ := hin
              refine ends_imp (u2_bad l kind n i e acc t hg hl hn hb h0 a b hin) fun o S q => ?_
              unfold ULoop2
              rw [hu]
              exact q
            | some x =>
              obtain ⟨vs, rest⟩ := x
              rw [hv] at hin hu
              obtain ⟨j, q1, q2, q3, hin⟩ := hin
              have hs := u2_in l kind n i j e acc t vs hg hl hn hb he (by omega) h0 hin
              rw [hs]
              have hacc2 : (acc ++ [Val.mk (Ne.opens t) (if Ne.opens t = 5 then t else Ne.tok0) vs]).length ≤ j := by rw [List.length_append, List.length_singleton]; omega
              have hmm2 : l.length - j ≤ m := by omega
              have hi := ih j hmm2 q2 kind (n + 1) hleft 88 (acc ++ [.mk (Ne.opens t) (if Ne.opens t = 5 then t else Ne.tok0) vs]) hacc2 (Or.inl rfl)
              refine ends_imp hi fun o S q => ?_
              unfold ULoop2 at q ⊢
              rw [q1] at q
              simp only at hu
              rw [hu]
              cases hv2 : Ne.until_ kind (n + 1) rest with
              | none => rw [hv2] at q; exact q
              | some y =>
                rw [hv2] at q
                obtain ⟨j', r1, r2, r3, r4⟩ := q
                have ha : acc ++ Val.mk (Ne.opens t) (if Ne.opens t = 5 then t else Ne.tok0) vs :: y.1 = acc ++ [Val.mk (Ne.opens t) (if Ne.opens t = 5 then t else Ne.tok0) vs] ++ y.1 := by simp
                refine ⟨j', r1, r2, by omega, ?_⟩
                show Ret2 (encL (acc ++ Val.mk (Ne.opens t) (if Ne.opens t = 5 then t else Ne.tok0) vs :: y.1)) _ _ _ _ ∨ _
                rw [ha]
                exact r4

theorem until2_all (l : List Tok) (hl : l.length ≤ 100000000) (left : Nat) (hleft : left < 1000) : UDen2 l 0 left 0 :=
  u2_den (u2_loop l hl l.length 0 (by omega) (Nat.zero_le _) 0 left hleft 0 [] (Nat.zero_le _) (Or.inr rfl))

/-! ### parsing -/

/-- what the document's Parse answers -/
def parseR2 (deep : Int) (l : List Tok) : AV :=
  if deep < 1 ∨ 60 < deep then .tup [.c .nils, .c (.pv (.int .i64 1))]
  else match Ne.until_ 0 deep.toNat l with
    | some x => .tup [.c (.pv (.sl (encL x.1))), .c (.pv (.int .i64 0))]
    | none => .tup [.c .nils, .c (.pv (.int .i64 20))]

theorem Parse2_den (l : List Tok) (hl : l.length ≤ 100000000) (deep : Int) : den K 20 [L (l.map Tok.enc), I deep] [] = some (.ret (parseR2 deep l) []) := by
  refine den_run rfl Tryd.func20 rfl Tryd.ntmps20 ⟨by simp, by simp [LK]⟩ ?_
  have hr : Tryd.f20.results = #[.tmp 4, .tmp 5] := rfl
  unfold parseR2
  by_cases h1 : deep < 1
  · have e1 : decide (deep < 1) = true := decide_eq_true h1
    rw [if_pos (.inl h1)]
    simp only [go_sem, Nat.reduceLT, reduceIte, reduceCtorEq, Nat.reduceEqDiff, apply_ite (Option.map (outOf _)), Nat.reduceBEq, Nat.reduceAdd, Nat.reduceSub, Nat.reduceLeDiff, Nat.reduceMul, good_30, ty_zeroCells_80, ty_szOf_80, ty_fieldOff_80_2, ty_szOf_4, ty_shapeT_4, ty_fieldOff_80_0, ty_szOf_39, ty_shapeT_39, hr, e1]
  · have e1 : decide (deep < 1) = false := decide_eq_false h1
    by_cases h2 : 60 < deep
    · have e2 : decide (60 < deep) = true := decide_eq_true h2
      rw [if_pos (.inr h2)]
      simp only [go_sem, Nat.reduceLT, reduceIte, reduceCtorEq, Nat.reduceEqDiff, apply_ite (Option.map (outOf _)), Nat.reduceBEq, Nat.reduceAdd, Nat.reduceSub, Nat.reduceLeDiff, Nat.reduceMul, good_30, ty_zeroCells_80, ty_szOf_80, ty_fieldOff_80_2, ty_szOf_4, ty_shapeT_4, ty_fieldOff_80_0, ty_szOf_39, ty_shapeT_39, hr, e1, e2]
    · have e2 : decide (60 < deep) = false := decide_eq_false h2
      rw [if_neg (by omega)]
      obtain ⟨d, rfl⟩ : ∃ d : Nat, deep = d := ⟨deep.toNat, by omega⟩
      rw [Int.toNat_natCast]
      have hu := until2_all l hl d (by omega)
      unfold UDen2 at hu
      rw [List.drop_zero] at hu
      have z0 : ((0 : Nat) : Int) = 0 := rfl
      rw [z0] at hu
      cases hv : Ne.until_ 0 d l with
      | some x =>
        rw [hv] at hu
        obtain ⟨j, _, _, _, hu⟩ := hu
        simp only [go_sem, Nat.reduceLT, reduceIte, reduceCtorEq, Nat.reduceEqDiff, apply_ite (Option.map (outOf _)), Nat.reduceBEq, Nat.reduceAdd, Nat.reduceSub, Nat.reduceLeDiff, Nat.reduceMul, good_30, ty_zeroCells_80, ty_szOf_80, ty_fieldOff_80_2, ty_szOf_4, ty_shapeT_4, ty_fieldOff_80_0, ty_szOf_39, ty_shapeT_39, hr, e1, e2, hu]
      | none =>
        rw [hv] at hu
        obtain ⟨a, b, hu⟩ := hu
        simp only [go_sem, Nat.reduceLT, reduceIte, reduceCtorEq, Nat.reduceEqDiff, apply_ite (Option.map (outOf _)), Nat.reduceBEq, Nat.reduceAdd, Nat.reduceSub, Nat.reduceLeDiff, Nat.reduceMul, good_30, ty_zeroCells_80, ty_szOf_80, ty_fieldOff_80_2, ty_szOf_4, ty_shapeT_4, ty_fieldOff_80_0, ty_szOf_39, ty_shapeT_39, hr, e1, e2, hu]

/-! ### whether values may be -/

theorem parse_len {left : Nat} {l : List Tok} {x : List Val × List Tok} (h : Ne.until_ 0 left l = some x) : Ne.size x.1 ≤ l.length := by
  have : Ne.parse left l = some x.1 := by unfold Ne.parse; rw [h]; rfl
  exact (Ne.parse_good this).2.2.1

/-- what tokens' numbers and texts may be -/
def TokOk (t : Tok) : Prop := I64 t.n ∧ t.text.length < 1000000000

end Go.Abs
