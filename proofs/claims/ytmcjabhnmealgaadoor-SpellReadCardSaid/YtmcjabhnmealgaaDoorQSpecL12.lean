/-
  WHAT THE FUNCTIONS COMPUTE, layer 4, the document's 'Same', of selectors and themselves: true.
-/
import Derived.Test.YtmcjabhnmealgaaDoorQSpecL10
set_option linter.unusedSimpArgs false
set_option linter.unusedVariables false
namespace Go.Abs
open Go Go.Proofs
set_option maxRecDepth 10000
attribute [local go_sem] exL_seq exL_region exL_cond exL_block exL_scope exL_ret exL_skip exL_exit runRegion runOps stepOp guardA absOp takeOver opd avOf cvOf St.degAt St.put okPV okVal okAV absBin intBin strBin boolBin setBoxes if_true Bool.false_eq_true if_false Option.map_some Option.map_none Option.bind_some Option.bind_none thenO outOf upd List.toList_toArray isOwn steal appArgs inApps AV.deg CV.deg AV.gv AV.isIter absNext some_bne List.length_nil List.length_cons List.filterMap_cons List.filterMap_nil beq_iff_eq List.getElem?_cons_zero List.getElem?_cons_succ Option.getD_some K_hook hookB Bool.false_and Bool.and_false Bool.and_self K_P K_own absCall doCall getBoxes lend back idx dedup AV.ren CV.ren TV.ren AV.ptrs CV.ptrs zipBox AV.flat CV.flat absLoad absStore cellsOfAV setAt newBox markB bldTypes absFieldAddr absField absExtract absAssert noAssert absMkIface ifcOf CV.pv? content pushHead ownT fillCells reps pvs chunks enterSt leave resOf resVars resVar outBoxes lentOnly TV.deg TV.av LK CV.plain CV.noBld nilBin absUn bound List.map_cons List.map_nil List.all_cons List.all_nil List.any_cons List.any_nil List.contains_cons List.contains_nil List.elem_cons List.elem_nil List.cons_append List.nil_append List.append_nil List.flatMap_cons List.flatMap_nil List.zip_cons_cons List.zip_nil_left List.zip_nil_right List.take_succ_cons List.take_zero List.take_nil List.drop_succ_cons List.drop_zero List.drop_nil List.isEmpty_nil List.isEmpty_cons Bool.and_true Bool.true_and Bool.or_true Bool.true_or Bool.or_false Bool.false_or Bool.not_true Bool.not_false Nat.add_zero Nat.zero_add Option.isNone_none Option.isNone_some Option.getD_none true_and and_true not_true_eq_false not_false_eq_true decide_true decide_false Nat.le_refl and_self Bool.not_eq_true Nat.sub_self or_true true_or Option.some.injEq List.length_map List.nil_eq and_false false_and AV.live CV.live CV.liveIn K_keep firstReg Option.orElse_some Option.orElse_none head keepSlots keepBoxes Int.lt_irrefl List.length_append ite_self memOK logOps opKey lentBoxes Key.clash Key.sees Key.writes Nat.lt_irrefl gt_iff_lt nobox_at bot_at false_or or_false beq_self_eq_true Bool.true_beq Bool.false_beq

theorem bare_eq (k k' a a' b b' : Int) (n n' v v' : List UInt8) : structEq Tryd.prog 73 [.int .i64 k, .str n, .str v, .int .i64 a, .int .i64 b] [.int .i64 k', .str n', .str v', .int .i64 a', .int .i64 b'] = some ((k == k') && ((n == n') && ((v == v') && ((a == a') && ((b == b') && true))))) := by kernel_rfl
theorem plain_den (k a b : Int) (n v : List UInt8) (l : List (List PV)) : den K 27 [.agg [.pv (.int .i64 k), .pv (.str n), .pv (.str v), .pv (.int .i64 a), .pv (.int .i64 b), .pv (.sl l)]] [] = some (.ret (.agg [.pv (.int .i64 k), .pv (.str n), .pv (.str v), .pv (.int .i64 a), .pv (.int .i64 b)]) []) := by
  have hr : Tryd.f27.results = #[.cell 2 73] := rfl
  refine den_run rfl Tryd.func27 rfl Tryd.ntmps27 ⟨by simp, by simp [LK]⟩ ?_
  simp only [go_sem, Nat.reduceLT, reduceIte, reduceCtorEq, Nat.reduceEqDiff, apply_ite (Option.map (outOf _)), Nat.reduceBEq, Nat.reduceAdd, Nat.reduceSub, Nat.reduceLeDiff, Nat.reduceMul, ty_shapeT_73, ty_zeroCells_73, ty_fieldOff_32_0, ty_szOf_3, ty_shapeT_3, ty_fieldOff_32_1, ty_szOf_9, ty_shapeT_9, ty_fieldOff_32_2, ty_fieldOff_32_3, ty_fieldOff_32_4, ev_build ty_zeroCells_73 ty_placesOf_73, ty_szOf_73, hr]

def Sim4Den (l : List Sim) : Prop := den K 14 [L (l.map Sim.enc), L (l.map Sim.enc)] [] = some (.ret (B true) [])
abbrev si4H (l : List Sim) (i : Nat) : St := { sl := upd (upd (upd bot 5 (I i)) 1 (L (l.map Sim.enc))) 0 (L (l.map Sim.enc)), bx := nobox, nt := 42 }
noncomputable def si4lp : Code := .loop (loopAt Tryd.f14 4)

set_option maxHeartbeats 8000000 in
theorem si4_loop (l : List Sim) (hal : l.length ≤ 100000000) (hin : ∀ x ∈ l, ∀ q n v a b l', x = Sim.mk q n v a b l' → Sim4Den l') : ∀ (rest : List Sim) (i : Nat), l.drop i = rest → i ≤ l.length →
    Ends (exL K 14 si4lp (si4H l i)) fun o S => o = .exit 0 ∧ S.nt = 42
  | [], i, hd, hi => by
    have hin : i = l.length := by
      have := List.drop_eq_nil_iff.1 hd
      omega
    subst hin
    have hlt : decide ((l.length : Int) < (l.length : Int)) = false := decide_eq_false (by omega)
    unfold si4lp
    conv in loopAt _ _ => whnf
    rw [exL_loop]
    simp only [go_sem, Nat.reduceLT, reduceIte, reduceCtorEq, Nat.reduceEqDiff, apply_ite (Option.map (outOf _)), Nat.reduceBEq, Nat.reduceAdd, Nat.reduceSub, Nat.reduceLeDiff, Nat.reduceMul, ev_len_sl ty_descOf_30, ev_indexAddr ty_descOf_30, ty_szOf_32, ty_shapeT_32, good_27, ty_fieldOff_32_5, ty_szOf_30, ty_shapeT_30, good_14, keep_14_4, hlt, ends_some]
  | .mk q n v a b l' :: rest, i, hd, hi => by
    obtain ⟨h1, h2, h3⟩ := drop_cons hd
    have hmem : Sim.mk q n v a b l' ∈ l := List.mem_of_getElem? h1
    have hc := hin _ hmem q n v a b l' rfl
    unfold Sim4Den at hc
    have hget : (l.map Sim.enc)[(i : Int).toNat]? = some [.int .i64 q, .str n, .str v, .int .i64 a, .int .i64 b, .sl (l'.map Sim.enc)] := by simp [h1, Sim.enc_mk]
    have hlt : decide ((i : Int) < (l.length : Int)) = true := decide_eq_true (by omega)
    have hp := plain_den q a b n v (l'.map Sim.enc)
    have hb := bare_eq q q a a b b n n v v
    simp only [beq_self_eq_true, Bool.and_true] at hb
    have hnext := si4_loop l hal hin rest (i + 1) h2 (by omega)
    unfold si4lp at hnext ⊢
    conv at hnext in loopAt _ _ => whnf
    conv in loopAt _ _ => whnf
    rw [exL_loop]
    simp only [go_sem, Nat.reduceLT, reduceIte, reduceCtorEq, Nat.reduceEqDiff, apply_ite (Option.map (outOf _)), Nat.reduceBEq, Nat.reduceAdd, Nat.reduceSub, Nat.reduceLeDiff, Nat.reduceMul, ev_len_sl ty_descOf_30, ev_indexAddr ty_descOf_30, ty_szOf_32, ty_shapeT_32, good_27, ty_fieldOff_32_5, ty_szOf_30, ty_shapeT_30, good_14, keep_14_4, hlt, hget, Int.natCast_nonneg, hp, hb, hc, wrap_nat i (by omega), bne_self_eq_false]
    rw [exL_head]
    simp only [go_sem, Nat.reduceLT, reduceIte, reduceCtorEq, Nat.reduceEqDiff, apply_ite (Option.map (outOf _)), Nat.reduceBEq, Nat.reduceAdd, Nat.reduceSub, Nat.reduceLeDiff, Nat.reduceMul, ev_len_sl ty_descOf_30, ev_indexAddr ty_descOf_30, ty_szOf_32, ty_shapeT_32, good_27, ty_fieldOff_32_5, ty_szOf_30, ty_shapeT_30, good_14, keep_14_4]
    exact hnext

theorem si4_one (l : List Sim) (hal : l.length ≤ 100000000) (hin : ∀ x ∈ l, ∀ q n v a b l', x = Sim.mk q n v a b l' → Sim4Den l') : Sim4Den l := by
  unfold Sim4Den
  have hr : Tryd.f14.results = #[.tmp 4] := rfl
  have hnext := si4_loop l hal hin l 0 rfl (Nat.zero_le _)
  unfold si4lp at hnext
  conv at hnext in loopAt _ _ => whnf
  obtain ⟨o, S', e, rfl, hn⟩ := hnext
  refine den_run rfl Tryd.func14 rfl Tryd.ntmps14 ⟨by simp, by simp [LK]⟩ ?_
  simp only [go_sem, Nat.reduceLT, reduceIte, reduceCtorEq, Nat.reduceEqDiff, apply_ite (Option.map (outOf _)), Nat.reduceBEq, Nat.reduceAdd, Nat.reduceSub, Nat.reduceLeDiff, Nat.reduceMul, ev_len_sl ty_descOf_30, ev_indexAddr ty_descOf_30, ty_szOf_32, ty_shapeT_32, good_27, ty_fieldOff_32_5, ty_szOf_30, ty_shapeT_30, good_14, keep_14_4, bne_self_eq_false]
  rw [exL_head]
  simp only [go_sem, Nat.reduceLT, reduceIte, reduceCtorEq, Nat.reduceEqDiff, apply_ite (Option.map (outOf _)), Nat.reduceBEq, Nat.reduceAdd, Nat.reduceSub, Nat.reduceLeDiff, Nat.reduceMul, ev_len_sl ty_descOf_30, ev_indexAddr ty_descOf_30, ty_szOf_32, ty_shapeT_32, good_27, ty_fieldOff_32_5, ty_szOf_30, ty_shapeT_30, good_14, keep_14_4]
  erw [e]
  simp only [go_sem, Nat.reduceLT, reduceIte, reduceCtorEq, Nat.reduceEqDiff, apply_ite (Option.map (outOf _)), Nat.reduceBEq, Nat.reduceAdd, Nat.reduceSub, Nat.reduceLeDiff, Nat.reduceMul, ev_len_sl ty_descOf_30, ev_indexAddr ty_descOf_30, ty_szOf_32, ty_shapeT_32, good_27, ty_fieldOff_32_5, ty_szOf_30, ty_shapeT_30, good_14, keep_14_4, hr, hn]

/-- selectors, and themselves -/
inductive Fin4 : Sim → Prop
  | mk {k : Int} {n v : List UInt8} {a b : Int} {l : List Sim} (hll : l.length ≤ 100000000) (hl : ∀ x ∈ l, Fin4 x) : Fin4 (Sim.mk k n v a b l)
theorem simples4_den (l : List Sim) (hal : l.length ≤ 100000000) (hok : ∀ x ∈ l, Fin4 x) : Sim4Den l := by
  have key : ∀ x : Sim, Fin4 x → ∀ q n v a b l', x = Sim.mk q n v a b l' → Sim4Den l' := by
    intro x hx
    induction hx with
    | @mk k n v a c l hll hl ih =>
      intro q n' v' a' b' l' e
      cases e
      exact si4_one l hll (fun y hy => ih y hy)
  exact si4_one l hal (fun x hx => key x (hok x hx))

/-! ### Same -/

abbrev sa4In (l : List Cpx) (i j : Nat) : St := { sl := upd (upd (upd (upd bot 6 (I j)) 5 (I i)) 1 (L (l.map Cpx.enc))) 0 (L (l.map Cpx.enc)), bx := nobox, nt := 85 }
noncomputable def sa4lp : Code := .loop (loopAt Tryd.f7 9)

set_option maxHeartbeats 8000000 in
theorem sa4_in (l : List Cpx) (i : Nat) (ps : List Prt) (s : List UInt8) (h1 : l[i]? = some ⟨ps, s⟩) (hps : ps.length ≤ 100000000) (hp : ∀ p ∈ ps, Sim4Den p.l) : ∀ (rest : List Prt) (j : Nat), ps.drop j = rest → j ≤ ps.length →
    Ends (exL K 7 sa4lp (sa4In l i j)) fun o S => o = .exit 2 ∧ S.nt = 85 ∧ S.sl 0 = L (l.map Cpx.enc) ∧ S.sl 1 = L (l.map Cpx.enc) ∧ S.sl 5 = I i
  | [], j, hd, hj => by
    have hin : j = ps.length := by
      have := List.drop_eq_nil_iff.1 hd
      omega
    subst hin
    have g1 : (l.map Cpx.enc)[(i : Int).toNat]? = some [.sl (ps.map Prt.enc), .str s] := by simp [h1, Cpx.enc]
    have hlt : decide ((ps.length : Int) < (ps.length : Int)) = false := decide_eq_false (by omega)
    unfold sa4lp
    conv in loopAt _ _ => whnf
    rw [exL_loop]
    simp only [go_sem, Nat.reduceLT, reduceIte, reduceCtorEq, Nat.reduceEqDiff, apply_ite (Option.map (outOf _)), Nat.reduceBEq, Nat.reduceAdd, Nat.reduceSub, Nat.reduceLeDiff, Nat.reduceMul, ev_len_sl ty_descOf_23, ev_indexAddr ty_descOf_23, ty_szOf_38, ty_fieldOff_38_1, ty_szOf_9, ty_shapeT_9, ty_fieldOff_38_0, ty_szOf_36, ty_shapeT_36, ev_len_sl ty_descOf_36, ev_indexAddr ty_descOf_36, ty_szOf_46, ty_shapeT_46, ty_zeroCells_46, ty_fieldOff_46_0, ty_szOf_3, ty_shapeT_3, ty_fieldOff_46_1, ty_szOf_30, ty_shapeT_30, good_14, keep_7_4, keep_7_9, ends_some, g1, hlt, Int.natCast_nonneg]
  | ⟨k, ls⟩ :: rest, j, hd, hj => by
    obtain ⟨g3, g4, g5⟩ := drop_cons hd
    have hs : Sim4Den ls := hp ⟨k, ls⟩ (List.mem_of_getElem? g3)
    unfold Sim4Den at hs
    have g1 : (l.map Cpx.enc)[(i : Int).toNat]? = some [.sl (ps.map Prt.enc), .str s] := by simp [h1, Cpx.enc]
    have g2 : (ps.map Prt.enc)[(j : Int).toNat]? = some [.int .i64 k, .sl (ls.map Sim.enc)] := by simp [g3, Prt.enc]
    have hlt : decide ((j : Int) < (ps.length : Int)) = true := decide_eq_true (by omega)
    have hnext := sa4_in l i ps s h1 hps hp rest (j + 1) g4 (by omega)
    unfold sa4lp at hnext ⊢
    conv at hnext in loopAt _ _ => whnf
    conv in loopAt _ _ => whnf
    rw [exL_loop]
    simp only [go_sem, Nat.reduceLT, reduceIte, reduceCtorEq, Nat.reduceEqDiff, apply_ite (Option.map (outOf _)), Nat.reduceBEq, Nat.reduceAdd, Nat.reduceSub, Nat.reduceLeDiff, Nat.reduceMul, ev_len_sl ty_descOf_23, ev_indexAddr ty_descOf_23, ty_szOf_38, ty_fieldOff_38_1, ty_szOf_9, ty_shapeT_9, ty_fieldOff_38_0, ty_szOf_36, ty_shapeT_36, ev_len_sl ty_descOf_36, ev_indexAddr ty_descOf_36, ty_szOf_46, ty_shapeT_46, ty_zeroCells_46, ty_fieldOff_46_0, ty_szOf_3, ty_shapeT_3, ty_fieldOff_46_1, ty_szOf_30, ty_shapeT_30, good_14, keep_7_4, keep_7_9, g1, g2, hlt, Int.natCast_nonneg, hs, wrap_nat j (by omega), bne_self_eq_false]
    first | rw [reach_if] | rw [reach_if2] | rw [reach_if3]
    rotate_left
    · kernel_rfl
    simp only [go_sem, Nat.reduceLT, reduceIte, reduceCtorEq, Nat.reduceEqDiff, apply_ite (Option.map (outOf _)), Nat.reduceBEq, Nat.reduceAdd, Nat.reduceSub, Nat.reduceLeDiff, Nat.reduceMul, ev_len_sl ty_descOf_23, ev_indexAddr ty_descOf_23, ty_szOf_38, ty_fieldOff_38_1, ty_szOf_9, ty_shapeT_9, ty_fieldOff_38_0, ty_szOf_36, ty_shapeT_36, ev_len_sl ty_descOf_36, ev_indexAddr ty_descOf_36, ty_szOf_46, ty_shapeT_46, ty_zeroCells_46, ty_fieldOff_46_0, ty_szOf_3, ty_shapeT_3, ty_fieldOff_46_1, ty_szOf_30, ty_shapeT_30, good_14, keep_7_4, keep_7_9, g1, g2, hlt, Int.natCast_nonneg, hs, wrap_nat j (by omega), bne_self_eq_false]
    rw [exL_head]
    simp only [go_sem, Nat.reduceLT, reduceIte, reduceCtorEq, Nat.reduceEqDiff, apply_ite (Option.map (outOf _)), Nat.reduceBEq, Nat.reduceAdd, Nat.reduceSub, Nat.reduceLeDiff, Nat.reduceMul, ev_len_sl ty_descOf_23, ev_indexAddr ty_descOf_23, ty_szOf_38, ty_fieldOff_38_1, ty_szOf_9, ty_shapeT_9, ty_fieldOff_38_0, ty_szOf_36, ty_shapeT_36, ev_len_sl ty_descOf_36, ev_indexAddr ty_descOf_36, ty_szOf_46, ty_shapeT_46, ty_zeroCells_46, ty_fieldOff_46_0, ty_szOf_3, ty_shapeT_3, ty_fieldOff_46_1, ty_szOf_30, ty_shapeT_30, good_14, keep_7_4, keep_7_9]
    exact hnext

abbrev sa4Out (l : List Cpx) (i : Nat) : St := { sl := upd (upd (upd bot 5 (I i)) 1 (L (l.map Cpx.enc))) 0 (L (l.map Cpx.enc)), bx := nobox, nt := 85 }
noncomputable def sa4op : Code := .loop (loopAt Tryd.f7 4)

set_option maxHeartbeats 8000000 in
theorem sa4_out (l : List Cpx) (hal : l.length ≤ 100000000) (hl : ∀ c ∈ l, c.parts.length ≤ 100000000 ∧ ∀ p ∈ c.parts, Sim4Den p.l) : ∀ (rest : List Cpx) (i : Nat), l.drop i = rest → i ≤ l.length →
    Ends (exL K 7 sa4op (sa4Out l i)) fun o S => o = .exit 0 ∧ S.nt = 85
  | [], i, hd, hi => by
    have hin : i = l.length := by
      have := List.drop_eq_nil_iff.1 hd
      omega
    subst hin
    have hlt : decide ((l.length : Int) < (l.length : Int)) = false := decide_eq_false (by omega)
    unfold sa4op
    conv in loopAt _ _ => whnf
    rw [exL_loop]
    simp only [go_sem, Nat.reduceLT, reduceIte, reduceCtorEq, Nat.reduceEqDiff, apply_ite (Option.map (outOf _)), Nat.reduceBEq, Nat.reduceAdd, Nat.reduceSub, Nat.reduceLeDiff, Nat.reduceMul, ev_len_sl ty_descOf_23, ev_indexAddr ty_descOf_23, ty_szOf_38, ty_fieldOff_38_1, ty_szOf_9, ty_shapeT_9, ty_fieldOff_38_0, ty_szOf_36, ty_shapeT_36, ev_len_sl ty_descOf_36, ev_indexAddr ty_descOf_36, ty_szOf_46, ty_shapeT_46, ty_zeroCells_46, ty_fieldOff_46_0, ty_szOf_3, ty_shapeT_3, ty_fieldOff_46_1, ty_szOf_30, ty_shapeT_30, good_14, keep_7_4, keep_7_9, hlt, ends_some]
  | ⟨ps, s⟩ :: rest, i, hd, hi => by
    obtain ⟨h1, h2, h3⟩ := drop_cons hd
    obtain ⟨hps, hp⟩ := hl ⟨ps, s⟩ (List.mem_of_getElem? h1)
    have g1 : (l.map Cpx.enc)[(i : Int).toNat]? = some [.sl (ps.map Prt.enc), .str s] := by simp [h1, Cpx.enc]
    have hlt : decide ((i : Int) < (l.length : Int)) = true := decide_eq_true (by omega)
    have hin := sa4_in l i ps s h1 hps hp ps 0 rfl (Nat.zero_le _)
    unfold sa4lp at hin
    conv at hin in loopAt _ _ => whnf
    have z0 : ((0 : Nat) : Int) = 0 := rfl
    obtain ⟨o, S', e, rfl, gn, q0, q1, q5⟩ := hin
    simp only [sa4In, z0] at e
    have hnext := sa4_out l hal hl rest (i + 1) h2 (by omega)
    unfold sa4op at hnext ⊢
    conv at hnext in loopAt _ _ => whnf
    conv in loopAt _ _ => whnf
    rw [exL_loop]
    simp only [go_sem, Nat.reduceLT, reduceIte, reduceCtorEq, Nat.reduceEqDiff, apply_ite (Option.map (outOf _)), Nat.reduceBEq, Nat.reduceAdd, Nat.reduceSub, Nat.reduceLeDiff, Nat.reduceMul, ev_len_sl ty_descOf_23, ev_indexAddr ty_descOf_23, ty_szOf_38, ty_fieldOff_38_1, ty_szOf_9, ty_shapeT_9, ty_fieldOff_38_0, ty_szOf_36, ty_shapeT_36, ev_len_sl ty_descOf_36, ev_indexAddr ty_descOf_36, ty_szOf_46, ty_shapeT_46, ty_zeroCells_46, ty_fieldOff_46_0, ty_szOf_3, ty_shapeT_3, ty_fieldOff_46_1, ty_szOf_30, ty_shapeT_30, good_14, keep_7_4, keep_7_9, g1, hlt, Int.natCast_nonneg, bne_self_eq_false]
    rw [exL_head]
    simp only [go_sem, Nat.reduceLT, reduceIte, reduceCtorEq, Nat.reduceEqDiff, apply_ite (Option.map (outOf _)), Nat.reduceBEq, Nat.reduceAdd, Nat.reduceSub, Nat.reduceLeDiff, Nat.reduceMul, ev_len_sl ty_descOf_23, ev_indexAddr ty_descOf_23, ty_szOf_38, ty_fieldOff_38_1, ty_szOf_9, ty_shapeT_9, ty_fieldOff_38_0, ty_szOf_36, ty_shapeT_36, ev_len_sl ty_descOf_36, ev_indexAddr ty_descOf_36, ty_szOf_46, ty_shapeT_46, ty_zeroCells_46, ty_fieldOff_46_0, ty_szOf_3, ty_shapeT_3, ty_fieldOff_46_1, ty_szOf_30, ty_shapeT_30, good_14, keep_7_4, keep_7_9]
    erw [e]
    simp only [go_sem, Nat.reduceLT, reduceIte, reduceCtorEq, Nat.reduceEqDiff, apply_ite (Option.map (outOf _)), Nat.reduceBEq, Nat.reduceAdd, Nat.reduceSub, Nat.reduceLeDiff, Nat.reduceMul, ev_len_sl ty_descOf_23, ev_indexAddr ty_descOf_23, ty_szOf_38, ty_fieldOff_38_1, ty_szOf_9, ty_shapeT_9, ty_fieldOff_38_0, ty_szOf_36, ty_shapeT_36, ev_len_sl ty_descOf_36, ev_indexAddr ty_descOf_36, ty_szOf_46, ty_shapeT_46, ty_zeroCells_46, ty_fieldOff_46_0, ty_szOf_3, ty_shapeT_3, ty_fieldOff_46_1, ty_szOf_30, ty_shapeT_30, good_14, keep_7_4, keep_7_9, gn, q0, q1, q5, wrap_nat i (by omega)]
    rw [exL_head]
    simp only [go_sem, Nat.reduceLT, reduceIte, reduceCtorEq, Nat.reduceEqDiff, apply_ite (Option.map (outOf _)), Nat.reduceBEq, Nat.reduceAdd, Nat.reduceSub, Nat.reduceLeDiff, Nat.reduceMul, ev_len_sl ty_descOf_23, ev_indexAddr ty_descOf_23, ty_szOf_38, ty_fieldOff_38_1, ty_szOf_9, ty_shapeT_9, ty_fieldOff_38_0, ty_szOf_36, ty_shapeT_36, ev_len_sl ty_descOf_36, ev_indexAddr ty_descOf_36, ty_szOf_46, ty_shapeT_46, ty_zeroCells_46, ty_fieldOff_46_0, ty_szOf_3, ty_shapeT_3, ty_fieldOff_46_1, ty_szOf_30, ty_shapeT_30, good_14, keep_7_4, keep_7_9, gn, q0, q1, q5]
    exact hnext

theorem Same4_den (l : List Cpx) (hal : l.length ≤ 100000000) (hl : ∀ c ∈ l, c.parts.length ≤ 100000000 ∧ ∀ p ∈ c.parts, Sim4Den p.l) : den K 7 [L (l.map Cpx.enc), L (l.map Cpx.enc)] [] = some (.ret (B true) []) := by
  have hr : Tryd.f7.results = #[.tmp 4] := rfl
  have hnext := sa4_out l hal hl l 0 rfl (Nat.zero_le _)
  unfold sa4op at hnext
  conv at hnext in loopAt _ _ => whnf
  obtain ⟨o, S', e, rfl, hn⟩ := hnext
  refine den_run rfl Tryd.func7 rfl Tryd.ntmps7 ⟨by simp, by simp [LK]⟩ ?_
  simp only [go_sem, Nat.reduceLT, reduceIte, reduceCtorEq, Nat.reduceEqDiff, apply_ite (Option.map (outOf _)), Nat.reduceBEq, Nat.reduceAdd, Nat.reduceSub, Nat.reduceLeDiff, Nat.reduceMul, ev_len_sl ty_descOf_23, ev_indexAddr ty_descOf_23, ty_szOf_38, ty_fieldOff_38_1, ty_szOf_9, ty_shapeT_9, ty_fieldOff_38_0, ty_szOf_36, ty_shapeT_36, ev_len_sl ty_descOf_36, ev_indexAddr ty_descOf_36, ty_szOf_46, ty_shapeT_46, ty_zeroCells_46, ty_fieldOff_46_0, ty_szOf_3, ty_shapeT_3, ty_fieldOff_46_1, ty_szOf_30, ty_shapeT_30, good_14, keep_7_4, keep_7_9, bne_self_eq_false]
  rw [exL_head]
  simp only [go_sem, Nat.reduceLT, reduceIte, reduceCtorEq, Nat.reduceEqDiff, apply_ite (Option.map (outOf _)), Nat.reduceBEq, Nat.reduceAdd, Nat.reduceSub, Nat.reduceLeDiff, Nat.reduceMul, ev_len_sl ty_descOf_23, ev_indexAddr ty_descOf_23, ty_szOf_38, ty_fieldOff_38_1, ty_szOf_9, ty_shapeT_9, ty_fieldOff_38_0, ty_szOf_36, ty_shapeT_36, ev_len_sl ty_descOf_36, ev_indexAddr ty_descOf_36, ty_szOf_46, ty_shapeT_46, ty_zeroCells_46, ty_fieldOff_46_0, ty_szOf_3, ty_shapeT_3, ty_fieldOff_46_1, ty_szOf_30, ty_shapeT_30, good_14, keep_7_4, keep_7_9]
  erw [e]
  simp only [go_sem, Nat.reduceLT, reduceIte, reduceCtorEq, Nat.reduceEqDiff, apply_ite (Option.map (outOf _)), Nat.reduceBEq, Nat.reduceAdd, Nat.reduceSub, Nat.reduceLeDiff, Nat.reduceMul, ev_len_sl ty_descOf_23, ev_indexAddr ty_descOf_23, ty_szOf_38, ty_fieldOff_38_1, ty_szOf_9, ty_shapeT_9, ty_fieldOff_38_0, ty_szOf_36, ty_shapeT_36, ev_len_sl ty_descOf_36, ev_indexAddr ty_descOf_36, ty_szOf_46, ty_shapeT_46, ty_zeroCells_46, ty_fieldOff_46_0, ty_szOf_3, ty_shapeT_3, ty_fieldOff_46_1, ty_szOf_30, ty_shapeT_30, good_14, keep_7_4, keep_7_9, hr, hn]
end Go.Abs
