/-
  NestBack, as the interpreter answers it: true, whatever the tokens are.
  WHAT READS AS THE ARGUMENTS: the statement NestBack.
-/
import Derived.Test.YtegabgmehebimaaDoorQU
import Derived.Test.YtegabgmehebimaaDoorQV
set_option linter.unusedSimpArgs false
set_option linter.unusedVariables false
namespace Go.Abs
open Go Go.Proofs
set_option maxRecDepth 10000
attribute [local go_sem] exL_seq exL_region exL_cond exL_block exL_scope exL_ret exL_skip exL_exit runRegion runOps stepOp guardA absOp takeOver opd avOf cvOf St.degAt St.put okPV okVal okAV absBin intBin strBin boolBin setBoxes if_true Bool.false_eq_true if_false Option.map_some Option.map_none Option.bind_some Option.bind_none thenO outOf upd List.toList_toArray isOwn steal appArgs inApps AV.deg CV.deg AV.gv AV.isIter absNext some_bne List.length_nil List.length_cons List.filterMap_cons List.filterMap_nil beq_iff_eq List.getElem?_cons_zero List.getElem?_cons_succ Option.getD_some K_hook hookB Bool.false_and Bool.and_false Bool.and_self K_P K_own absCall doCall getBoxes lend back idx dedup AV.ren CV.ren TV.ren AV.ptrs CV.ptrs zipBox AV.flat CV.flat absLoad absStore cellsOfAV setAt newBox markB bldTypes absFieldAddr absField absExtract absAssert noAssert absMkIface ifcOf CV.pv? content pushHead ownT fillCells reps pvs chunks enterSt leave resOf resVars resVar outBoxes lentOnly TV.deg TV.av LK CV.plain CV.noBld nilBin absUn bound List.map_cons List.map_nil List.all_cons List.all_nil List.any_cons List.any_nil List.contains_cons List.contains_nil List.elem_cons List.elem_nil List.cons_append List.nil_append List.append_nil List.flatMap_cons List.flatMap_nil List.zip_cons_cons List.zip_nil_left List.zip_nil_right List.take_succ_cons List.take_zero List.take_nil List.drop_succ_cons List.drop_zero List.drop_nil List.isEmpty_nil List.isEmpty_cons Bool.and_true Bool.true_and Bool.or_true Bool.true_or Bool.or_false Bool.false_or Bool.not_true Bool.not_false Nat.add_zero Nat.zero_add Option.isNone_none Option.isNone_some Option.getD_none true_and and_true not_true_eq_false not_false_eq_true decide_true decide_false Nat.le_refl and_self Bool.not_eq_true Nat.sub_self or_true true_or Option.some.injEq List.length_map List.nil_eq and_false false_and AV.live CV.live CV.liveIn K_keep firstReg Option.orElse_some Option.orElse_none head keepSlots keepBoxes Int.lt_irrefl List.length_append ite_self memOK logOps opKey lentBoxes Key.clash Key.sees Key.writes Nat.lt_irrefl gt_iff_lt nobox_at bot_at false_or or_false beq_self_eq_true Bool.true_beq Bool.false_beq

abbrev backH (l f : List Tok) (i : Nat) : St := { sl := upd (upd (upd bot 11 (I i)) 5 (L (f.map Tok.enc))) 0 (L (l.map Tok.enc)), bx := nobox, nt := 101 }

theorem back_loop (l r : List Tok) (hl : l.length ≤ 1000) : ∀ (m i : Nat), l.length - i ≤ m → i ≤ l.length →
    Ends (exL K 4 (.loop (loopAt Tryd.f4 13)) (backH l (l ++ r) i)) fun o S => o = .exit 0 ∧ S.nt = 101
  | m, i, hm, hi => by
    by_cases hil : i = l.length
    · subst hil
      conv in loopAt _ _ => whnf
      rw [exL_loop]
      simp only [go_sem, Nat.reduceLT, reduceIte, reduceCtorEq, Nat.reduceEqDiff, apply_ite (Option.map (outOf _)), Nat.reduceBEq, Nat.reduceAdd, Nat.reduceSub, Nat.reduceLeDiff, Nat.reduceMul, good_10, good_8, good_21, good_11, ev_len_sl ty_descOf_23, good_15, good_17, good_22, good_19, ev_len_sl ty_descOf_22, ev_indexAddr ty_descOf_22, ty_szOf_38, ty_shapeT_38, keep_4_13, ends_some]
    · have hlt0 : i < l.length := by omega
      obtain ⟨k, rfl⟩ : ∃ k, m = k + 1 := ⟨m - 1, by omega⟩
      have ih := back_loop l r hl k (i + 1) (by omega) (by omega)
      have hg : l[i]? = some l[i] := List.getElem?_eq_getElem hlt0
      generalize l[i] = t at hg
      have hg2 : (l ++ r)[i]? = some t := by rw [List.getElem?_append_left hlt0]; exact hg
      have a1 := tok_at l i t hg
      have a2 := tok_at (l ++ r) i t hg2
      have hlt : decide ((i : Int) < (l.length : Int)) = true := decide_eq_true (by omega)
      have heq := tok_eq t.kind t.kind t.n t.n t.text t.text
      rw [tok_beq] at heq
      rw [decide_eq_true rfl] at heq
      conv at ih in loopAt _ _ => whnf
      conv in loopAt _ _ => whnf
      rw [exL_loop]
      simp only [go_sem, Nat.reduceLT, reduceIte, reduceCtorEq, Nat.reduceEqDiff, apply_ite (Option.map (outOf _)), Nat.reduceBEq, Nat.reduceAdd, Nat.reduceSub, Nat.reduceLeDiff, Nat.reduceMul, good_10, good_8, good_21, good_11, ev_len_sl ty_descOf_23, good_15, good_17, good_22, good_19, ev_len_sl ty_descOf_22, ev_indexAddr ty_descOf_22, ty_szOf_38, ty_shapeT_38, keep_4_13, hlt, a1, a2, heq, Int.natCast_nonneg, wrap_nat i (by omega)]
      rw [exL_head]
      simp only [go_sem, Nat.reduceLT, reduceIte, reduceCtorEq, Nat.reduceEqDiff, apply_ite (Option.map (outOf _)), Nat.reduceBEq, Nat.reduceAdd, Nat.reduceSub, Nat.reduceLeDiff, Nat.reduceMul, good_10, good_8, good_21, good_11, ev_len_sl ty_descOf_23, good_15, good_17, good_22, good_19, ev_len_sl ty_descOf_22, ev_indexAddr ty_descOf_22, ty_szOf_38, ty_shapeT_38, keep_4_13]
      exact ih

set_option maxHeartbeats 8000000 in
theorem NestBack_den (l : List Tok) (hll : l.length ≤ reachBytes) (hn : ∀ t ∈ l, I64 t.n) :
    den K 4 [L (l.map Tok.enc)] [] = some (.ret (B true) []) := by
  have okl : lenOk l.length := by unfold lenOk; simp [reachBytes] at hll; omega
  have hf := fixed2_den
  have m1 := SmallT_den l 300 okl
  refine den_run rfl Tryd.func4 rfl Tryd.ntmps4 ⟨by simp, by simp [LK]⟩ ?_
  have hr : Tryd.f4.results = #[.tmp 2] := rfl
  cases h1 : smallT l 300
  · rw [h1] at m1
    simp only [go_sem, Nat.reduceLT, reduceIte, reduceCtorEq, Nat.reduceEqDiff, apply_ite (Option.map (outOf _)), Nat.reduceBEq, Nat.reduceAdd, Nat.reduceSub, Nat.reduceLeDiff, Nat.reduceMul, good_10, good_8, good_21, good_11, ev_len_sl ty_descOf_23, good_15, good_17, good_22, good_19, ev_len_sl ty_descOf_22, ev_indexAddr ty_descOf_22, ty_szOf_38, ty_shapeT_38, keep_4_13, hr, hf, m1]
  rw [h1] at m1
  obtain ⟨n1, n2⟩ := smallT_lens h1
  have hok : ∀ t ∈ l, TokOk t := fun t ht => ⟨hn t ht, by have := n2 t ht; omega⟩
  have m2 := Mays_den l okl hok
  cases h2 : l.all Tk.may
  · rw [h2] at m2
    simp only [go_sem, Nat.reduceLT, reduceIte, reduceCtorEq, Nat.reduceEqDiff, apply_ite (Option.map (outOf _)), Nat.reduceBEq, Nat.reduceAdd, Nat.reduceSub, Nat.reduceLeDiff, Nat.reduceMul, good_10, good_8, good_21, good_11, ev_len_sl ty_descOf_23, good_15, good_17, good_22, good_19, ev_len_sl ty_descOf_22, ev_indexAddr ty_descOf_22, ty_szOf_38, ty_shapeT_38, keep_4_13, hr, hf, m1, m2]
  rw [h2] at m2
  have d1 := Parse_den l (by omega) 60
  have e20 : ((20 : Int) != 0) = true := by decide
  have e00 : ((0 : Int) != 0) = false := by decide
  have e22 : ((20 : Int) != 20) = false := by decide
  cases h3 : Ne.parse 60 l with
  | none =>
    rw [parse_none (deep := 60) (by decide) (by decide) h3] at d1
    have z0 : ((0 : Nat) : Int) = 0 := rfl
    simp only [go_sem, Nat.reduceLT, reduceIte, reduceCtorEq, Nat.reduceEqDiff, apply_ite (Option.map (outOf _)), Nat.reduceBEq, Nat.reduceAdd, Nat.reduceSub, Nat.reduceLeDiff, Nat.reduceMul, good_10, good_8, good_21, good_11, ev_len_sl ty_descOf_23, good_15, good_17, good_22, good_19, ev_len_sl ty_descOf_22, ev_indexAddr ty_descOf_22, ty_szOf_38, ty_shapeT_38, keep_4_13, hr, hf, m1, m2, d1, e20, e00, TV.flat, z0]
  | some vs =>
    rw [parse_some (deep := 60) (by decide) (by decide) h3] at d1
    obtain ⟨g1, p1, s1, c, hc⟩ := Ne.parse_good h3
    have fl := Ne.flat_size vs
    have fd := Ne.depth_size vs
    have d2 := Flat_den vs (by omega)
    have d3 := Depth_den vs (by omega)
    have hpf := Ne.parse_flat g1 (max (Ne.depth vs) 1)
    rw [if_pos (by omega)] at hpf
    have d4 := Parse_den (Ne.flat vs) (by omega) ((max (Ne.depth vs) 1 : Nat) : Int)
    rw [parse_some (by omega) (by omega) (by rw [Int.toNat_natCast]; exact hpf)] at d4
    have d5 := VSame_den vs (by omega) vs (by omega)
    unfold VSameDen at d5
    rw [same_refl] at d5
    have hmay : Ne.may 60 Tk.may vs = true := by
      rw [Ne.may_iff]
      refine ⟨fun t ht => ?_, g1, p1⟩
      rw [hc] at ht
      rcases List.mem_append.1 ht with ht | ht
      · exact List.all_eq_true.1 h2 t ht
      · obtain ⟨k, _, rfl⟩ := List.mem_map.1 ht
        exact may_close k
    have d6 := MayV_den vs (by omega) (fun t ht => by
      rw [hc] at ht
      rcases List.mem_append.1 ht with ht | ht
      · exact hok t ht
      · obtain ⟨k, _, rfl⟩ := List.mem_map.1 ht
        exact delim_ok _)
    rw [hmay] at d6
    have hlen : l.length ≤ (Ne.flat vs).length := by rw [hc, List.length_append]; omega
    have e5 : decide (((Ne.flat vs).length : Int) < (l.length : Int)) = false := decide_eq_false (by omega)
    have mx1 : max ((Ne.depth vs : Nat) : Int) 1 = ((max (Ne.depth vs) 1 : Nat) : Int) := by omega
    have wr : IntKind.i64.wrap ((Ne.depth vs : Int) - 1) = (Ne.depth vs : Int) - 1 := IntWalk.i64_in _ (by omega)
    have hlp := back_loop l (c.map Ne.closeT) (by omega) l.length 0 (by omega) (Nat.zero_le _)
    rw [← hc] at hlp
    conv at hlp in loopAt _ _ => whnf
    obtain ⟨o, S', w, rfl, hnt⟩ := hlp
    by_cases hn1 : 1 < Ne.depth vs
    · have e6 : decide ((1 : Int) < (Ne.depth vs : Int)) = true := decide_eq_true (by omega)
      have mx2 : max ((Ne.depth vs : Int) - 1) 1 = ((Ne.depth vs - 1 : Nat) : Int) := by omega
      have hpn := Ne.parse_flat g1 (Ne.depth vs - 1)
      rw [if_neg (by omega)] at hpn
      have d7 := Parse_den (Ne.flat vs) (by omega) ((Ne.depth vs - 1 : Nat) : Int)
      rw [parse_none (by omega) (by omega) (by rw [Int.toNat_natCast]; exact hpn)] at d7
      simp only [go_sem, Nat.reduceLT, reduceIte, reduceCtorEq, Nat.reduceEqDiff, apply_ite (Option.map (outOf _)), Nat.reduceBEq, Nat.reduceAdd, Nat.reduceSub, Nat.reduceLeDiff, Nat.reduceMul, good_10, good_8, good_21, good_11, ev_len_sl ty_descOf_23, good_15, good_17, good_22, good_19, ev_len_sl ty_descOf_22, ev_indexAddr ty_descOf_22, ty_szOf_38, ty_shapeT_38, keep_4_13, hr, hf, m1, m2, d1, d2, d3, d4, d5, d6, d7, e20, e00, e22, e5, e6, mx1, mx2, wr, max_two, TV.flat]
      rw [exL_head]
      simp only [go_sem, Nat.reduceLT, reduceIte, reduceCtorEq, Nat.reduceEqDiff, apply_ite (Option.map (outOf _)), Nat.reduceBEq, Nat.reduceAdd, Nat.reduceSub, Nat.reduceLeDiff, Nat.reduceMul, good_10, good_8, good_21, good_11, ev_len_sl ty_descOf_23, good_15, good_17, good_22, good_19, ev_len_sl ty_descOf_22, ev_indexAddr ty_descOf_22, ty_szOf_38, ty_shapeT_38, keep_4_13]
      erw [w]
      simp only [go_sem, Nat.reduceLT, reduceIte, reduceCtorEq, Nat.reduceEqDiff, apply_ite (Option.map (outOf _)), Nat.reduceBEq, Nat.reduceAdd, Nat.reduceSub, Nat.reduceLeDiff, Nat.reduceMul, good_10, good_8, good_21, good_11, ev_len_sl ty_descOf_23, good_15, good_17, good_22, good_19, ev_len_sl ty_descOf_22, ev_indexAddr ty_descOf_22, ty_szOf_38, ty_shapeT_38, keep_4_13, hr, hnt]
    · have e6 : decide ((1 : Int) < (Ne.depth vs : Int)) = false := decide_eq_false (by omega)
      have mx2 : max ((Ne.depth vs : Int) - 1) 1 = 1 := by omega
      have d7 := Parse_den (Ne.flat vs) (by omega) 1
      have hp1 := Ne.parse_flat g1 1
      rw [if_pos (by omega)] at hp1
      rw [parse_some (deep := 1) (by decide) (by decide) hp1] at d7
      simp only [go_sem, Nat.reduceLT, reduceIte, reduceCtorEq, Nat.reduceEqDiff, apply_ite (Option.map (outOf _)), Nat.reduceBEq, Nat.reduceAdd, Nat.reduceSub, Nat.reduceLeDiff, Nat.reduceMul, good_10, good_8, good_21, good_11, ev_len_sl ty_descOf_23, good_15, good_17, good_22, good_19, ev_len_sl ty_descOf_22, ev_indexAddr ty_descOf_22, ty_szOf_38, ty_shapeT_38, keep_4_13, hr, hf, m1, m2, d1, d2, d3, d4, d5, d6, d7, e20, e00, e22, e5, e6, mx1, mx2, wr, max_two, TV.flat]
      rw [exL_head]
      simp only [go_sem, Nat.reduceLT, reduceIte, reduceCtorEq, Nat.reduceEqDiff, apply_ite (Option.map (outOf _)), Nat.reduceBEq, Nat.reduceAdd, Nat.reduceSub, Nat.reduceLeDiff, Nat.reduceMul, good_10, good_8, good_21, good_11, ev_len_sl ty_descOf_23, good_15, good_17, good_22, good_19, ev_len_sl ty_descOf_22, ev_indexAddr ty_descOf_22, ty_szOf_38, ty_shapeT_38, keep_4_13]
      erw [w]
      simp only [go_sem, Nat.reduceLT, reduceIte, reduceCtorEq, Nat.reduceEqDiff, apply_ite (Option.map (outOf _)), Nat.reduceBEq, Nat.reduceAdd, Nat.reduceSub, Nat.reduceLeDiff, Nat.reduceMul, good_10, good_8, good_21, good_11, ev_len_sl ty_descOf_23, good_15, good_17, good_22, good_19, ev_len_sl ty_descOf_22, ev_indexAddr ty_descOf_22, ty_szOf_38, ty_shapeT_38, keep_4_13, hr, hnt]
end Go.Abs

namespace Go.Abs
open Go Go.Proofs
set_option maxRecDepth 100000
theorem NestBack_args (pss : List (List PV)) (h : All2 (fun t p => ∃ n, TyP Tryd.prog n t p) Tryd.f4.params.toList pss) :
    den K 4 (List.zipWith (argOf Tryd.prog) Tryd.f4.params.toList pss) [] = some (.ret (.c (.pv (.bool true))) []) := by
  have hp : Tryd.f4.params.toList = [22] := rfl
  rw [hp] at h ⊢
  refine args1 h fun n p h1 e => ?_
  subst e
  obtain ⟨l, rfl, hll, hl⟩ := ty_toks h1
  simp only [List.zipWith_cons_cons, List.zipWith_nil_left, argOf_toks]
  exact NestBack_den l hll (fun t ht => (hl t ht).2.1)
end Go.Abs
