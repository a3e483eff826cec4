/-
  WHAT THE FUNCTIONS COMPUTE, layer 4, the program's reader of selectors: sels.whole, the numbers of an nth, whole; an attribute.
  WHAT THE FUNCTIONS COMPUTE, layer 2: the document's reader of values.
  WHAT THE DOCUMENT'S ANSWER COMPUTES, layer 1: classes of bytes, names, comments, strings.
  WHAT THE DOCUMENT'S ANSWER COMPUTES, layer 1: digits, a token's text.
-/
import Derived.Test.YtlomcifkckgneaaGreatDoorQa6
import Derived.Test.YtlomcifkckgneaaGreatDoorQa7
import Derived.Test.YtlomcifkckgneaaGreatDoorQa8
set_option linter.unusedSimpArgs false
set_option linter.unusedVariables false
namespace Go.Abs
open Go Go.Proofs
set_option maxRecDepth 10000
attribute [local go_sem] exL_seq exL_region exL_cond exL_block exL_scope exL_ret exL_skip exL_exit runRegion runOps stepOp guardA absOp takeOver opd avOf cvOf St.degAt St.put okPV okVal okAV absBin intBin strBin boolBin setBoxes if_true Bool.false_eq_true if_false Option.map_some Option.map_none Option.bind_some Option.bind_none thenO outOf upd List.toList_toArray isOwn steal appArgs mvB fullAt absFull inApps AV.deg CV.deg AV.gv AV.isIter absNext some_bne some_beqN List.length_nil List.length_cons List.filterMap_cons List.filterMap_nil beq_iff_eq List.getElem?_cons_zero List.getElem?_cons_succ Option.getD_some K_hook hookB Bool.false_and Bool.and_false Bool.and_self K_P K_own absCall doCall getBoxes lend back idx dedup AV.ren CV.ren TV.ren AV.ptrs CV.ptrs zipBox AV.flat CV.flat absLoad absStore cellsOfAV setAt newBox markB bldTypes absFieldAddr absField absExtract absAssert noAssert absMkIface ifcOf CV.pv? content pushHead ownT fillCells reps pvs chunks enterSt leave resOf resVars resVar outBoxes lentOnly TV.deg TV.av LK CV.plain CV.noBld nilBin absUn bound List.map_cons List.map_nil List.all_cons List.all_nil List.any_cons List.any_nil List.contains_cons List.contains_nil List.elem_cons List.elem_nil List.cons_append List.nil_append List.append_nil List.flatMap_cons List.flatMap_nil List.zip_cons_cons List.zip_nil_left List.zip_nil_right List.take_succ_cons List.take_zero List.take_nil List.drop_succ_cons List.drop_zero List.drop_nil List.isEmpty_nil List.isEmpty_cons Bool.and_true Bool.true_and Bool.or_true Bool.true_or Bool.or_false Bool.false_or Bool.not_true Bool.not_false Nat.add_zero Nat.zero_add Option.isNone_none Option.isNone_some Option.getD_none true_and and_true not_true_eq_false not_false_eq_true decide_true decide_false Nat.le_refl and_self Bool.not_eq_true Nat.sub_self or_true true_or Option.some.injEq List.length_map List.nil_eq and_false false_and AV.live CV.live CV.liveIn K_keep firstReg Option.orElse_some Option.orElse_none head keepSlots keepBoxes Int.lt_irrefl List.length_append ite_self memOK logOps opKey lentBoxes Key.clash Key.sees Key.writes Nat.lt_irrefl gt_iff_lt nobox_at bot_at false_or or_false beq_self_eq_true Bool.true_beq Bool.false_beq
abbrev P1 : AV := .c (.loc 100001 0)
abbrev P2 : AV := .c (.loc 100002 0)
theorem encL_empty (m : List Val) : (encL m).isEmpty = m.isEmpty := by cases m <;> rfl
theorem whole2_ret {g : Nat} (hg : goods.contains g = true) {l : List Val} (hl : l.length ≤ 100000000) {a a' b b' : List CV} (ha : ∀ f, a.map (CV.ren f) = a) (ha' : ∀ f, a'.map (CV.ren f) = a') (hb : ∀ f, b.map (CV.ren f) = b) (hb' : ∀ f, b'.map (CV.ren f) = b') {v : AV} {m : List Val}
    (h : den K g [P0, P1, P2] [rdB (Sl.trim l), a, b] = some (.ret v [rdB m, a', b'])) :
    den K 37 [L (encL l), .c (.fn g [(100000, 0), (100001, 0)])] [a, b] = some (.ret (I (if m.isEmpty then 0 else 40)) [a', b']) := by
  have hT := TrimS_den l hl
  rw [den_plan (K := K) (F := wholeP goods.contains) rfl rfl]
  have e1 : lend (wholeL [a, b]) 0 = some 100000 := rfl
  have e2 : lend (wholeL [a, b]) 100000 = some 100001 := rfl
  have e3 : lend (wholeL [a, b]) 100001 = some 100002 := rfl
  unfold wholeP
  simp only [Plan.run, hT, hg, if_true, List.map_cons, List.map_nil, AV.deg, CV.deg, AV.ren, CV.ren, e1, e2, e3, ha, hb, h, CV.pv?, wholeB, ha', hb', encL_empty]
theorem whole2_pan {g : Nat} (hg : goods.contains g = true) {l : List Val} (hl : l.length ≤ 100000000) {a a' b b' : List CV} (ha : ∀ f, a.map (CV.ren f) = a) (ha' : ∀ f, a'.map (CV.ren f) = a') (hb : ∀ f, b.map (CV.ren f) = b) (hb' : ∀ f, b'.map (CV.ren f) = b') {m : List Val}
    (h : den K g [P0, P1, P2] [rdB (Sl.trim l), a, b] = some (.pan wrongC [rdB m, a', b'])) :
    den K 37 [L (encL l), .c (.fn g [(100000, 0), (100001, 0)])] [a, b] = some (.ret (I 40) [a', b']) := by
  have hT := TrimS_den l hl
  rw [den_plan (K := K) (F := wholeP goods.contains) rfl rfl]
  have e1 : lend (wholeL [a, b]) 0 = some 100000 := rfl
  have e2 : lend (wholeL [a, b]) 100000 = some 100001 := rfl
  have e3 : lend (wholeL [a, b]) 100001 = some 100002 := rfl
  unfold wholeP
  simp only [Plan.run, hT, hg, if_true, List.map_cons, List.map_nil, AV.deg, CV.deg, AV.ren, CV.ren, e1, e2, e3, ha, hb, h, wholeB, ha', hb']
abbrev iB (n : Int) : List CV := [.pv (.int .i64 n)]
theorem few_dec (n : Int) : (decide (-9999 ≤ n) && decide (n ≤ 9999)) = decide (Sl.few n) := by
  rw [Bool.eq_iff_iff, Bool.and_eq_true, decide_eq_true_eq, decide_eq_true_eq, decide_eq_true_eq]; rfl
set_option maxHeartbeats 4000000 in
theorem NthC_den (l : List Val) (hl : l.length ≤ 70000000) (ht : TSh l) : match Sl.nthP l with
    | some (x, m) => if Sl.few x.1 ∧ Sl.few x.2 then den K 38 [P0, P1, P2] [rdB l, iB 0, iB 0] = some (.ret (.tup []) [rdB m, iB x.1, iB x.2])
      else den K 38 [P0, P1, P2] [rdB l, iB 0, iB 0] = some (.pan wrongC [rdB m, iB x.1, iB x.2])
    | none => ∃ m, den K 38 [P0, P1, P2] [rdB l, iB 0, iB 0] = some (.pan wrongC [rdB m, iB 0, iB 0]) := by
  have hr : Tryz.f38.results = #[] := rfl
  have h := rdNth_den l hl ht
  have hmy := must_yes
  have hmn := must_no
  cases hn : Sl.nthP l with
  | none =>
    rw [hn] at h
    obtain ⟨m, h⟩ := rdOut_none h
    refine ⟨m, ?_⟩
    simp only [rdB, iB] at h ⊢
    refine den_run rfl rfl Tryz.func38 rfl Tryz.ntmps38 ⟨by simp, by simp [LK]⟩ ?_
    simp only [go_sem, Nat.reduceLT, reduceIte, reduceCtorEq, Nat.reduceEqDiff, apply_ite (Option.map (outOf _)), Nat.reduceBEq, Nat.reduceAdd, Nat.reduceSub, Nat.reduceLeDiff, Nat.reduceMul, good_39, ty_szOf_3, ty_shapeT_3, good_41, good_40, hr, h, TV.flat]
  | some y =>
    obtain ⟨⟨a, b⟩, m⟩ := y
    rw [hn] at h
    have h := rdOut_some h
    have ha := inN_den a
    have hb := inN_den b
    rw [few_dec] at ha hb
    simp only
    by_cases fa : Sl.few a
    · rw [decide_eq_true fa] at ha
      by_cases fb : Sl.few b
      · rw [decide_eq_true fb] at hb
        rw [if_pos ⟨fa, fb⟩]
        simp only [rdB, iB, twoI] at h ⊢
        refine den_run rfl rfl Tryz.func38 rfl Tryz.ntmps38 ⟨by simp, by simp [LK]⟩ ?_
        simp only [go_sem, Nat.reduceLT, reduceIte, reduceCtorEq, Nat.reduceEqDiff, apply_ite (Option.map (outOf _)), Nat.reduceBEq, Nat.reduceAdd, Nat.reduceSub, Nat.reduceLeDiff, Nat.reduceMul, good_39, ty_szOf_3, ty_shapeT_3, good_41, good_40, hr, h, ha, hb, hmy, TV.flat]
      · rw [decide_eq_false fb] at hb
        rw [if_neg fun h => fb h.2]
        simp only [rdB, iB, twoI] at h ⊢
        refine den_run rfl rfl Tryz.func38 rfl Tryz.ntmps38 ⟨by simp, by simp [LK]⟩ ?_
        simp only [go_sem, Nat.reduceLT, reduceIte, reduceCtorEq, Nat.reduceEqDiff, apply_ite (Option.map (outOf _)), Nat.reduceBEq, Nat.reduceAdd, Nat.reduceSub, Nat.reduceLeDiff, Nat.reduceMul, good_39, ty_szOf_3, ty_shapeT_3, good_41, good_40, hr, h, ha, hb, hmn, TV.flat]
    · rw [decide_eq_false fa] at ha
      rw [if_neg fun h => fa h.1]
      simp only [rdB, iB, twoI] at h ⊢
      refine den_run rfl rfl Tryz.func38 rfl Tryz.ntmps38 ⟨by simp, by simp [LK]⟩ ?_
      simp only [go_sem, Nat.reduceLT, reduceIte, reduceCtorEq, Nat.reduceEqDiff, apply_ite (Option.map (outOf _)), Nat.reduceBEq, Nat.reduceAdd, Nat.reduceSub, Nat.reduceLeDiff, Nat.reduceMul, good_39, ty_szOf_3, ty_shapeT_3, good_41, good_40, hr, h, ha, hmn, TV.flat]
theorem iB_ren (n : Int) (f : Nat → Option Nat) : (iB n).map (CV.ren f) = iB n := rfl
theorem nthM_P (v : List Val) : Sl.nthM v = match Sl.nthP (Sl.trim v) with
    | some (x, []) => if Sl.few x.1 ∧ Sl.few x.2 then some x else none
    | _ => none := by
  unfold Sl.nthM
  rw [← Sl.nth_whole v]
  unfold Sl.wholeP
  generalize Sl.nthP (Sl.trim v) = y
  match y with
  | none => rfl
  | some (x, []) => rfl
  | some (x, _ :: _) => rfl
set_option maxHeartbeats 4000000 in
theorem NthS_den (l : List Val) (hl : l.length ≤ 70000000) (ht : TSh l) : den K 13 [L (encL l)] [] = some (.ret (nthA (Sl.nthM l)) []) := by
  have hr : Tryz.f13.results = #[.cell 2 3, .cell 3 3, .tmp 4] := rfl
  have hc := NthC_den (Sl.trim l) (Nat.le_trans (Sl.trim_length l) hl) (ts_trim ht)
  have hg : goods.contains 38 = true := by kernel_rfl
  have key : ∀ (a b : Int) (e : Int), den K 37 [L (encL l), .c (.fn 38 [(100000, 0), (100001, 0)])] [iB 0, iB 0] = some (.ret (I e) [iB a, iB b]) → (e = 0 ∨ e = 40) →
      den K 13 [L (encL l)] [] = some (.ret (nthA (if e = 0 then some (a, b) else none)) []) := by
    intro a b e h he
    simp only [iB] at h
    rcases he with rfl | rfl
    · rw [if_pos rfl]
      unfold nthA
      refine den_run rfl rfl Tryz.func13 rfl Tryz.ntmps13 ⟨by simp, by simp [LK]⟩ ?_
      simp only [go_sem, Nat.reduceLT, reduceIte, reduceCtorEq, Nat.reduceEqDiff, apply_ite (Option.map (outOf _)), Nat.reduceBEq, Nat.reduceAdd, Nat.reduceSub, Nat.reduceLeDiff, Nat.reduceMul, ty_shapeT_3, ty_zeroCells_3, good_37, ty_szOf_3, hr, h, TV.flat, capsTo, locs, arr_nil, bne_self_eq_false, Int.reduceBEq, Int.reduceBNe, Int.reduceEq]
      first | rw [reach_if2] | rw [reach_if]
      rotate_left
      · kernel_rfl
      simp only [go_sem, Nat.reduceLT, reduceIte, reduceCtorEq, Nat.reduceEqDiff, apply_ite (Option.map (outOf _)), Nat.reduceBEq, Nat.reduceAdd, Nat.reduceSub, Nat.reduceLeDiff, Nat.reduceMul, ty_shapeT_3, ty_zeroCells_3, good_37, ty_szOf_3, hr, h]
    · rw [if_neg (by decide)]
      unfold nthA
      refine den_run rfl rfl Tryz.func13 rfl Tryz.ntmps13 ⟨by simp, by simp [LK]⟩ ?_
      simp only [go_sem, Nat.reduceLT, reduceIte, reduceCtorEq, Nat.reduceEqDiff, apply_ite (Option.map (outOf _)), Nat.reduceBEq, Nat.reduceAdd, Nat.reduceSub, Nat.reduceLeDiff, Nat.reduceMul, ty_shapeT_3, ty_zeroCells_3, good_37, ty_szOf_3, hr, h, TV.flat, capsTo, locs, arr_nil, bne_self_eq_false, Int.reduceBEq, Int.reduceBNe, Int.reduceEq]
  rw [nthM_P]
  cases hn : Sl.nthP (Sl.trim l) with
  | none =>
    rw [hn] at hc
    obtain ⟨m, hc⟩ := hc
    exact key 0 0 40 (whole2_pan hg (by omega) (iB_ren _) (iB_ren _) (iB_ren _) (iB_ren _) hc) (.inr rfl)
  | some y =>
    obtain ⟨⟨a, b⟩, m⟩ := y
    rw [hn] at hc
    simp only at hc
    by_cases hf : Sl.few a ∧ Sl.few b
    · rw [if_pos hf] at hc
      have hw := whole2_ret hg (by omega) (iB_ren _) (iB_ren _) (iB_ren _) (iB_ren _) hc
      cases m with
      | nil =>
        have := key a b 0 hw (.inl rfl)
        simp only
        rw [if_pos hf]
        exact this
      | cons v m => exact key a b 40 hw (.inr rfl)
    · rw [if_neg hf] at hc
      have hw := whole2_pan hg (by omega) (iB_ren _) (iB_ren _) (iB_ren _) (iB_ren _) hc
      have := key a b 40 hw (.inr rfl)
      cases m with
      | nil =>
        simp only
        rw [if_neg hf]
        exact this
      | cons v m => exact this
end Go.Abs
namespace Go.Abs
open Go Go.Proofs
set_option maxRecDepth 10000
attribute [local go_sem] exL_seq exL_region exL_cond exL_block exL_scope exL_ret exL_skip exL_exit runRegion runOps stepOp guardA absOp takeOver opd avOf cvOf St.degAt St.put okPV okVal okAV absBin intBin strBin boolBin setBoxes if_true Bool.false_eq_true if_false Option.map_some Option.map_none Option.bind_some Option.bind_none thenO outOf upd List.toList_toArray isOwn steal appArgs mvB fullAt absFull inApps AV.deg CV.deg AV.gv AV.isIter absNext some_bne some_beqN List.length_nil List.length_cons List.filterMap_cons List.filterMap_nil beq_iff_eq List.getElem?_cons_zero List.getElem?_cons_succ Option.getD_some K_hook hookB Bool.false_and Bool.and_false Bool.and_self K_P K_own absCall doCall getBoxes lend back idx dedup AV.ren CV.ren TV.ren AV.ptrs CV.ptrs zipBox AV.flat CV.flat absLoad absStore cellsOfAV setAt newBox markB bldTypes absFieldAddr absField absExtract absAssert noAssert absMkIface ifcOf CV.pv? content pushHead ownT fillCells reps pvs chunks enterSt leave resOf resVars resVar outBoxes lentOnly TV.deg TV.av LK CV.plain CV.noBld nilBin absUn bound List.map_cons List.map_nil List.all_cons List.all_nil List.any_cons List.any_nil List.contains_cons List.contains_nil List.elem_cons List.elem_nil List.cons_append List.nil_append List.append_nil List.flatMap_cons List.flatMap_nil List.zip_cons_cons List.zip_nil_left List.zip_nil_right List.take_succ_cons List.take_zero List.take_nil List.drop_succ_cons List.drop_zero List.drop_nil List.isEmpty_nil List.isEmpty_cons Bool.and_true Bool.true_and Bool.or_true Bool.true_or Bool.or_false Bool.false_or Bool.not_true Bool.not_false Nat.add_zero Nat.zero_add Option.isNone_none Option.isNone_some Option.getD_none true_and and_true not_true_eq_false not_false_eq_true decide_true decide_false Nat.le_refl and_self Bool.not_eq_true Nat.sub_self or_true true_or Option.some.injEq List.length_map List.nil_eq and_false false_and AV.live CV.live CV.liveIn K_keep firstReg Option.orElse_some Option.orElse_none head keepSlots keepBoxes Int.lt_irrefl List.length_append ite_self memOK logOps opKey lentBoxes Key.clash Key.sees Key.writes Nat.lt_irrefl gt_iff_lt nobox_at bot_at false_or or_false beq_self_eq_true Bool.true_beq Bool.false_beq
abbrev tokCv (t : Tok) : List CV := [.pv (.int .i64 t.kind), .pv (.str t.text), .pv (.int .i64 t.n)]
theorem last_den (t : Tok) (kind : Int) : den K 113 [.agg (tokCv t), I kind] [] = some (.ret (B (decide (t = Ne.closeT kind))) []) := by
  have hv : decide (t = Ne.closeT kind) = ((t.kind == 7) && ((t.text == [Ne.closeC kind]) && ((t.n == 0) && true))) := (tok_beq t (Ne.closeT kind)).symm
  rw [hv]
  refine den_run rfl rfl Tryz.func113 rfl Tryz.ntmps113 ⟨by simp, by simp [LK]⟩ ?_
  have hr : Tryz.f113.results = #[.tmp 4] := rfl
  cases b1 : (t.kind == 7)
  · have e1 : (t.kind != 7) = true := by rw [bne, b1]; rfl
    simp only [go_sem, Nat.reduceLT, reduceIte, reduceCtorEq, Nat.reduceEqDiff, apply_ite (Option.map (outOf _)), Nat.reduceBEq, Nat.reduceAdd, Nat.reduceSub, Nat.reduceLeDiff, Nat.reduceMul, ty_fieldOff_91_0, ty_szOf_3, ty_shapeT_3, ty_fieldOff_91_2, ty_fieldOff_91_1, ty_szOf_9, ty_shapeT_9, hr, e1]
  · have e1 : (t.kind != 7) = false := by rw [bne, b1]; rfl
    cases b2 : (t.n == 0)
    · have e2 : (t.n != 0) = true := by rw [bne, b2]; rfl
      simp only [go_sem, Nat.reduceLT, reduceIte, reduceCtorEq, Nat.reduceEqDiff, apply_ite (Option.map (outOf _)), Nat.reduceBEq, Nat.reduceAdd, Nat.reduceSub, Nat.reduceLeDiff, Nat.reduceMul, ty_fieldOff_91_0, ty_szOf_3, ty_shapeT_3, ty_fieldOff_91_2, ty_fieldOff_91_1, ty_szOf_9, ty_shapeT_9, hr, e1, e2]
    · have e2 : (t.n != 0) = false := by rw [bne, b2]; rfl
      by_cases h3 : kind = 3
      · subst h3
        have c3 : Ne.closeC 3 = 93 := rfl
        simp only [go_sem, Nat.reduceLT, reduceIte, reduceCtorEq, Nat.reduceEqDiff, apply_ite (Option.map (outOf _)), Nat.reduceBEq, Nat.reduceAdd, Nat.reduceSub, Nat.reduceLeDiff, Nat.reduceMul, ty_fieldOff_91_0, ty_szOf_3, ty_shapeT_3, ty_fieldOff_91_2, ty_fieldOff_91_1, ty_szOf_9, ty_shapeT_9, hr, e1, e2, c3]
      · have e3 : (kind == 3) = false := by rw [beq_eq_false_iff_ne]; exact h3
        by_cases h4 : kind = 4
        · subst h4
          have c4 : Ne.closeC 4 = 125 := rfl
          have e43 : ((4 : Int) == 3) = false := by decide
          have n43 : ((4 : Int) = 3) = False := by decide
          simp only [go_sem, Nat.reduceLT, reduceIte, reduceCtorEq, Nat.reduceEqDiff, apply_ite (Option.map (outOf _)), Nat.reduceBEq, Nat.reduceAdd, Nat.reduceSub, Nat.reduceLeDiff, Nat.reduceMul, ty_fieldOff_91_0, ty_szOf_3, ty_shapeT_3, ty_fieldOff_91_2, ty_fieldOff_91_1, ty_szOf_9, ty_shapeT_9, hr, e1, e2, c4, e43, n43]
        · have e4 : (kind == 4) = false := by rw [beq_eq_false_iff_ne]; exact h4
          have c : Ne.closeC kind = 41 := by simp [Ne.closeC, h3, h4]
          simp only [go_sem, Nat.reduceLT, reduceIte, reduceCtorEq, Nat.reduceEqDiff, apply_ite (Option.map (outOf _)), Nat.reduceBEq, Nat.reduceAdd, Nat.reduceSub, Nat.reduceLeDiff, Nat.reduceMul, ty_fieldOff_91_0, ty_szOf_3, ty_shapeT_3, ty_fieldOff_91_2, ty_fieldOff_91_1, ty_szOf_9, ty_shapeT_9, hr, e1, e2, e3, e4, c]
theorem open_den (t : Tok) : den K 114 [.agg (tokCv t)] [] = some (.ret (I (Ne.opens t)) []) := by
  obtain ⟨k, s, n⟩ := t
  have hv : Ne.opens ⟨k, s, n⟩ = opensL k s n := rfl
  rw [hv]
  unfold opensL
  refine den_run rfl rfl Tryz.func114 rfl Tryz.ntmps114 ⟨by simp, by simp [LK]⟩ ?_
  have hr : Tryz.f114.results = #[.tmp 2] := rfl
  by_cases h2 : k = 2
  · subst h2
    simp only [go_sem, Nat.reduceLT, reduceIte, reduceCtorEq, Nat.reduceEqDiff, apply_ite (Option.map (outOf _)), Nat.reduceBEq, Nat.reduceAdd, Nat.reduceSub, Nat.reduceLeDiff, Nat.reduceMul, ty_fieldOff_91_0, ty_szOf_3, ty_shapeT_3, ty_fieldOff_91_2, ty_fieldOff_91_1, ty_szOf_9, ty_shapeT_9, hr]
  · rw [if_neg h2]
    have e2 : (k == 2) = false := by rw [beq_eq_false_iff_ne]; exact h2
    by_cases h7 : k = 7
    · subst h7
      have e72 : ((7 : Int) == 2) = false := by decide
      have n72 : ((7 : Int) = 2) = False := by decide
      have e77 : ((7 : Int) != 7) = false := by decide
      by_cases hn : n = 0
      · subst hn
        have e0 : ((0 : Int) != 0) = false := by decide
        rw [if_pos ⟨rfl, rfl⟩]
        by_cases a1 : s = [40]
        · subst a1
          simp only [go_sem, Nat.reduceLT, reduceIte, reduceCtorEq, Nat.reduceEqDiff, apply_ite (Option.map (outOf _)), Nat.reduceBEq, Nat.reduceAdd, Nat.reduceSub, Nat.reduceLeDiff, Nat.reduceMul, ty_fieldOff_91_0, ty_szOf_3, ty_shapeT_3, ty_fieldOff_91_2, ty_fieldOff_91_1, ty_szOf_9, ty_shapeT_9, hr, e72, n72, e77, e0]
        · have b1 : (s == [40]) = false := by rw [beq_eq_false_iff_ne]; exact a1
          rw [if_neg a1]
          by_cases a2 : s = [91]
          · subst a2
            simp only [go_sem, Nat.reduceLT, reduceIte, reduceCtorEq, Nat.reduceEqDiff, apply_ite (Option.map (outOf _)), Nat.reduceBEq, Nat.reduceAdd, Nat.reduceSub, Nat.reduceLeDiff, Nat.reduceMul, ty_fieldOff_91_0, ty_szOf_3, ty_shapeT_3, ty_fieldOff_91_2, ty_fieldOff_91_1, ty_szOf_9, ty_shapeT_9, hr, e72, n72, e77, e0, b1]
          · have b2 : (s == [91]) = false := by rw [beq_eq_false_iff_ne]; exact a2
            rw [if_neg a2]
            by_cases a3 : s = [123]
            · subst a3
              simp only [go_sem, Nat.reduceLT, reduceIte, reduceCtorEq, Nat.reduceEqDiff, apply_ite (Option.map (outOf _)), Nat.reduceBEq, Nat.reduceAdd, Nat.reduceSub, Nat.reduceLeDiff, Nat.reduceMul, ty_fieldOff_91_0, ty_szOf_3, ty_shapeT_3, ty_fieldOff_91_2, ty_fieldOff_91_1, ty_szOf_9, ty_shapeT_9, hr, e72, n72, e77, e0, b1, b2]
            · have b3 : (s == [123]) = false := by rw [beq_eq_false_iff_ne]; exact a3
              rw [if_neg a3]
              simp only [go_sem, Nat.reduceLT, reduceIte, reduceCtorEq, Nat.reduceEqDiff, apply_ite (Option.map (outOf _)), Nat.reduceBEq, Nat.reduceAdd, Nat.reduceSub, Nat.reduceLeDiff, Nat.reduceMul, ty_fieldOff_91_0, ty_szOf_3, ty_shapeT_3, ty_fieldOff_91_2, ty_fieldOff_91_1, ty_szOf_9, ty_shapeT_9, hr, e72, n72, e77, e0, b1, b2, b3]
      · have e0 : (n != 0) = true := by rw [bne_iff_ne]; exact hn
        rw [if_neg (fun h => hn h.2)]
        simp only [go_sem, Nat.reduceLT, reduceIte, reduceCtorEq, Nat.reduceEqDiff, apply_ite (Option.map (outOf _)), Nat.reduceBEq, Nat.reduceAdd, Nat.reduceSub, Nat.reduceLeDiff, Nat.reduceMul, ty_fieldOff_91_0, ty_szOf_3, ty_shapeT_3, ty_fieldOff_91_2, ty_fieldOff_91_1, ty_szOf_9, ty_shapeT_9, hr, e72, n72, e77, e0]
    · have e7 : (k != 7) = true := by rw [bne_iff_ne]; exact h7
      rw [if_neg (fun h => h7 h.1)]
      simp only [go_sem, Nat.reduceLT, reduceIte, reduceCtorEq, Nat.reduceEqDiff, apply_ite (Option.map (outOf _)), Nat.reduceBEq, Nat.reduceAdd, Nat.reduceSub, Nat.reduceLeDiff, Nat.reduceMul, ty_fieldOff_91_0, ty_szOf_3, ty_shapeT_3, ty_fieldOff_91_2, ty_fieldOff_91_1, ty_szOf_9, ty_shapeT_9, hr, e2, e7]
theorem opens_posT {t : Tok} (h : Ne.opens t ≠ 0) : 0 < Ne.opens t := by
  rcases Ne.opens_vals t with h1 | h1 | h1 | h1 | h1 <;> omega
abbrev u2H (l : List Tok) (kind left : Int) (i : Nat) (e : Nat) (acc : List Val) : St :=
  { sl := upd (upd (upd (upd (upd bot 9 (.c (.loc 9 0))) 8 (.c (.loc 8 0))) 3 (I left)) 2 (I kind)) 0 (L (l.map Tok.enc)), bx := upd (upd nobox 9 (some [.own e (encL acc), .pv (.int .i64 i), .pv (.bool false)])) 8 (some [.own 0 [], .pv (.int .i64 0), .pv (.bool false)]), nt := 76 }
noncomputable def ulp2 : Code := .loop (loopAt Tryz.f64 2)
def Ret2 (x : List (List PV)) (j : Int) (bad : Bool) (o : Out) (S : St) : Prop := o = .ret ∧ S.sl 8 = .c (.loc 8 0) ∧ S.bx 8 = some [.pv (.sl x), .pv (.int .i64 j), .pv (.bool bad)]
theorem u2_nil (l : List Tok) (kind left : Int) (e : Nat) (acc : List Val) :
    Ends (exL K 64 ulp2 (u2H l kind left l.length e acc)) fun o S => o = .exit 0 ∧ S.nt = 76 ∧ S.sl 8 = .c (.loc 8 0) ∧ S.sl 9 = .c (.loc 9 0) ∧ S.bx 8 = some [.own 0 [], .pv (.int .i64 0), .pv (.bool false)] ∧ S.bx 9 = some [.own e (encL acc), .pv (.int .i64 l.length), .pv (.bool false)] := by
  unfold ulp2
  conv in loopAt _ _ => whnf
  rw [exL_loop]
  simp only [go_sem, Nat.reduceLT, reduceIte, reduceCtorEq, Nat.reduceEqDiff, apply_ite (Option.map (outOf _)), Nat.reduceBEq, Nat.reduceAdd, Nat.reduceSub, Nat.reduceLeDiff, Nat.reduceMul, ty_shapeT_102, ty_zeroCells_102, ev_build ty_zeroCells_102 ty_placesOf_102, ty_szOf_102, ty_fieldOff_102_1, ty_szOf_3, ty_shapeT_3, ev_len_sl ty_descOf_60, ev_indexAddr ty_descOf_60, ty_szOf_91, ty_shapeT_91, ty_zeroCells_91, good_113, good_114, ev_build ty_zeroCells_93 ty_placesOf_93, ty_zeroCells_93, ty_szOf_93, ty_fieldOff_102_2, ty_szOf_4, good_64, ty_shapeT_4, ty_fieldOff_102_0, ty_szOf_23, ty_shapeT_23, ty_fieldOff_93_1, ty_shapeT_93, ev_buildSlice (len := 1) ty_descOf_23 ty_szOf_93 ty_zeroCells_93 ⟨rfl, by decide, by decide⟩, ev_append ty_appInfo_23, ev_appNew_sl ty_descOf_23, keep_64_2, ends_some]
theorem tok_at (l : List Tok) (i : Nat) (t : Tok) (h : l[i]? = some t) : (l.map Tok.enc)[(i : Int).toNat]? = some [.int .i64 t.kind, .str t.text, .int .i64 t.n] := by
  simp [h, Tok.enc]
theorem u2_last (l : List Tok) (kind left : Int) (i : Nat) (e : Nat) (acc : List Val) (t : Tok) (hi : l[i]? = some t) (hl : l.length ≤ 100000000) (h : Ne.isLast kind t = true) :
    Ends (exL K 64 ulp2 (u2H l kind left i e acc)) (Ret2 (encL acc) ((i + 1 : Nat) : Int) false) := by
  have hil : i < l.length := (List.getElem?_eq_some_iff.1 hi).1
  have hlt : decide ((i : Int) < (l.length : Int)) = true := decide_eq_true (by omega)
  have hget := tok_at l i t hi
  have hw : IntKind.i64.wrap ((i : Int) + 1) = ((i + 1 : Nat) : Int) := wrap_nat i (by omega)
  unfold Ne.isLast at h
  rw [Bool.and_eq_true] at h
  obtain ⟨e1, e2⟩ := h
  have hld := last_den t kind
  rw [e2] at hld
  unfold ulp2 Ret2
  conv in loopAt _ _ => whnf
  rw [exL_loop]
  simp only [go_sem, Nat.reduceLT, reduceIte, reduceCtorEq, Nat.reduceEqDiff, apply_ite (Option.map (outOf _)), Nat.reduceBEq, Nat.reduceAdd, Nat.reduceSub, Nat.reduceLeDiff, Nat.reduceMul, ty_shapeT_102, ty_zeroCells_102, ev_build ty_zeroCells_102 ty_placesOf_102, ty_szOf_102, ty_fieldOff_102_1, ty_szOf_3, ty_shapeT_3, ev_len_sl ty_descOf_60, ev_indexAddr ty_descOf_60, ty_szOf_91, ty_shapeT_91, ty_zeroCells_91, good_113, good_114, ev_build ty_zeroCells_93 ty_placesOf_93, ty_zeroCells_93, ty_szOf_93, ty_fieldOff_102_2, ty_szOf_4, good_64, ty_shapeT_4, ty_fieldOff_102_0, ty_szOf_23, ty_shapeT_23, ty_fieldOff_93_1, ty_shapeT_93, ev_buildSlice (len := 1) ty_descOf_23 ty_szOf_93 ty_zeroCells_93 ⟨rfl, by decide, by decide⟩, ev_append ty_appInfo_23, ev_appNew_sl ty_descOf_23, keep_64_2, hlt, hget, Int.natCast_nonneg, hw, e1, hld, ends_some]
theorem snoc_valK (acc : List Val) (k : Int) (t : Tok) (vs : List Val) : encL acc ++ [[.int .i64 k, .int .i64 t.kind, .str t.text, .int .i64 t.n, .sl (encL vs)]] = encL (acc ++ [.mk k t vs]) := by
  rw [encL_app]; rfl
theorem snoc_valN (acc : List Val) (k : Int) (t : Tok) : encL acc ++ [[.int .i64 k, .int .i64 t.kind, .str t.text, .int .i64 t.n, .sl []]] = encL (acc ++ [.mk k t []]) := by
  rw [encL_app]; rfl
theorem snoc_val0 (acc : List Val) (k : Int) (vs : List Val) : encL acc ++ [[.int .i64 k, .int .i64 0, .str [], .int .i64 0, .sl (encL vs)]] = encL (acc ++ [.mk k Ne.tok0 vs]) := by
  rw [encL_app]; rfl
set_option maxHeartbeats 4000000 in
theorem u2_tok (l : List Tok) (kind left : Int) (i : Nat) (e : Nat) (acc : List Val) (t : Tok) (hi : l[i]? = some t) (hl : l.length ≤ 100000000) (h : Ne.isLast kind t = false) (he : e = 93 ∨ acc = []) (hacc : acc.length < 100000000) (h0 : Ne.opens t = 0) :
    exL K 64 ulp2 (u2H l kind left i e acc) = exL K 64 ulp2 (u2H l kind left (i + 1) 93 (acc ++ [.mk 1 t []])) := by
  have hil : i < l.length := (List.getElem?_eq_some_iff.1 hi).1
  have hlt : decide ((i : Int) < (l.length : Int)) = true := decide_eq_true (by omega)
  have hget := tok_at l i t hi
  have hw : IntKind.i64.wrap ((i : Int) + 1) = ((i + 1 : Nat) : Int) := wrap_nat i (by omega)
  have hld := last_den t kind
  have hop := open_den t
  rw [h0] at hop
  have hown : e = 93 ∨ (encL acc).isEmpty = true := by
    rcases he with rfl | rfl
    · exact .inl rfl
    · exact .inr rfl
  have hlim : acc.length + 1 < appLim := by unfold appLim; omega
  have hlv := lens_valsK acc
  unfold ulp2
  conv in loopAt _ _ => whnf
  conv in loopAt _ _ => whnf
  conv in exL _ _ _ (u2H l kind left i e acc) => rw [exL_loop]
  unfold Ne.isLast at h
  cases e1 : decide (0 < kind)
  · simp only [go_sem, Nat.reduceLT, reduceIte, reduceCtorEq, Nat.reduceEqDiff, apply_ite (Option.map (outOf _)), Nat.reduceBEq, Nat.reduceAdd, Nat.reduceSub, Nat.reduceLeDiff, Nat.reduceMul, ty_shapeT_102, ty_zeroCells_102, ev_build ty_zeroCells_102 ty_placesOf_102, ty_szOf_102, ty_fieldOff_102_1, ty_szOf_3, ty_shapeT_3, ev_len_sl ty_descOf_60, ev_indexAddr ty_descOf_60, ty_szOf_91, ty_shapeT_91, ty_zeroCells_91, good_113, good_114, ev_build ty_zeroCells_93 ty_placesOf_93, ty_zeroCells_93, ty_szOf_93, ty_fieldOff_102_2, ty_szOf_4, good_64, ty_shapeT_4, ty_fieldOff_102_0, ty_szOf_23, ty_shapeT_23, ty_fieldOff_93_1, ty_shapeT_93, ev_buildSlice (len := 1) ty_descOf_23 ty_szOf_93 ty_zeroCells_93 ⟨rfl, by decide, by decide⟩, ev_append ty_appInfo_23, ev_appNew_sl ty_descOf_23, keep_64_2, hlt, hget, Int.natCast_nonneg, hw, e1, hop, encL_len, hlim, hlv, lens_valK, hown, snoc_valN]
    rw [exL_head]
    simp only [go_sem, Nat.reduceLT, reduceIte, reduceCtorEq, Nat.reduceEqDiff, apply_ite (Option.map (outOf _)), Nat.reduceBEq, Nat.reduceAdd, Nat.reduceSub, Nat.reduceLeDiff, Nat.reduceMul, ty_shapeT_102, ty_zeroCells_102, ev_build ty_zeroCells_102 ty_placesOf_102, ty_szOf_102, ty_fieldOff_102_1, ty_szOf_3, ty_shapeT_3, ev_len_sl ty_descOf_60, ev_indexAddr ty_descOf_60, ty_szOf_91, ty_shapeT_91, ty_zeroCells_91, good_113, good_114, ev_build ty_zeroCells_93 ty_placesOf_93, ty_zeroCells_93, ty_szOf_93, ty_fieldOff_102_2, ty_szOf_4, good_64, ty_shapeT_4, ty_fieldOff_102_0, ty_szOf_23, ty_shapeT_23, ty_fieldOff_93_1, ty_shapeT_93, ev_buildSlice (len := 1) ty_descOf_23 ty_szOf_93 ty_zeroCells_93 ⟨rfl, by decide, by decide⟩, ev_append ty_appInfo_23, ev_appNew_sl ty_descOf_23, keep_64_2]
  · rw [e1, Bool.true_and] at h
    rw [h] at hld
    simp only [go_sem, Nat.reduceLT, reduceIte, reduceCtorEq, Nat.reduceEqDiff, apply_ite (Option.map (outOf _)), Nat.reduceBEq, Nat.reduceAdd, Nat.reduceSub, Nat.reduceLeDiff, Nat.reduceMul, ty_shapeT_102, ty_zeroCells_102, ev_build ty_zeroCells_102 ty_placesOf_102, ty_szOf_102, ty_fieldOff_102_1, ty_szOf_3, ty_shapeT_3, ev_len_sl ty_descOf_60, ev_indexAddr ty_descOf_60, ty_szOf_91, ty_shapeT_91, ty_zeroCells_91, good_113, good_114, ev_build ty_zeroCells_93 ty_placesOf_93, ty_zeroCells_93, ty_szOf_93, ty_fieldOff_102_2, ty_szOf_4, good_64, ty_shapeT_4, ty_fieldOff_102_0, ty_szOf_23, ty_shapeT_23, ty_fieldOff_93_1, ty_shapeT_93, ev_buildSlice (len := 1) ty_descOf_23 ty_szOf_93 ty_zeroCells_93 ⟨rfl, by decide, by decide⟩, ev_append ty_appInfo_23, ev_appNew_sl ty_descOf_23, keep_64_2, hlt, hget, Int.natCast_nonneg, hw, e1, hld, hop, encL_len, hlim, hlv, lens_valK, hown, snoc_valN]
    rw [exL_head]
    simp only [go_sem, Nat.reduceLT, reduceIte, reduceCtorEq, Nat.reduceEqDiff, apply_ite (Option.map (outOf _)), Nat.reduceBEq, Nat.reduceAdd, Nat.reduceSub, Nat.reduceLeDiff, Nat.reduceMul, ty_shapeT_102, ty_zeroCells_102, ev_build ty_zeroCells_102 ty_placesOf_102, ty_szOf_102, ty_fieldOff_102_1, ty_szOf_3, ty_shapeT_3, ev_len_sl ty_descOf_60, ev_indexAddr ty_descOf_60, ty_szOf_91, ty_shapeT_91, ty_zeroCells_91, good_113, good_114, ev_build ty_zeroCells_93 ty_placesOf_93, ty_zeroCells_93, ty_szOf_93, ty_fieldOff_102_2, ty_szOf_4, good_64, ty_shapeT_4, ty_fieldOff_102_0, ty_szOf_23, ty_shapeT_23, ty_fieldOff_93_1, ty_shapeT_93, ev_buildSlice (len := 1) ty_descOf_23 ty_szOf_93 ty_zeroCells_93 ⟨rfl, by decide, by decide⟩, ev_append ty_appInfo_23, ev_appNew_sl ty_descOf_23, keep_64_2]
set_option maxHeartbeats 4000000 in
theorem u2_in (l : List Tok) (kind : Int) (n : Nat) (i j : Nat) (e : Nat) (acc : List Val) (t : Tok) (vs : List Val) (hi : l[i]? = some t) (hl : l.length ≤ 100000000) (hn : n < 1000) (h : Ne.isLast kind t = false) (he : e = 93 ∨ acc = []) (hacc : acc.length < 100000000) (h0 : Ne.opens t ≠ 0)
    (hin : den K 64 [L (l.map Tok.enc), I ((i + 1 : Nat) : Int), I (Ne.opens t), I n] [] = some (.ret (.agg [.pv (.sl (encL vs)), .pv (.int .i64 j), .pv (.bool false)]) [])) :
    exL K 64 ulp2 (u2H l kind ((n + 1 : Nat) : Int) i e acc) = exL K 64 ulp2 (u2H l kind ((n + 1 : Nat) : Int) j 93 (acc ++ [.mk (Ne.opens t) (if Ne.opens t = 5 then t else Ne.tok0) vs])) := by
  have hil : i < l.length := (List.getElem?_eq_some_iff.1 hi).1
  have hlt : decide ((i : Int) < (l.length : Int)) = true := decide_eq_true (by omega)
  have hget := tok_at l i t hi
  have hw : IntKind.i64.wrap ((i : Int) + 1) = ((i + 1 : Nat) : Int) := wrap_nat i (by omega)
  have hld := last_den t kind
  have hop := open_den t
  have hpos : decide (0 < Ne.opens t) = true := decide_eq_true (opens_posT h0)
  have hown : e = 93 ∨ (encL acc).isEmpty = true := by
    rcases he with rfl | rfl
    · exact .inl rfl
    · exact .inr rfl
  have hlim : acc.length + 1 < appLim := by unfold appLim; omega
  have hlv := lens_valsK acc
  have hl0 : (((n + 1 : Nat) : Int) == 0) = false := by rw [beq_eq_false_iff_ne]; omega
  have hwl : IntKind.i64.wrap (((n + 1 : Nat) : Int) - 1) = (n : Int) := by rw [IntWalk.i64_in _ (by omega)]; omega
  unfold ulp2
  conv in loopAt _ _ => whnf
  conv in loopAt _ _ => whnf
  conv in exL _ _ _ (u2H l kind _ i e acc) => rw [exL_loop]
  by_cases h5 : Ne.opens t = 5
  · have e5 : (Ne.opens t == 5) = true := by rw [beq_iff_eq]; exact h5
    rw [if_pos h5]
    unfold Ne.isLast at h
    cases e1 : decide (0 < kind)
    · simp only [go_sem, Nat.reduceLT, reduceIte, reduceCtorEq, Nat.reduceEqDiff, apply_ite (Option.map (outOf _)), Nat.reduceBEq, Nat.reduceAdd, Nat.reduceSub, Nat.reduceLeDiff, Nat.reduceMul, ty_shapeT_102, ty_zeroCells_102, ev_build ty_zeroCells_102 ty_placesOf_102, ty_szOf_102, ty_fieldOff_102_1, ty_szOf_3, ty_shapeT_3, ev_len_sl ty_descOf_60, ev_indexAddr ty_descOf_60, ty_szOf_91, ty_shapeT_91, ty_zeroCells_91, good_113, good_114, ev_build ty_zeroCells_93 ty_placesOf_93, ty_zeroCells_93, ty_szOf_93, ty_fieldOff_102_2, ty_szOf_4, good_64, ty_shapeT_4, ty_fieldOff_102_0, ty_szOf_23, ty_shapeT_23, ty_fieldOff_93_1, ty_shapeT_93, ev_buildSlice (len := 1) ty_descOf_23 ty_szOf_93 ty_zeroCells_93 ⟨rfl, by decide, by decide⟩, ev_append ty_appInfo_23, ev_appNew_sl ty_descOf_23, keep_64_2, hlt, hget, Int.natCast_nonneg, hw, e1, hld, hop, hpos, encL_len, hlim, hlv, lens_valK, hown, hin, hwl, hl0, e5, snoc_valK]
      rw [exL_head]
      simp only [go_sem, Nat.reduceLT, reduceIte, reduceCtorEq, Nat.reduceEqDiff, apply_ite (Option.map (outOf _)), Nat.reduceBEq, Nat.reduceAdd, Nat.reduceSub, Nat.reduceLeDiff, Nat.reduceMul, ty_shapeT_102, ty_zeroCells_102, ev_build ty_zeroCells_102 ty_placesOf_102, ty_szOf_102, ty_fieldOff_102_1, ty_szOf_3, ty_shapeT_3, ev_len_sl ty_descOf_60, ev_indexAddr ty_descOf_60, ty_szOf_91, ty_shapeT_91, ty_zeroCells_91, good_113, good_114, ev_build ty_zeroCells_93 ty_placesOf_93, ty_zeroCells_93, ty_szOf_93, ty_fieldOff_102_2, ty_szOf_4, good_64, ty_shapeT_4, ty_fieldOff_102_0, ty_szOf_23, ty_shapeT_23, ty_fieldOff_93_1, ty_shapeT_93, ev_buildSlice (len := 1) ty_descOf_23 ty_szOf_93 ty_zeroCells_93 ⟨rfl, by decide, by decide⟩, ev_append ty_appInfo_23, ev_appNew_sl ty_descOf_23, keep_64_2]
    · rw [e1, Bool.true_and] at h
      rw [h] at hld
      simp only [go_sem, Nat.reduceLT, reduceIte, reduceCtorEq, Nat.reduceEqDiff, apply_ite (Option.map (outOf _)), Nat.reduceBEq, Nat.reduceAdd, Nat.reduceSub, Nat.reduceLeDiff, Nat.reduceMul, ty_shapeT_102, ty_zeroCells_102, ev_build ty_zeroCells_102 ty_placesOf_102, ty_szOf_102, ty_fieldOff_102_1, ty_szOf_3, ty_shapeT_3, ev_len_sl ty_descOf_60, ev_indexAddr ty_descOf_60, ty_szOf_91, ty_shapeT_91, ty_zeroCells_91, good_113, good_114, ev_build ty_zeroCells_93 ty_placesOf_93, ty_zeroCells_93, ty_szOf_93, ty_fieldOff_102_2, ty_szOf_4, good_64, ty_shapeT_4, ty_fieldOff_102_0, ty_szOf_23, ty_shapeT_23, ty_fieldOff_93_1, ty_shapeT_93, ev_buildSlice (len := 1) ty_descOf_23 ty_szOf_93 ty_zeroCells_93 ⟨rfl, by decide, by decide⟩, ev_append ty_appInfo_23, ev_appNew_sl ty_descOf_23, keep_64_2, hlt, hget, Int.natCast_nonneg, hw, e1, hld, hop, hpos, encL_len, hlim, hlv, lens_valK, hown, hin, hwl, hl0, e5, snoc_valK]
      rw [exL_head]
      simp only [go_sem, Nat.reduceLT, reduceIte, reduceCtorEq, Nat.reduceEqDiff, apply_ite (Option.map (outOf _)), Nat.reduceBEq, Nat.reduceAdd, Nat.reduceSub, Nat.reduceLeDiff, Nat.reduceMul, ty_shapeT_102, ty_zeroCells_102, ev_build ty_zeroCells_102 ty_placesOf_102, ty_szOf_102, ty_fieldOff_102_1, ty_szOf_3, ty_shapeT_3, ev_len_sl ty_descOf_60, ev_indexAddr ty_descOf_60, ty_szOf_91, ty_shapeT_91, ty_zeroCells_91, good_113, good_114, ev_build ty_zeroCells_93 ty_placesOf_93, ty_zeroCells_93, ty_szOf_93, ty_fieldOff_102_2, ty_szOf_4, good_64, ty_shapeT_4, ty_fieldOff_102_0, ty_szOf_23, ty_shapeT_23, ty_fieldOff_93_1, ty_shapeT_93, ev_buildSlice (len := 1) ty_descOf_23 ty_szOf_93 ty_zeroCells_93 ⟨rfl, by decide, by decide⟩, ev_append ty_appInfo_23, ev_appNew_sl ty_descOf_23, keep_64_2]
  · have e5 : (Ne.opens t == 5) = false := by rw [beq_eq_false_iff_ne]; exact h5
    rw [if_neg h5]
    unfold Ne.isLast at h
    cases e1 : decide (0 < kind)
    · simp only [go_sem, Nat.reduceLT, reduceIte, reduceCtorEq, Nat.reduceEqDiff, apply_ite (Option.map (outOf _)), Nat.reduceBEq, Nat.reduceAdd, Nat.reduceSub, Nat.reduceLeDiff, Nat.reduceMul, ty_shapeT_102, ty_zeroCells_102, ev_build ty_zeroCells_102 ty_placesOf_102, ty_szOf_102, ty_fieldOff_102_1, ty_szOf_3, ty_shapeT_3, ev_len_sl ty_descOf_60, ev_indexAddr ty_descOf_60, ty_szOf_91, ty_shapeT_91, ty_zeroCells_91, good_113, good_114, ev_build ty_zeroCells_93 ty_placesOf_93, ty_zeroCells_93, ty_szOf_93, ty_fieldOff_102_2, ty_szOf_4, good_64, ty_shapeT_4, ty_fieldOff_102_0, ty_szOf_23, ty_shapeT_23, ty_fieldOff_93_1, ty_shapeT_93, ev_buildSlice (len := 1) ty_descOf_23 ty_szOf_93 ty_zeroCells_93 ⟨rfl, by decide, by decide⟩, ev_append ty_appInfo_23, ev_appNew_sl ty_descOf_23, keep_64_2, hlt, hget, Int.natCast_nonneg, hw, e1, hld, hop, hpos, encL_len, hlim, hlv, lens_valK, hown, hin, hwl, hl0, e5, snoc_val0]
      rw [exL_head]
      simp only [go_sem, Nat.reduceLT, reduceIte, reduceCtorEq, Nat.reduceEqDiff, apply_ite (Option.map (outOf _)), Nat.reduceBEq, Nat.reduceAdd, Nat.reduceSub, Nat.reduceLeDiff, Nat.reduceMul, ty_shapeT_102, ty_zeroCells_102, ev_build ty_zeroCells_102 ty_placesOf_102, ty_szOf_102, ty_fieldOff_102_1, ty_szOf_3, ty_shapeT_3, ev_len_sl ty_descOf_60, ev_indexAddr ty_descOf_60, ty_szOf_91, ty_shapeT_91, ty_zeroCells_91, good_113, good_114, ev_build ty_zeroCells_93 ty_placesOf_93, ty_zeroCells_93, ty_szOf_93, ty_fieldOff_102_2, ty_szOf_4, good_64, ty_shapeT_4, ty_fieldOff_102_0, ty_szOf_23, ty_shapeT_23, ty_fieldOff_93_1, ty_shapeT_93, ev_buildSlice (len := 1) ty_descOf_23 ty_szOf_93 ty_zeroCells_93 ⟨rfl, by decide, by decide⟩, ev_append ty_appInfo_23, ev_appNew_sl ty_descOf_23, keep_64_2]
    · rw [e1, Bool.true_and] at h
      rw [h] at hld
      simp only [go_sem, Nat.reduceLT, reduceIte, reduceCtorEq, Nat.reduceEqDiff, apply_ite (Option.map (outOf _)), Nat.reduceBEq, Nat.reduceAdd, Nat.reduceSub, Nat.reduceLeDiff, Nat.reduceMul, ty_shapeT_102, ty_zeroCells_102, ev_build ty_zeroCells_102 ty_placesOf_102, ty_szOf_102, ty_fieldOff_102_1, ty_szOf_3, ty_shapeT_3, ev_len_sl ty_descOf_60, ev_indexAddr ty_descOf_60, ty_szOf_91, ty_shapeT_91, ty_zeroCells_91, good_113, good_114, ev_build ty_zeroCells_93 ty_placesOf_93, ty_zeroCells_93, ty_szOf_93, ty_fieldOff_102_2, ty_szOf_4, good_64, ty_shapeT_4, ty_fieldOff_102_0, ty_szOf_23, ty_shapeT_23, ty_fieldOff_93_1, ty_shapeT_93, ev_buildSlice (len := 1) ty_descOf_23 ty_szOf_93 ty_zeroCells_93 ⟨rfl, by decide, by decide⟩, ev_append ty_appInfo_23, ev_appNew_sl ty_descOf_23, keep_64_2, hlt, hget, Int.natCast_nonneg, hw, e1, hld, hop, hpos, encL_len, hlim, hlv, lens_valK, hown, hin, hwl, hl0, e5, snoc_val0]
      rw [exL_head]
      simp only [go_sem, Nat.reduceLT, reduceIte, reduceCtorEq, Nat.reduceEqDiff, apply_ite (Option.map (outOf _)), Nat.reduceBEq, Nat.reduceAdd, Nat.reduceSub, Nat.reduceLeDiff, Nat.reduceMul, ty_shapeT_102, ty_zeroCells_102, ev_build ty_zeroCells_102 ty_placesOf_102, ty_szOf_102, ty_fieldOff_102_1, ty_szOf_3, ty_shapeT_3, ev_len_sl ty_descOf_60, ev_indexAddr ty_descOf_60, ty_szOf_91, ty_shapeT_91, ty_zeroCells_91, good_113, good_114, ev_build ty_zeroCells_93 ty_placesOf_93, ty_zeroCells_93, ty_szOf_93, ty_fieldOff_102_2, ty_szOf_4, good_64, ty_shapeT_4, ty_fieldOff_102_0, ty_szOf_23, ty_shapeT_23, ty_fieldOff_93_1, ty_shapeT_93, ev_buildSlice (len := 1) ty_descOf_23 ty_szOf_93 ty_zeroCells_93 ⟨rfl, by decide, by decide⟩, ev_append ty_appInfo_23, ev_appNew_sl ty_descOf_23, keep_64_2]
theorem u2_zero (l : List Tok) (kind : Int) (i : Nat) (e : Nat) (acc : List Val) (t : Tok) (hi : l[i]? = some t) (hl : l.length ≤ 100000000) (h : Ne.isLast kind t = false) (h0 : Ne.opens t ≠ 0) :
    Ends (exL K 64 ulp2 (u2H l kind ((0 : Nat) : Int) i e acc)) fun o S => ∃ a b, Ret2 a b true o S := by
  have hil : i < l.length := (List.getElem?_eq_some_iff.1 hi).1
  have hlt : decide ((i : Int) < (l.length : Int)) = true := decide_eq_true (by omega)
  have hget := tok_at l i t hi
  have hw : IntKind.i64.wrap ((i : Int) + 1) = ((i + 1 : Nat) : Int) := wrap_nat i (by omega)
  have hld := last_den t kind
  have hop := open_den t
  have hpos : decide (0 < Ne.opens t) = true := decide_eq_true (opens_posT h0)
  have hl0 : (((0 : Nat) : Int) == 0) = true := by decide
  unfold ulp2 Ret2
  conv in loopAt _ _ => whnf
  rw [exL_loop]
  unfold Ne.isLast at h
  cases e1 : decide (0 < kind)
  · simp only [go_sem, Nat.reduceLT, reduceIte, reduceCtorEq, Nat.reduceEqDiff, apply_ite (Option.map (outOf _)), Nat.reduceBEq, Nat.reduceAdd, Nat.reduceSub, Nat.reduceLeDiff, Nat.reduceMul, ty_shapeT_102, ty_zeroCells_102, ev_build ty_zeroCells_102 ty_placesOf_102, ty_szOf_102, ty_fieldOff_102_1, ty_szOf_3, ty_shapeT_3, ev_len_sl ty_descOf_60, ev_indexAddr ty_descOf_60, ty_szOf_91, ty_shapeT_91, ty_zeroCells_91, good_113, good_114, ev_build ty_zeroCells_93 ty_placesOf_93, ty_zeroCells_93, ty_szOf_93, ty_fieldOff_102_2, ty_szOf_4, good_64, ty_shapeT_4, ty_fieldOff_102_0, ty_szOf_23, ty_shapeT_23, ty_fieldOff_93_1, ty_shapeT_93, ev_buildSlice (len := 1) ty_descOf_23 ty_szOf_93 ty_zeroCells_93 ⟨rfl, by decide, by decide⟩, ev_append ty_appInfo_23, ev_appNew_sl ty_descOf_23, keep_64_2, hlt, hget, Int.natCast_nonneg, hw, e1, hld, hop, hpos, hl0, ends_some]
    exact ⟨_, _, rfl⟩
  · rw [e1, Bool.true_and] at h
    rw [h] at hld
    simp only [go_sem, Nat.reduceLT, reduceIte, reduceCtorEq, Nat.reduceEqDiff, apply_ite (Option.map (outOf _)), Nat.reduceBEq, Nat.reduceAdd, Nat.reduceSub, Nat.reduceLeDiff, Nat.reduceMul, ty_shapeT_102, ty_zeroCells_102, ev_build ty_zeroCells_102 ty_placesOf_102, ty_szOf_102, ty_fieldOff_102_1, ty_szOf_3, ty_shapeT_3, ev_len_sl ty_descOf_60, ev_indexAddr ty_descOf_60, ty_szOf_91, ty_shapeT_91, ty_zeroCells_91, good_113, good_114, ev_build ty_zeroCells_93 ty_placesOf_93, ty_zeroCells_93, ty_szOf_93, ty_fieldOff_102_2, ty_szOf_4, good_64, ty_shapeT_4, ty_fieldOff_102_0, ty_szOf_23, ty_shapeT_23, ty_fieldOff_93_1, ty_shapeT_93, ev_buildSlice (len := 1) ty_descOf_23 ty_szOf_93 ty_zeroCells_93 ⟨rfl, by decide, by decide⟩, ev_append ty_appInfo_23, ev_appNew_sl ty_descOf_23, keep_64_2, hlt, hget, Int.natCast_nonneg, hw, e1, hld, hop, hpos, hl0, ends_some]
    exact ⟨_, _, rfl⟩
theorem u2_bad (l : List Tok) (kind : Int) (n : Nat) (i : Nat) (e : Nat) (acc : List Val) (t : Tok) (hi : l[i]? = some t) (hl : l.length ≤ 100000000) (hn : n < 1000) (h : Ne.isLast kind t = false) (h0 : Ne.opens t ≠ 0) (x : List (List PV)) (j : Int)
    (hin : den K 64 [L (l.map Tok.enc), I ((i + 1 : Nat) : Int), I (Ne.opens t), I n] [] = some (.ret (.agg [.pv (.sl x), .pv (.int .i64 j), .pv (.bool true)]) [])) :
    Ends (exL K 64 ulp2 (u2H l kind ((n + 1 : Nat) : Int) i e acc)) fun o S => ∃ a b, Ret2 a b true o S := by
  have hil : i < l.length := (List.getElem?_eq_some_iff.1 hi).1
  have hlt : decide ((i : Int) < (l.length : Int)) = true := decide_eq_true (by omega)
  have hget := tok_at l i t hi
  have hw : IntKind.i64.wrap ((i : Int) + 1) = ((i + 1 : Nat) : Int) := wrap_nat i (by omega)
  have hld := last_den t kind
  have hop := open_den t
  have hpos : decide (0 < Ne.opens t) = true := decide_eq_true (opens_posT h0)
  have hl0 : (((n + 1 : Nat) : Int) == 0) = false := by rw [beq_eq_false_iff_ne]; omega
  have hwl : IntKind.i64.wrap (((n + 1 : Nat) : Int) - 1) = (n : Int) := by rw [IntWalk.i64_in _ (by omega)]; omega
  unfold ulp2 Ret2
  conv in loopAt _ _ => whnf
  rw [exL_loop]
  unfold Ne.isLast at h
  cases e1 : decide (0 < kind)
  · simp only [go_sem, Nat.reduceLT, reduceIte, reduceCtorEq, Nat.reduceEqDiff, apply_ite (Option.map (outOf _)), Nat.reduceBEq, Nat.reduceAdd, Nat.reduceSub, Nat.reduceLeDiff, Nat.reduceMul, ty_shapeT_102, ty_zeroCells_102, ev_build ty_zeroCells_102 ty_placesOf_102, ty_szOf_102, ty_fieldOff_102_1, ty_szOf_3, ty_shapeT_3, ev_len_sl ty_descOf_60, ev_indexAddr ty_descOf_60, ty_szOf_91, ty_shapeT_91, ty_zeroCells_91, good_113, good_114, ev_build ty_zeroCells_93 ty_placesOf_93, ty_zeroCells_93, ty_szOf_93, ty_fieldOff_102_2, ty_szOf_4, good_64, ty_shapeT_4, ty_fieldOff_102_0, ty_szOf_23, ty_shapeT_23, ty_fieldOff_93_1, ty_shapeT_93, ev_buildSlice (len := 1) ty_descOf_23 ty_szOf_93 ty_zeroCells_93 ⟨rfl, by decide, by decide⟩, ev_append ty_appInfo_23, ev_appNew_sl ty_descOf_23, keep_64_2, hlt, hget, Int.natCast_nonneg, hw, e1, hld, hop, hpos, hl0, hwl, hin, ends_some]
    exact ⟨_, _, rfl⟩
  · rw [e1, Bool.true_and] at h
    rw [h] at hld
    simp only [go_sem, Nat.reduceLT, reduceIte, reduceCtorEq, Nat.reduceEqDiff, apply_ite (Option.map (outOf _)), Nat.reduceBEq, Nat.reduceAdd, Nat.reduceSub, Nat.reduceLeDiff, Nat.reduceMul, ty_shapeT_102, ty_zeroCells_102, ev_build ty_zeroCells_102 ty_placesOf_102, ty_szOf_102, ty_fieldOff_102_1, ty_szOf_3, ty_shapeT_3, ev_len_sl ty_descOf_60, ev_indexAddr ty_descOf_60, ty_szOf_91, ty_shapeT_91, ty_zeroCells_91, good_113, good_114, ev_build ty_zeroCells_93 ty_placesOf_93, ty_zeroCells_93, ty_szOf_93, ty_fieldOff_102_2, ty_szOf_4, good_64, ty_shapeT_4, ty_fieldOff_102_0, ty_szOf_23, ty_shapeT_23, ty_fieldOff_93_1, ty_shapeT_93, ev_buildSlice (len := 1) ty_descOf_23 ty_szOf_93 ty_zeroCells_93 ⟨rfl, by decide, by decide⟩, ev_append ty_appInfo_23, ev_appNew_sl ty_descOf_23, keep_64_2, hlt, hget, Int.natCast_nonneg, hw, e1, hld, hop, hpos, hl0, hwl, hin, ends_some]
    exact ⟨_, _, rfl⟩
def ULoop2 (l : List Tok) (kind : Int) (left : Nat) (i : Nat) (acc : List Val) (o : Out) (S : St) : Prop :=
  match Ne.until_ kind left (l.drop i) with
  | some (vs, rest) => ∃ j : Nat, l.drop j = rest ∧ j ≤ l.length ∧ i ≤ j ∧ (Ret2 (encL (acc ++ vs)) (j : Int) false o S ∨
      (o = .exit 0 ∧ S.nt = 76 ∧ S.sl 8 = .c (.loc 8 0) ∧ S.sl 9 = .c (.loc 9 0) ∧ S.bx 8 = some [.own 0 [], .pv (.int .i64 0), .pv (.bool false)] ∧ ∃ e, S.bx 9 = some [.own e (encL (acc ++ vs)), .pv (.int .i64 j), .pv (.bool false)]))
  | none => ∃ a b, Ret2 a b true o S
def UDen2 (l : List Tok) (kind : Int) (left : Nat) (i : Nat) : Prop :=
  match Ne.until_ kind left (l.drop i) with
  | some (vs, rest) => ∃ j : Nat, l.drop j = rest ∧ j ≤ l.length ∧ i ≤ j ∧ den K 64 [L (l.map Tok.enc), I (i : Int), I kind, I left] [] = some (.ret (.agg [.pv (.sl (encL vs)), .pv (.int .i64 j), .pv (.bool false)]) [])
  | none => ∃ a b, den K 64 [L (l.map Tok.enc), I (i : Int), I kind, I left] [] = some (.ret (.agg [.pv (.sl a), .pv (.int .i64 b), .pv (.bool true)]) [])
theorem u2_den {l : List Tok} {kind : Int} {left i : Nat}
    (h : Ends (exL K 64 ulp2 (u2H l kind left i 0 [])) (ULoop2 l kind left i [])) : UDen2 l kind left i := by
  have hr : Tryz.f64.results = #[.cell 8 102] := rfl
  unfold ulp2 at h
  conv at h in loopAt _ _ => whnf
  obtain ⟨o, S', w, hq⟩ := h
  unfold ULoop2 at hq
  unfold UDen2
  cases hu : Ne.until_ kind left (l.drop i) with
  | some x =>
    obtain ⟨vs, rest⟩ := x
    rw [hu] at hq
    obtain ⟨j, q1, q2, q3, hq⟩ := hq
    refine ⟨j, q1, q2, q3, ?_⟩
    rw [List.nil_append] at hq
    refine den_run rfl rfl Tryz.func64 rfl Tryz.ntmps64 ⟨by simp, by simp [LK]⟩ ?_
    simp only [go_sem, Nat.reduceLT, reduceIte, reduceCtorEq, Nat.reduceEqDiff, apply_ite (Option.map (outOf _)), Nat.reduceBEq, Nat.reduceAdd, Nat.reduceSub, Nat.reduceLeDiff, Nat.reduceMul, ty_shapeT_102, ty_zeroCells_102, ev_build ty_zeroCells_102 ty_placesOf_102, ty_szOf_102, ty_fieldOff_102_1, ty_szOf_3, ty_shapeT_3, ev_len_sl ty_descOf_60, ev_indexAddr ty_descOf_60, ty_szOf_91, ty_shapeT_91, ty_zeroCells_91, good_113, good_114, ev_build ty_zeroCells_93 ty_placesOf_93, ty_zeroCells_93, ty_szOf_93, ty_fieldOff_102_2, ty_szOf_4, good_64, ty_shapeT_4, ty_fieldOff_102_0, ty_szOf_23, ty_shapeT_23, ty_fieldOff_93_1, ty_shapeT_93, ev_buildSlice (len := 1) ty_descOf_23 ty_szOf_93 ty_zeroCells_93 ⟨rfl, by decide, by decide⟩, ev_append ty_appInfo_23, ev_appNew_sl ty_descOf_23, keep_64_2]
    rw [exL_head]
    simp only [go_sem, Nat.reduceLT, reduceIte, reduceCtorEq, Nat.reduceEqDiff, apply_ite (Option.map (outOf _)), Nat.reduceBEq, Nat.reduceAdd, Nat.reduceSub, Nat.reduceLeDiff, Nat.reduceMul, ty_shapeT_102, ty_zeroCells_102, ev_build ty_zeroCells_102 ty_placesOf_102, ty_szOf_102, ty_fieldOff_102_1, ty_szOf_3, ty_shapeT_3, ev_len_sl ty_descOf_60, ev_indexAddr ty_descOf_60, ty_szOf_91, ty_shapeT_91, ty_zeroCells_91, good_113, good_114, ev_build ty_zeroCells_93 ty_placesOf_93, ty_zeroCells_93, ty_szOf_93, ty_fieldOff_102_2, ty_szOf_4, good_64, ty_shapeT_4, ty_fieldOff_102_0, ty_szOf_23, ty_shapeT_23, ty_fieldOff_93_1, ty_shapeT_93, ev_buildSlice (len := 1) ty_descOf_23 ty_szOf_93 ty_zeroCells_93 ⟨rfl, by decide, by decide⟩, ev_append ty_appInfo_23, ev_appNew_sl ty_descOf_23, keep_64_2]
    erw [w]
    rcases hq with ⟨rfl, h1, h2⟩ | ⟨rfl, hn, h8, h9, b8, e, b9⟩
    · simp only [go_sem, Nat.reduceLT, reduceIte, reduceCtorEq, Nat.reduceEqDiff, apply_ite (Option.map (outOf _)), Nat.reduceBEq, Nat.reduceAdd, Nat.reduceSub, Nat.reduceLeDiff, Nat.reduceMul, ty_shapeT_102, ty_zeroCells_102, ev_build ty_zeroCells_102 ty_placesOf_102, ty_szOf_102, ty_fieldOff_102_1, ty_szOf_3, ty_shapeT_3, ev_len_sl ty_descOf_60, ev_indexAddr ty_descOf_60, ty_szOf_91, ty_shapeT_91, ty_zeroCells_91, good_113, good_114, ev_build ty_zeroCells_93 ty_placesOf_93, ty_zeroCells_93, ty_szOf_93, ty_fieldOff_102_2, ty_szOf_4, good_64, ty_shapeT_4, ty_fieldOff_102_0, ty_szOf_23, ty_shapeT_23, ty_fieldOff_93_1, ty_shapeT_93, ev_buildSlice (len := 1) ty_descOf_23 ty_szOf_93 ty_zeroCells_93 ⟨rfl, by decide, by decide⟩, ev_append ty_appInfo_23, ev_appNew_sl ty_descOf_23, keep_64_2, hr, h1, h2]
    · simp only [go_sem, Nat.reduceLT, reduceIte, reduceCtorEq, Nat.reduceEqDiff, apply_ite (Option.map (outOf _)), Nat.reduceBEq, Nat.reduceAdd, Nat.reduceSub, Nat.reduceLeDiff, Nat.reduceMul, ty_shapeT_102, ty_zeroCells_102, ev_build ty_zeroCells_102 ty_placesOf_102, ty_szOf_102, ty_fieldOff_102_1, ty_szOf_3, ty_shapeT_3, ev_len_sl ty_descOf_60, ev_indexAddr ty_descOf_60, ty_szOf_91, ty_shapeT_91, ty_zeroCells_91, good_113, good_114, ev_build ty_zeroCells_93 ty_placesOf_93, ty_zeroCells_93, ty_szOf_93, ty_fieldOff_102_2, ty_szOf_4, good_64, ty_shapeT_4, ty_fieldOff_102_0, ty_szOf_23, ty_shapeT_23, ty_fieldOff_93_1, ty_shapeT_93, ev_buildSlice (len := 1) ty_descOf_23 ty_szOf_93 ty_zeroCells_93 ⟨rfl, by decide, by decide⟩, ev_append ty_appInfo_23, ev_appNew_sl ty_descOf_23, keep_64_2, hr, hn, h8, h9, b8, b9]
  | none =>
    rw [hu] at hq
    obtain ⟨a, b, rfl, h1, h2⟩ := hq
    refine ⟨a, b, ?_⟩
    refine den_run rfl rfl Tryz.func64 rfl Tryz.ntmps64 ⟨by simp, by simp [LK]⟩ ?_
    simp only [go_sem, Nat.reduceLT, reduceIte, reduceCtorEq, Nat.reduceEqDiff, apply_ite (Option.map (outOf _)), Nat.reduceBEq, Nat.reduceAdd, Nat.reduceSub, Nat.reduceLeDiff, Nat.reduceMul, ty_shapeT_102, ty_zeroCells_102, ev_build ty_zeroCells_102 ty_placesOf_102, ty_szOf_102, ty_fieldOff_102_1, ty_szOf_3, ty_shapeT_3, ev_len_sl ty_descOf_60, ev_indexAddr ty_descOf_60, ty_szOf_91, ty_shapeT_91, ty_zeroCells_91, good_113, good_114, ev_build ty_zeroCells_93 ty_placesOf_93, ty_zeroCells_93, ty_szOf_93, ty_fieldOff_102_2, ty_szOf_4, good_64, ty_shapeT_4, ty_fieldOff_102_0, ty_szOf_23, ty_shapeT_23, ty_fieldOff_93_1, ty_shapeT_93, ev_buildSlice (len := 1) ty_descOf_23 ty_szOf_93 ty_zeroCells_93 ⟨rfl, by decide, by decide⟩, ev_append ty_appInfo_23, ev_appNew_sl ty_descOf_23, keep_64_2]
    rw [exL_head]
    simp only [go_sem, Nat.reduceLT, reduceIte, reduceCtorEq, Nat.reduceEqDiff, apply_ite (Option.map (outOf _)), Nat.reduceBEq, Nat.reduceAdd, Nat.reduceSub, Nat.reduceLeDiff, Nat.reduceMul, ty_shapeT_102, ty_zeroCells_102, ev_build ty_zeroCells_102 ty_placesOf_102, ty_szOf_102, ty_fieldOff_102_1, ty_szOf_3, ty_shapeT_3, ev_len_sl ty_descOf_60, ev_indexAddr ty_descOf_60, ty_szOf_91, ty_shapeT_91, ty_zeroCells_91, good_113, good_114, ev_build ty_zeroCells_93 ty_placesOf_93, ty_zeroCells_93, ty_szOf_93, ty_fieldOff_102_2, ty_szOf_4, good_64, ty_shapeT_4, ty_fieldOff_102_0, ty_szOf_23, ty_shapeT_23, ty_fieldOff_93_1, ty_shapeT_93, ev_buildSlice (len := 1) ty_descOf_23 ty_szOf_93 ty_zeroCells_93 ⟨rfl, by decide, by decide⟩, ev_append ty_appInfo_23, ev_appNew_sl ty_descOf_23, keep_64_2]
    erw [w]
    simp only [go_sem, Nat.reduceLT, reduceIte, reduceCtorEq, Nat.reduceEqDiff, apply_ite (Option.map (outOf _)), Nat.reduceBEq, Nat.reduceAdd, Nat.reduceSub, Nat.reduceLeDiff, Nat.reduceMul, ty_shapeT_102, ty_zeroCells_102, ev_build ty_zeroCells_102 ty_placesOf_102, ty_szOf_102, ty_fieldOff_102_1, ty_szOf_3, ty_shapeT_3, ev_len_sl ty_descOf_60, ev_indexAddr ty_descOf_60, ty_szOf_91, ty_shapeT_91, ty_zeroCells_91, good_113, good_114, ev_build ty_zeroCells_93 ty_placesOf_93, ty_zeroCells_93, ty_szOf_93, ty_fieldOff_102_2, ty_szOf_4, good_64, ty_shapeT_4, ty_fieldOff_102_0, ty_szOf_23, ty_shapeT_23, ty_fieldOff_93_1, ty_shapeT_93, ev_buildSlice (len := 1) ty_descOf_23 ty_szOf_93 ty_zeroCells_93 ⟨rfl, by decide, by decide⟩, ev_append ty_appInfo_23, ev_appNew_sl ty_descOf_23, keep_64_2, hr, h1, h2]
end Go.Abs
namespace Go.Abs
open Go Go.Proofs
set_option maxRecDepth 10000
attribute [local go_sem] exL_seq exL_region exL_cond exL_block exL_scope exL_ret exL_skip exL_exit runRegion runOps stepOp guardA absOp takeOver opd avOf cvOf St.degAt St.put okPV okVal okAV absBin intBin strBin boolBin setBoxes if_true Bool.false_eq_true if_false Option.map_some Option.map_none Option.bind_some Option.bind_none thenO outOf upd List.toList_toArray isOwn steal appArgs mvB fullAt absFull inApps AV.deg CV.deg AV.gv AV.isIter absNext some_bne some_beqN List.length_nil List.length_cons List.filterMap_cons List.filterMap_nil beq_iff_eq List.getElem?_cons_zero List.getElem?_cons_succ Option.getD_some K_hook hookB Bool.false_and Bool.and_false Bool.and_self K_P K_own absCall doCall getBoxes lend back idx dedup AV.ren CV.ren TV.ren AV.ptrs CV.ptrs zipBox AV.flat CV.flat absLoad absStore cellsOfAV setAt newBox markB bldTypes absFieldAddr absField absExtract absAssert noAssert absMkIface ifcOf CV.pv? content pushHead ownT fillCells reps pvs chunks enterSt leave resOf resVars resVar outBoxes lentOnly TV.deg TV.av LK CV.plain CV.noBld nilBin absUn bound List.map_cons List.map_nil List.all_cons List.all_nil List.any_cons List.any_nil List.contains_cons List.contains_nil List.elem_cons List.elem_nil List.cons_append List.nil_append List.append_nil List.flatMap_cons List.flatMap_nil List.zip_cons_cons List.zip_nil_left List.zip_nil_right List.take_succ_cons List.take_zero List.take_nil List.drop_succ_cons List.drop_zero List.drop_nil List.isEmpty_nil List.isEmpty_cons Bool.and_true Bool.true_and Bool.or_true Bool.true_or Bool.or_false Bool.false_or Bool.not_true Bool.not_false Nat.add_zero Nat.zero_add Option.isNone_none Option.isNone_some Option.getD_none true_and and_true not_true_eq_false not_false_eq_true decide_true decide_false Nat.le_refl and_self Bool.not_eq_true Nat.sub_self or_true true_or Option.some.injEq List.length_map List.nil_eq and_false false_and AV.live CV.live CV.liveIn K_keep firstReg Option.orElse_some Option.orElse_none head keepSlots keepBoxes Int.lt_irrefl List.length_append ite_self memOK logOps opKey lentBoxes Key.clash Key.sees Key.writes Nat.lt_irrefl gt_iff_lt nobox_at bot_at false_or or_false beq_self_eq_true Bool.true_beq Bool.false_beq
def classI (c : UInt8) : Int := if Tk.begins c then 1 else if Tk.digit c then 2 else if c == 45 then 3 else if Tk.blank c then 4 else 0
def isI (v : Int) : Option Res → Bool
  | some (.ret (.c (.pv (.int .i64 n))) []) => n == v
  | _ => false
theorem isI_iff {v : Int} {r : Option Res} (h : isI v r = true) : r = some (.ret (I v) []) := by
  unfold isI at h
  split at h
  · rename_i n
    have : n = v := by simpa using h
    rw [this]
  · cases h
theorem class_all : (List.range 256).all (fun n => isI (classI (UInt8.ofNat n)) (callN K 5 157 [.c (.pv (.int .u8 (n : Nat)))] [])) = true := by kernel_rfl
theorem class_den (c : UInt8) : den K 157 [U c] [] = some (.ret (I (classI c)) []) := by
  have h := List.all_eq_true.1 class_all c.toNat (List.mem_range.2 c.toNat_lt)
  have h2 := isI_iff h
  rw [UInt8.ofNat_toNat] at h2
  exact den_iff.2 ⟨5, h2⟩
theorem class_facts_all : (List.range 256).all (fun n => let c := UInt8.ofNat n; ((classI c == 1) == Tk.begins c) && ((classI c == 2) == Tk.digit c) && ((classI c == 3) == (c == 45)) && ((classI c == 4) == Tk.blank c) && ((decide (1 ≤ classI c) && decide (classI c ≤ 3)) == Tk.within c)) = true := by kernel_rfl
theorem class_facts (c : UInt8) : (classI c == 1) = Tk.begins c ∧ (classI c == 2) = Tk.digit c ∧ (classI c == 3) = (c == 45) ∧ (classI c == 4) = Tk.blank c ∧ (decide (1 ≤ classI c) && decide (classI c ≤ 3)) = Tk.within c := by
  have h := List.all_eq_true.1 class_facts_all c.toNat (List.mem_range.2 c.toNat_lt)
  simp only [UInt8.ofNat_toNat, Bool.and_eq_true, beq_iff_eq] at h
  obtain ⟨⟨⟨⟨h1, h2⟩, h3⟩, h4⟩, h5⟩ := h
  exact ⟨h1, h2, h3, h4, h5⟩
def atC : List UInt8 → Int
  | [] => -1
  | c :: _ => classI c
theorem atC_facts (l : List UInt8) : (atC l == 1) = Tk.begins (Tk.at0 l) ∧ (atC l == 2) = Tk.digit (Tk.at0 l) ∧ (atC l == 3) = (Tk.at0 l == 45) ∧ (atC l == 4) = Tk.blank (Tk.at0 l) ∧ (decide (1 ≤ atC l) && decide (atC l ≤ 3)) = Tk.within (Tk.at0 l) := by
  cases l with
  | nil => decide
  | cons c r => exact class_facts c
theorem at1_den (s : List UInt8) (i : Nat) (hs : s.length < 4000000000) : den K 116 [T s, I i] [] = some (.ret (I (atC (s.drop i))) []) := by
  refine den_run rfl rfl Tryz.func116 rfl Tryz.ntmps116 ⟨by simp, by simp [LK]⟩ ?_
  have hr : Tryz.f116.results = #[.tmp 4] := rfl
  by_cases h : i < s.length
  · have hlt : decide ((i : Int) < (s.length : Int)) = true := decide_eq_true (by omega)
    have hd := List.drop_eq_getElem_cons h
    have hg : s[i]? = some (s[i]'h) := List.getElem?_eq_getElem h
    generalize s[i]'h = c at hd hg
    rw [hd, atC]
    have hc := class_den c
    simp only [go_sem, Nat.reduceLT, reduceIte, reduceCtorEq, Nat.reduceEqDiff, apply_ite (Option.map (outOf _)), Nat.reduceBEq, Nat.reduceAdd, Nat.reduceSub, Nat.reduceLeDiff, Nat.reduceMul, ev_len_str ty_descOf_9, ev_index ty_descOf_9, good_157, hr, hlt, Int.natCast_nonneg, Int.toNat_natCast, hg, hc]
  · have hlt : decide ((i : Int) < (s.length : Int)) = false := decide_eq_false (by omega)
    rw [List.drop_eq_nil_of_le (by omega), atC]
    simp only [go_sem, Nat.reduceLT, reduceIte, reduceCtorEq, Nat.reduceEqDiff, apply_ite (Option.map (outOf _)), Nat.reduceBEq, Nat.reduceAdd, Nat.reduceSub, Nat.reduceLeDiff, Nat.reduceMul, ev_len_str ty_descOf_9, ev_index ty_descOf_9, good_157, hr, hlt]
theorem Begins_den (s : List UInt8) (i : Nat) (hs : s.length < 4000000000) (hi : i ≤ s.length) : den K 119 [T s, I i] [] = some (.ret (B (Tk.nameB (s.drop i))) []) := by
  have d1 := at1_den s i hs
  have d2 := at1_den s (i + 1) hs
  obtain ⟨f1, _, f3, _, _⟩ := atC_facts (s.drop i)
  obtain ⟨g1, _, g3, _, _⟩ := atC_facts (s.drop (i + 1))
  have ht : (s.drop i).tail = s.drop (i + 1) := List.tail_drop
  unfold Tk.nameB
  rw [ht, ← f1, ← f3, ← g1, ← g3]
  generalize atC (s.drop i) = v at d1
  generalize atC (s.drop (i + 1)) = w at d2
  clear f1 f3 g1 g3 ht
  refine den_run rfl rfl Tryz.func119 rfl Tryz.ntmps119 ⟨by simp, by simp [LK]⟩ ?_
  have hr : Tryz.f119.results = #[.tmp 4] := rfl
  cases b1 : (v == 1)
  · cases b3 : (v == 3)
    · simp only [go_sem, Nat.reduceLT, reduceIte, reduceCtorEq, Nat.reduceEqDiff, apply_ite (Option.map (outOf _)), Nat.reduceBEq, Nat.reduceAdd, Nat.reduceSub, Nat.reduceLeDiff, Nat.reduceMul, good_116, hr, d1, b1, b3]
    · cases c1 : (w == 1)
      · cases c3 : (w == 3) <;> simp only [go_sem, Nat.reduceLT, reduceIte, reduceCtorEq, Nat.reduceEqDiff, apply_ite (Option.map (outOf _)), Nat.reduceBEq, Nat.reduceAdd, Nat.reduceSub, Nat.reduceLeDiff, Nat.reduceMul, good_116, hr, d1, d2, b1, b3, c1, c3, wrap_nat i (by omega)]
      · simp only [go_sem, Nat.reduceLT, reduceIte, reduceCtorEq, Nat.reduceEqDiff, apply_ite (Option.map (outOf _)), Nat.reduceBEq, Nat.reduceAdd, Nat.reduceSub, Nat.reduceLeDiff, Nat.reduceMul, good_116, hr, d1, d2, b1, b3, c1, wrap_nat i (by omega)]
  · simp only [go_sem, Nat.reduceLT, reduceIte, reduceCtorEq, Nat.reduceEqDiff, apply_ite (Option.map (outOf _)), Nat.reduceBEq, Nat.reduceAdd, Nat.reduceSub, Nat.reduceLeDiff, Nat.reduceMul, good_116, hr, d1, b1]
abbrev namesH (s : List UInt8) (i : Nat) : St := { sl := upd (upd bot 1 (I i)) 0 (T s), bx := nobox, nt := 18 }
theorem names_loop (s : List UInt8) (hs : s.length < 4000000000) : ∀ (rest : List UInt8) (i : Nat), s.drop i = rest → i ≤ s.length →
    Ends (exL K 118 (.loop (loopAt Tryz.f118 1)) (namesH s i)) fun o S => o = .exit 0 ∧ S.nt = 18 ∧ S.sl 1 = I (i + Tk.run Tk.within rest : Nat) := by
  intro rest
  induction rest with
  | nil =>
    intro i hd hi
    have d1 := at1_den s i hs
    rw [hd] at d1
    have v0 : atC [] = -1 := rfl
    rw [v0] at d1
    have e0 : decide ((1 : Int) ≤ -1) = false := by decide
    conv in loopAt _ _ => whnf
    rw [exL_loop]
    simp only [go_sem, Nat.reduceLT, reduceIte, reduceCtorEq, Nat.reduceEqDiff, apply_ite (Option.map (outOf _)), Nat.reduceBEq, Nat.reduceAdd, Nat.reduceSub, Nat.reduceLeDiff, Nat.reduceMul, good_116, keep_118_1, ends_some, d1, e0, Tk.run_nil]
  | cons c rest ih =>
    intro i hd hi
    obtain ⟨g1, g2, g3⟩ := drop_cons hd
    have d1 := at1_den s i hs
    rw [hd] at d1
    have v0 : atC (c :: rest) = classI c := rfl
    rw [v0] at d1
    obtain ⟨_, _, _, _, f⟩ := class_facts c
    have ih' := ih (i + 1) g2 (by omega)
    conv at ih' in loopAt _ _ => whnf
    conv in loopAt _ _ => whnf
    rw [exL_loop]
    cases b1 : decide (1 ≤ classI c)
    · rw [b1, Bool.false_and] at f
      have hv : Tk.run Tk.within (c :: rest) = 0 := by rw [Tk.run, ← f]; rfl
      simp only [go_sem, Nat.reduceLT, reduceIte, reduceCtorEq, Nat.reduceEqDiff, apply_ite (Option.map (outOf _)), Nat.reduceBEq, Nat.reduceAdd, Nat.reduceSub, Nat.reduceLeDiff, Nat.reduceMul, good_116, keep_118_1, ends_some, d1, b1, hv]
    · rw [b1, Bool.true_and] at f
      cases b2 : decide (classI c ≤ 3)
      · rw [b2] at f
        have hv : Tk.run Tk.within (c :: rest) = 0 := by rw [Tk.run, ← f]; rfl
        simp only [go_sem, Nat.reduceLT, reduceIte, reduceCtorEq, Nat.reduceEqDiff, apply_ite (Option.map (outOf _)), Nat.reduceBEq, Nat.reduceAdd, Nat.reduceSub, Nat.reduceLeDiff, Nat.reduceMul, good_116, keep_118_1, ends_some, d1, b1, b2, hv]
      · rw [b2] at f
        have hv : i + 1 + Tk.run Tk.within rest = i + Tk.run Tk.within (c :: rest) := by rw [Tk.run, if_pos f.symm]; omega
        rw [hv] at ih'
        simp only [go_sem, Nat.reduceLT, reduceIte, reduceCtorEq, Nat.reduceEqDiff, apply_ite (Option.map (outOf _)), Nat.reduceBEq, Nat.reduceAdd, Nat.reduceSub, Nat.reduceLeDiff, Nat.reduceMul, good_116, keep_118_1, d1, b1, b2, wrap_nat i (by omega)]
        rw [exL_head]
        simp only [go_sem, Nat.reduceLT, reduceIte, reduceCtorEq, Nat.reduceEqDiff, apply_ite (Option.map (outOf _)), Nat.reduceBEq, Nat.reduceAdd, Nat.reduceSub, Nat.reduceLeDiff, Nat.reduceMul, good_116, keep_118_1]
        exact ih'
theorem names_den (s : List UInt8) (i : Nat) (hs : s.length < 4000000000) (hi : i ≤ s.length) : den K 118 [T s, I i] [] = some (.ret (I (i + Tk.run Tk.within (s.drop i) : Nat)) []) := by
  refine den_run rfl rfl Tryz.func118 rfl Tryz.ntmps118 ⟨by simp, by simp [LK]⟩ ?_
  have hr : Tryz.f118.results = #[.tmp 4] := rfl
  have hl := names_loop s hs (s.drop i) i rfl hi
  conv at hl in loopAt _ _ => whnf
  obtain ⟨o, S', w, rfl, hn, h1⟩ := hl
  simp only [go_sem, Nat.reduceLT, reduceIte, reduceCtorEq, Nat.reduceEqDiff, apply_ite (Option.map (outOf _)), Nat.reduceBEq, Nat.reduceAdd, Nat.reduceSub, Nat.reduceLeDiff, Nat.reduceMul, good_116, keep_118_1]
  rw [exL_head]
  simp only [go_sem, Nat.reduceLT, reduceIte, reduceCtorEq, Nat.reduceEqDiff, apply_ite (Option.map (outOf _)), Nat.reduceBEq, Nat.reduceAdd, Nat.reduceSub, Nat.reduceLeDiff, Nat.reduceMul, good_116, keep_118_1]
  erw [w]
  simp only [go_sem, Nat.reduceLT, reduceIte, reduceCtorEq, Nat.reduceEqDiff, apply_ite (Option.map (outOf _)), Nat.reduceBEq, Nat.reduceAdd, Nat.reduceSub, Nat.reduceLeDiff, Nat.reduceMul, good_116, keep_118_1, hr, hn, h1]
abbrev comH (s : List UInt8) (k : Nat) : St := { sl := upd (upd bot 5 (I k)) 0 (T s), bx := nobox, nt := 30 }
theorem com_loop (s : List UInt8) (hs : s.length < 4000000000) : ∀ (rest : List UInt8) (k : Nat), s.drop k = rest → k ≤ s.length →
    Ends (exL K 115 (.loop (loopAt Tryz.f115 2)) (comH s k)) fun o S => (∃ n, Tk.shut rest = some n ∧ o = .ret ∧ S.sl 4 = I (k + n : Nat)) ∨ (Tk.shut rest = none ∧ o = .exit 0 ∧ S.nt = 30 ∧ S.sl 0 = T s) := by
  intro rest
  induction rest with
  | nil =>
    intro k hd hk
    have hin : k = s.length := by
      have := List.drop_eq_nil_iff.1 hd
      omega
    subst hin
    have w1 := wrap_nat s.length (by omega)
    have e0 : decide (((s.length + 1 : Nat) : Int) < (s.length : Int)) = false := decide_eq_false (by omega)
    have hv : Tk.shut [] = none := rfl
    conv in loopAt _ _ => whnf
    rw [exL_loop]
    simp only [go_sem, Nat.reduceLT, reduceIte, reduceCtorEq, Nat.reduceEqDiff, apply_ite (Option.map (outOf _)), Nat.reduceBEq, Nat.reduceAdd, Nat.reduceSub, Nat.reduceLeDiff, Nat.reduceMul, ev_len_str ty_descOf_9, ev_index ty_descOf_9, keep_115_2, ends_some, w1, e0, hv]
  | cons c rest ih =>
    intro k hd hk
    obtain ⟨g1, g2, g3⟩ := drop_cons hd
    have w1 := wrap_nat k (by omega)
    have e42 : ((c.toNat : Int) == 42) = (c == 42) := u8_beq c 42
    cases rest with
    | nil =>
      have hl : k + 1 = s.length := by
        have := List.drop_eq_nil_iff.1 g2
        omega
      have e0 : decide (((k + 1 : Nat) : Int) < (s.length : Int)) = false := decide_eq_false (by omega)
      have hv : Tk.shut [c] = none := by
        rw [Tk.shut, if_neg (fun h => absurd h.2 (by decide))]; rfl
      conv in loopAt _ _ => whnf
      rw [exL_loop]
      simp only [go_sem, Nat.reduceLT, reduceIte, reduceCtorEq, Nat.reduceEqDiff, apply_ite (Option.map (outOf _)), Nat.reduceBEq, Nat.reduceAdd, Nat.reduceSub, Nat.reduceLeDiff, Nat.reduceMul, ev_len_str ty_descOf_9, ev_index ty_descOf_9, keep_115_2, ends_some, w1, e0, hv]
    | cons d rest =>
      obtain ⟨k1, k2, k3⟩ := drop_cons g2
      have e0 : decide (((k + 1 : Nat) : Int) < (s.length : Int)) = true := decide_eq_true (by omega)
      have e47 : ((d.toNat : Int) == 47) = (d == 47) := u8_beq d 47
      have w2 : IntKind.i64.wrap ((k : Int) + 2) = ((k + 2 : Nat) : Int) := by rw [IntWalk.i64_in _ (by omega)]; rfl
      have ih' := ih (k + 1) g2 (by omega)
      conv at ih' in loopAt _ _ => whnf
      conv in loopAt _ _ => whnf
      rw [exL_loop]
      by_cases hc : c = 42 ∧ d = 47
      · have hv : Tk.shut (c :: d :: rest) = some 2 := by rw [Tk.shut, if_pos ⟨hc.1, hc.2⟩]
        have q1 : (c == 42) = true := by simp [hc.1]
        have q2 : (d == 47) = true := by simp [hc.2]
        rw [q1] at e42
        rw [q2] at e47
        simp only [go_sem, Nat.reduceLT, reduceIte, reduceCtorEq, Nat.reduceEqDiff, apply_ite (Option.map (outOf _)), Nat.reduceBEq, Nat.reduceAdd, Nat.reduceSub, Nat.reduceLeDiff, Nat.reduceMul, ev_len_str ty_descOf_9, ev_index ty_descOf_9, keep_115_2, ends_some, w1, w2, e0, hv, g1, k1, e42, e47, Int.natCast_nonneg, Int.toNat_natCast]
        simp
      · have hv : Tk.shut (c :: d :: rest) = (Tk.shut (d :: rest)).map (· + 1) := by rw [Tk.shut, if_neg (show ¬ (c = 42 ∧ Tk.at0 (d :: rest) = 47) from hc)]
        rw [hv]
        have fin : ∀ {r : Option (Out × St)}, Ends r (fun o S => (∃ n, Tk.shut (d :: rest) = some n ∧ o = .ret ∧ S.sl 4 = I (k + 1 + n : Nat)) ∨ (Tk.shut (d :: rest) = none ∧ o = .exit 0 ∧ S.nt = 30 ∧ S.sl 0 = T s)) → Ends r (fun o S => (∃ n, (Tk.shut (d :: rest)).map (· + 1) = some n ∧ o = .ret ∧ S.sl 4 = I (k + n : Nat)) ∨ ((Tk.shut (d :: rest)).map (· + 1) = none ∧ o = .exit 0 ∧ S.nt = 30 ∧ S.sl 0 = T s)) := by
          rintro r ⟨o, S, e, h⟩
          refine ⟨o, S, e, ?_⟩
          rcases h with ⟨n, h1, h2, h3⟩ | ⟨h1, h2⟩
          · left; exact ⟨n + 1, by rw [h1]; rfl, h2, by rw [h3, show k + 1 + n = k + (n + 1) by omega]⟩
          · right; exact ⟨by rw [h1]; rfl, h2⟩
        refine fin ?_
        cases q1 : (c == 42)
        · rw [q1] at e42
          simp only [go_sem, Nat.reduceLT, reduceIte, reduceCtorEq, Nat.reduceEqDiff, apply_ite (Option.map (outOf _)), Nat.reduceBEq, Nat.reduceAdd, Nat.reduceSub, Nat.reduceLeDiff, Nat.reduceMul, ev_len_str ty_descOf_9, ev_index ty_descOf_9, keep_115_2, w1, e0, g1, e42, Int.natCast_nonneg, Int.toNat_natCast]
          rw [exL_head]
          simp only [go_sem, Nat.reduceLT, reduceIte, reduceCtorEq, Nat.reduceEqDiff, apply_ite (Option.map (outOf _)), Nat.reduceBEq, Nat.reduceAdd, Nat.reduceSub, Nat.reduceLeDiff, Nat.reduceMul, ev_len_str ty_descOf_9, ev_index ty_descOf_9, keep_115_2]
          exact ih'
        · rw [q1] at e42
          have q2 : (d == 47) = false := by
            rw [beq_eq_false_iff_ne]; intro h; exact hc ⟨by simpa using q1, h⟩
          rw [q2] at e47
          simp only [go_sem, Nat.reduceLT, reduceIte, reduceCtorEq, Nat.reduceEqDiff, apply_ite (Option.map (outOf _)), Nat.reduceBEq, Nat.reduceAdd, Nat.reduceSub, Nat.reduceLeDiff, Nat.reduceMul, ev_len_str ty_descOf_9, ev_index ty_descOf_9, keep_115_2, w1, e0, g1, k1, e42, e47, Int.natCast_nonneg, Int.toNat_natCast]
          rw [exL_head]
          simp only [go_sem, Nat.reduceLT, reduceIte, reduceCtorEq, Nat.reduceEqDiff, apply_ite (Option.map (outOf _)), Nat.reduceBEq, Nat.reduceAdd, Nat.reduceSub, Nat.reduceLeDiff, Nat.reduceMul, ev_len_str ty_descOf_9, ev_index ty_descOf_9, keep_115_2]
          exact ih'
theorem comment1_den (s : List UInt8) (i : Nat) (hs : s.length < 4000000000) (hi : i + 2 ≤ s.length) : den K 115 [T s, I i] [] = some (.ret (I (i + Tk.comment (s.drop (i + 2)) : Nat)) []) := by
  refine den_run rfl rfl Tryz.func115 rfl Tryz.ntmps115 ⟨by simp, by simp [LK]⟩ ?_
  have hr : Tryz.f115.results = #[.tmp 4] := rfl
  have w2 : IntKind.i64.wrap ((i : Int) + 2) = ((i + 2 : Nat) : Int) := by rw [IntWalk.i64_in _ (by omega)]; rfl
  have hl := com_loop s hs (s.drop (i + 2)) (i + 2) rfl hi
  conv at hl in loopAt _ _ => whnf
  obtain ⟨o, S', w, h⟩ := hl
  simp only [go_sem, Nat.reduceLT, reduceIte, reduceCtorEq, Nat.reduceEqDiff, apply_ite (Option.map (outOf _)), Nat.reduceBEq, Nat.reduceAdd, Nat.reduceSub, Nat.reduceLeDiff, Nat.reduceMul, ev_len_str ty_descOf_9, ev_index ty_descOf_9, keep_115_2, w2]
  rw [exL_head]
  simp only [go_sem, Nat.reduceLT, reduceIte, reduceCtorEq, Nat.reduceEqDiff, apply_ite (Option.map (outOf _)), Nat.reduceBEq, Nat.reduceAdd, Nat.reduceSub, Nat.reduceLeDiff, Nat.reduceMul, ev_len_str ty_descOf_9, ev_index ty_descOf_9, keep_115_2]
  erw [w]
  unfold Tk.comment
  rcases h with ⟨n, h1, rfl, h2⟩ | ⟨h1, rfl, h2, h3⟩
  · rw [h1]
    have e : i + 2 + n = i + (n + 2) := by omega
    rw [e] at h2
    simp only [go_sem, Nat.reduceLT, reduceIte, reduceCtorEq, Nat.reduceEqDiff, apply_ite (Option.map (outOf _)), Nat.reduceBEq, Nat.reduceAdd, Nat.reduceSub, Nat.reduceLeDiff, Nat.reduceMul, ev_len_str ty_descOf_9, ev_index ty_descOf_9, keep_115_2, hr, h2]
  · rw [h1]
    have e : i + ((s.drop (i + 2)).length + 2) = s.length := by rw [List.length_drop]; omega
    simp only [e]
    simp only [go_sem, Nat.reduceLT, reduceIte, reduceCtorEq, Nat.reduceEqDiff, apply_ite (Option.map (outOf _)), Nat.reduceBEq, Nat.reduceAdd, Nat.reduceSub, Nat.reduceLeDiff, Nat.reduceMul, ev_len_str ty_descOf_9, ev_index ty_descOf_9, keep_115_2, hr, h2, h3]
end Go.Abs
namespace Go.Abs
open Go Go.Proofs
set_option maxRecDepth 10000
attribute [local go_sem] exL_seq exL_region exL_cond exL_block exL_scope exL_ret exL_skip exL_exit runRegion runOps stepOp guardA absOp takeOver opd avOf cvOf St.degAt St.put okPV okVal okAV absBin intBin strBin boolBin setBoxes if_true Bool.false_eq_true if_false Option.map_some Option.map_none Option.bind_some Option.bind_none thenO outOf upd List.toList_toArray isOwn steal appArgs mvB fullAt absFull inApps AV.deg CV.deg AV.gv AV.isIter absNext some_bne some_beqN List.length_nil List.length_cons List.filterMap_cons List.filterMap_nil beq_iff_eq List.getElem?_cons_zero List.getElem?_cons_succ Option.getD_some K_hook hookB Bool.false_and Bool.and_false Bool.and_self K_P K_own absCall doCall getBoxes lend back idx dedup AV.ren CV.ren TV.ren AV.ptrs CV.ptrs zipBox AV.flat CV.flat absLoad absStore cellsOfAV setAt newBox markB bldTypes absFieldAddr absField absExtract absAssert noAssert absMkIface ifcOf CV.pv? content pushHead ownT fillCells reps pvs chunks enterSt leave resOf resVars resVar outBoxes lentOnly TV.deg TV.av LK CV.plain CV.noBld nilBin absUn bound List.map_cons List.map_nil List.all_cons List.all_nil List.any_cons List.any_nil List.contains_cons List.contains_nil List.elem_cons List.elem_nil List.cons_append List.nil_append List.append_nil List.flatMap_cons List.flatMap_nil List.zip_cons_cons List.zip_nil_left List.zip_nil_right List.take_succ_cons List.take_zero List.take_nil List.drop_succ_cons List.drop_zero List.drop_nil List.isEmpty_nil List.isEmpty_cons Bool.and_true Bool.true_and Bool.or_true Bool.true_or Bool.or_false Bool.false_or Bool.not_true Bool.not_false Nat.add_zero Nat.zero_add Option.isNone_none Option.isNone_some Option.getD_none true_and and_true not_true_eq_false not_false_eq_true decide_true decide_false Nat.le_refl and_self Bool.not_eq_true Nat.sub_self or_true true_or Option.some.injEq List.length_map List.nil_eq and_false false_and AV.live CV.live CV.liveIn K_keep firstReg Option.orElse_some Option.orElse_none head keepSlots keepBoxes Int.lt_irrefl List.length_append ite_self memOK logOps opKey lentBoxes Key.clash Key.sees Key.writes Nat.lt_irrefl gt_iff_lt nobox_at bot_at false_or or_false beq_self_eq_true Bool.true_beq Bool.false_beq
theorem decDigits_small {u : Nat} (h : u < 10) : Lib.decDigits u = [UInt8.ofNat (48 + u)] := by rw [Lib.decDigits, dif_pos h]
theorem decDigits_big {u : Nat} (h : ¬ u < 10) : Lib.decDigits u = Lib.decDigits (u / 10) ++ [UInt8.ofNat (48 + u % 10)] := by rw [Lib.decDigits, dif_neg h]
theorem tdiv_nat (u : Nat) : (u : Int).tdiv 10 = ((u / 10 : Nat) : Int) := rfl
theorem tmod_nat (u : Nat) : (u : Int).tmod 10 = ((u % 10 : Nat) : Int) := rfl
theorem ten_ne : ((10 : Int) = 0) = False := by simp
theorem sl0 : (0 + 1 < strLim) = True := by simp [strLim]
theorem sl1 : (1 + 1 < strLim) = True := by simp [strLim]
theorem itoa_neg {n : Int} (h : n < 0) : Lib.itoa n = 45 :: Lib.decDigits n.natAbs := by unfold Lib.itoa; rw [if_pos h]
theorem itoa_pos {n : Int} (h : 0 ≤ n) : Lib.itoa n = Lib.decDigits n.toNat := by unfold Lib.itoa; rw [if_neg (by omega)]
set_option maxHeartbeats 4000000 in
theorem Digits_den : ∀ (k : Nat) (n : Int), n.natAbs ≤ k → I64 n → den K 27 [I n] [] = some (.ret (T (Lib.itoa n)) []) := by
  intro k
  induction k with
  | zero =>
    intro n hk hn
    have : n = 0 := by omega
    subst this
    refine den_run rfl rfl Tryz.func27 rfl Tryz.ntmps27 ⟨by simp, by simp [LK]⟩ ?_
    have hr : Tryz.f27.results = #[.tmp 2] := rfl
    have e : Lib.itoa 0 = [48] := by rw [itoa_pos (by omega)]; exact decDigits_small (by omega)
    rw [e]
    have w1 : IntKind.i64.wrap 48 = 48 := by decide
    have w2 : IntKind.u8.wrap 48 = 48 := by decide
    simp [go_sem, Nat.reduceLT, reduceIte, reduceCtorEq, Nat.reduceEqDiff, apply_ite (Option.map (outOf _)), Nat.reduceBEq, Nat.reduceAdd, Nat.reduceSub, Nat.reduceLeDiff, Nat.reduceMul, good_27, ev_conv_int ty_descOf_3 ty_descOf_5, ev_buildSlice (len := 1) ty_descOf_64 ty_szOf_5 ty_zeroCells_5 ⟨rfl, by decide, by decide⟩, ev_conv_string ty_descOf_64 ty_descOf_9, hr, bytesOf, ten_ne, Int.toNat_natCast, sl0, sl1, w1, w2]
  | succ k ih =>
    intro n hk hn
    have hr : Tryz.f27.results = #[.tmp 2] := rfl
    have hlen := itoa_len hn
    by_cases hneg : n < 0
    · have hl : decide (n < 0) = true := decide_eq_true hneg
      have hq : n.tdiv 10 = -(((n.natAbs / 10 : Nat)) : Int) := by
        obtain ⟨u, rfl⟩ : ∃ u : Nat, n = -(u : Int) := ⟨n.natAbs, by omega⟩
        rw [Int.neg_tdiv, tdiv_nat]; simp only [Int.natAbs_neg, Int.natAbs_natCast]
      have hm : n.tmod 10 = -(((n.natAbs % 10 : Nat)) : Int) := by
        obtain ⟨u, rfl⟩ : ∃ u : Nat, n = -(u : Int) := ⟨n.natAbs, by omega⟩
        rw [Int.neg_tmod, tmod_nat]; simp only [Int.natAbs_neg, Int.natAbs_natCast]
      have w1 : IntKind.i64.wrap (n.tdiv 10) = n.tdiv 10 := IntWalk.i64_in _ (by have := hn.1; have := hn.2; omega)
      have w3 : IntKind.i64.wrap (48 - n.tmod 10) = ((48 + n.natAbs % 10 : Nat) : Int) := by rw [IntWalk.i64_in _ (by omega), hm]; omega
      have w4 : IntKind.u8.wrap ((48 + n.natAbs % 10 : Nat) : Int) = ((48 + n.natAbs % 10 : Nat) : Int) := IntWalk.u8_in _ (by omega)
      rw [itoa_neg hneg] at hlen ⊢
      by_cases hs : n.natAbs < 10
      · have hq0 : decide (n.tdiv 10 < 0) = false := decide_eq_false (by omega)
        rw [decDigits_small hs]
        have hmm : n.natAbs % 10 = n.natAbs := Nat.mod_eq_of_lt hs
        rw [hmm] at w3 w4
        refine den_run rfl rfl Tryz.func27 rfl Tryz.ntmps27 ⟨by simp, by simp [LK]⟩ ?_
        simp only [go_sem, Nat.reduceLT, reduceIte, reduceCtorEq, Nat.reduceEqDiff, apply_ite (Option.map (outOf _)), Nat.reduceBEq, Nat.reduceAdd, Nat.reduceSub, Nat.reduceLeDiff, Nat.reduceMul, good_27, ev_conv_int ty_descOf_3 ty_descOf_5, ev_buildSlice (len := 1) ty_descOf_64 ty_szOf_5 ty_zeroCells_5 ⟨rfl, by decide, by decide⟩, ev_conv_string ty_descOf_64 ty_descOf_9, hr, bytesOf, ten_ne, Int.toNat_natCast, sl0, sl1, hl, hq0, w1, w3, w4]
      · have hq1 : decide (n.tdiv 10 < 0) = true := decide_eq_true (by omega)
        have w2 : IntKind.i64.wrap (0 - n.tdiv 10) = ((n.natAbs / 10 : Nat) : Int) := by rw [IntWalk.i64_in _ (by have := hn.1; have := hn.2; omega)]; omega
        have hc := ih ((n.natAbs / 10 : Nat) : Int) (by omega) ⟨by omega, by have := hn.1; have := hn.2; omega⟩
        rw [itoa_pos (by omega), Int.toNat_natCast] at hc
        rw [decDigits_big hs] at hlen ⊢
        have s1 : 1 + (Lib.decDigits (n.natAbs / 10)).length < strLim := by simp at hlen; simp [strLim]; omega
        have s2 : (Lib.decDigits (n.natAbs / 10)).length + 1 + 1 < strLim := by simp at hlen; simp [strLim]; omega
        refine den_run rfl rfl Tryz.func27 rfl Tryz.ntmps27 ⟨by simp, by simp [LK]⟩ ?_
        simp only [go_sem, Nat.reduceLT, reduceIte, reduceCtorEq, Nat.reduceEqDiff, apply_ite (Option.map (outOf _)), Nat.reduceBEq, Nat.reduceAdd, Nat.reduceSub, Nat.reduceLeDiff, Nat.reduceMul, good_27, ev_conv_int ty_descOf_3 ty_descOf_5, ev_buildSlice (len := 1) ty_descOf_64 ty_szOf_5 ty_zeroCells_5 ⟨rfl, by decide, by decide⟩, ev_conv_string ty_descOf_64 ty_descOf_9, hr, bytesOf, ten_ne, Int.toNat_natCast, sl0, sl1, hl, hq1, w1, w2, w3, w4, hc, s1, s2]
    · have hl : decide (n < 0) = false := decide_eq_false hneg
      obtain ⟨u, rfl⟩ : ∃ u : Nat, n = u := ⟨n.toNat, by omega⟩
      have hm : (u : Int).tmod 10 = ((u % 10 : Nat) : Int) := rfl
      have w3 : IntKind.i64.wrap (48 + (u : Int).tmod 10) = ((48 + u % 10 : Nat) : Int) := by rw [hm, IntWalk.i64_in _ (by omega)]; omega
      have w4 : IntKind.u8.wrap ((48 + u % 10 : Nat) : Int) = ((48 + u % 10 : Nat) : Int) := IntWalk.u8_in _ (by omega)
      rw [itoa_pos (by omega), Int.toNat_natCast] at hlen ⊢
      by_cases hs : u < 10
      · have hg : decide ((10 : Int) ≤ (u : Int)) = false := decide_eq_false (by omega)
        rw [decDigits_small hs]
        have hmm : u % 10 = u := Nat.mod_eq_of_lt hs
        rw [hmm] at w3 w4
        refine den_run rfl rfl Tryz.func27 rfl Tryz.ntmps27 ⟨by simp, by simp [LK]⟩ ?_
        simp only [go_sem, Nat.reduceLT, reduceIte, reduceCtorEq, Nat.reduceEqDiff, apply_ite (Option.map (outOf _)), Nat.reduceBEq, Nat.reduceAdd, Nat.reduceSub, Nat.reduceLeDiff, Nat.reduceMul, good_27, ev_conv_int ty_descOf_3 ty_descOf_5, ev_buildSlice (len := 1) ty_descOf_64 ty_szOf_5 ty_zeroCells_5 ⟨rfl, by decide, by decide⟩, ev_conv_string ty_descOf_64 ty_descOf_9, hr, bytesOf, ten_ne, Int.toNat_natCast, sl0, sl1, hl, hg, w3, w4]
      · have hg : decide ((10 : Int) ≤ (u : Int)) = true := decide_eq_true (by omega)
        have w1 : IntKind.i64.wrap ((u : Int).tdiv 10) = ((u / 10 : Nat) : Int) := by rw [tdiv_nat, IntWalk.i64_in _ (by have := hn.2; omega)]
        have hc := ih ((u / 10 : Nat) : Int) (by omega) ⟨by omega, by have := hn.2; omega⟩
        rw [itoa_pos (by omega), Int.toNat_natCast] at hc
        rw [decDigits_big hs] at hlen ⊢
        have s1 : (Lib.decDigits (u / 10)).length + 1 < strLim := by simp at hlen; simp [strLim]; omega
        refine den_run rfl rfl Tryz.func27 rfl Tryz.ntmps27 ⟨by simp, by simp [LK]⟩ ?_
        simp only [go_sem, Nat.reduceLT, reduceIte, reduceCtorEq, Nat.reduceEqDiff, apply_ite (Option.map (outOf _)), Nat.reduceBEq, Nat.reduceAdd, Nat.reduceSub, Nat.reduceLeDiff, Nat.reduceMul, good_27, ev_conv_int ty_descOf_3 ty_descOf_5, ev_buildSlice (len := 1) ty_descOf_64 ty_szOf_5 ty_zeroCells_5 ⟨rfl, by decide, by decide⟩, ev_conv_string ty_descOf_64 ty_descOf_9, hr, bytesOf, ten_ne, Int.toNat_natCast, sl0, sl1, hl, hg, w1, w3, w4, hc, s1]
end Go.Abs
