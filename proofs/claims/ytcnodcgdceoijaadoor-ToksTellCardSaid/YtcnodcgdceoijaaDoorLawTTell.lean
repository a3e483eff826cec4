/-
  ToksTell, as the interpreter answers it: true, whatever the text and the tokens are; what reads as them.
-/
import Derived.Test.YtcnodcgdceoijaaDoorSpecR4
import Derived.Test.YtcnodcgdceoijaaDoorSpecT9
import Derived.Test.YtcnodcgdceoijaaDoorTailT
set_option linter.unusedSimpArgs false
set_option linter.unusedVariables false
namespace Go.Abs
open Go Go.Proofs
set_option maxRecDepth 10000
attribute [local go_sem] exL_seq exL_region exL_cond exL_block exL_scope exL_ret exL_skip exL_exit runRegion runOps stepOp guardA absOp takeOver opd avOf cvOf St.degAt St.put okPV okVal okAV absBin intBin strBin boolBin setBoxes if_true Bool.false_eq_true if_false Option.map_some Option.map_none Option.bind_some Option.bind_none thenO outOf upd List.toList_toArray isOwn steal appArgs inApps AV.deg CV.deg AV.gv AV.isIter absNext some_bne List.length_nil List.length_cons List.filterMap_cons List.filterMap_nil beq_iff_eq List.getElem?_cons_zero List.getElem?_cons_succ Option.getD_some K_hook hookB Bool.false_and Bool.and_false Bool.and_self K_P K_own absCall doCall getBoxes lend back idx dedup AV.ren CV.ren TV.ren AV.ptrs CV.ptrs zipBox AV.flat CV.flat absLoad absStore cellsOfAV setAt newBox markB bldTypes absFieldAddr absField absExtract absAssert noAssert absMkIface ifcOf CV.pv? content pushHead ownT fillCells reps pvs chunks enterSt leave resOf resVars resVar outBoxes lentOnly TV.deg TV.av LK CV.plain CV.noBld nilBin absUn bound List.map_cons List.map_nil List.all_cons List.all_nil List.any_cons List.any_nil List.contains_cons List.contains_nil List.elem_cons List.elem_nil List.cons_append List.nil_append List.append_nil List.flatMap_cons List.flatMap_nil List.zip_cons_cons List.zip_nil_left List.zip_nil_right List.take_succ_cons List.take_zero List.take_nil List.drop_succ_cons List.drop_zero List.drop_nil List.isEmpty_nil List.isEmpty_cons Bool.and_true Bool.true_and Bool.or_true Bool.true_or Bool.or_false Bool.false_or Bool.not_true Bool.not_false Nat.add_zero Nat.zero_add Option.isNone_none Option.isNone_some Option.getD_none true_and and_true not_true_eq_false not_false_eq_true decide_true decide_false Nat.le_refl and_self Bool.not_eq_true Nat.sub_self or_true true_or Option.some.injEq List.length_map List.nil_eq and_false false_and AV.live CV.live CV.liveIn K_keep firstReg Option.orElse_some Option.orElse_none head keepSlots keepBoxes Int.lt_irrefl List.length_append ite_self memOK logOps opKey lentBoxes Key.clash Key.sees Key.writes Nat.lt_irrefl gt_iff_lt nobox_at bot_at false_or or_false beq_self_eq_true Bool.true_beq Bool.false_beq

/-- the two signs that are held apart -/
theorem lt_slash {a x : Tok} (h : Tk.all (oneS a ++ oneS x) = [a, x]) : (oneS a ++ oneS x == [60, 47]) = ((a.kind == 7) && (a.text == [60]) && (x.kind == 7) && (x.text == [47])) := by
  rw [Bool.eq_iff_iff]
  simp only [Bool.and_eq_true, beq_iff_eq]
  constructor
  · intro e
    rw [e] at h
    have h2 : Tk.all [60, 47] = [⟨7, [60], 0⟩, ⟨7, [47], 0⟩] := by decide
    rw [h2] at h
    injection h with h3 h4
    injection h4 with h5 _
    rw [← h3, ← h5]
    simp
  · rintro ⟨⟨⟨h1, h2⟩, h3⟩, h4⟩
    unfold oneS
    rw [h1, h2, h3, h4]
    simp

abbrev text1H (s : List UInt8) (l : List Tok) (i : Nat) : St := { sl := upd (upd (upd bot 4 (I i)) 3 (T s)) 0 (L (l.map Tok.enc)), bx := nobox, nt := 82 }

set_option maxHeartbeats 16000000 in
theorem text1_loop (l : List Tok) (hl : lenOk l.length) (hok : ∀ t ∈ l, OkT t) : ∀ (rest : List Tok) (i : Nat) (p : Option Tok) (s : List UInt8), l.drop i = rest → i ≤ l.length → (p = none ∧ i = 0 ∨ ∃ a, p = some a ∧ 0 < i ∧ l[i - 1]? = some a) → (s ++ restO p rest).length < txtLim →
    Ends (exL K 30 (.loop (loopAt Tryd.f30 3)) (text1H s l i)) fun o S => o = .exit 0 ∧ S.nt = 82 ∧ S.sl 3 = T (s ++ restO p rest) := by
  intro rest
  induction rest with
  | nil =>
    intro i p s hd hi hp hlen
    have hin : i = l.length := by
      have := List.drop_eq_nil_iff.1 hd
      omega
    subst hin
    rw [restO_nil, List.append_nil]
    conv in loopAt _ _ => whnf
    rw [exL_loop]
    simp only [go_sem, Nat.reduceLT, reduceIte, reduceCtorEq, Nat.reduceEqDiff, apply_ite (Option.map (outOf _)), Nat.reduceBEq, Nat.reduceAdd, Nat.reduceSub, Nat.reduceLeDiff, Nat.reduceMul, ev_len_sl ty_descOf_44, ev_indexAddr ty_descOf_44, ty_szOf_46, ty_shapeT_46, good_32, good_53, ty_fieldOff_46_0, ty_szOf_3, ty_shapeT_3, ty_fieldOff_46_1, ty_szOf_9, ty_shapeT_9, keep_30_3, ends_some]
  | cons x rest ih =>
    intro i p s hd hi hp hlen
    obtain ⟨g1, g2, g3⟩ := drop_cons hd
    have hx := hok x (List.mem_of_getElem? g1)
    have hlt : decide ((i : Int) < (l.length : Int)) = true := decide_eq_true (by omega)
    have ga := enc_at l i x g1
    have hi2 : i < 9223372036854775807 := by unfold lenOk at hl; omega
    have wi := wrap_nat i hi2
    rw [restO_cons] at hlen ⊢
    have hone := One1_den x hx.1 (by have := hx.2; omega)
    simp only [Tok.cells] at hone
    have et : txtLim = 4294967296 := rfl
    have hnext : ∀ s1 : List UInt8, (s1 ++ (oneS x ++ restO (some x) rest)).length < txtLim → _ := fun s1 h => ih (i + 1) (some x) (s1 ++ oneS x) g2 (by omega) (.inr ⟨x, rfl, by omega, by simpa using g1⟩) (by rw [List.append_assoc]; exact h)
    conv at hnext in loopAt _ _ => whnf
    simp only [List.append_assoc] at hnext
    have hpl : (oneS x).length ≤ 1000000100 := by have := one_len x hx.1; have := hx.2; omega
    rcases hp with ⟨rfl, hi0⟩ | ⟨a, rfl, hi0, ha⟩
    · have h0 : decide ((0 : Int) < (i : Int)) = false := decide_eq_false (by omega)
      have hap : apO none x = false := rfl
      rw [hap] at hlen ⊢
      simp only [Bool.false_eq_true, if_false, List.nil_append] at hlen ⊢
      have hn := hnext s hlen
      have l1 : s.length + (oneS x).length < strLim := by simp only [List.length_append] at hlen; simp [strLim]; omega
      conv in loopAt _ _ => whnf
      rw [exL_loop]
      simp only [go_sem, Nat.reduceLT, reduceIte, reduceCtorEq, Nat.reduceEqDiff, apply_ite (Option.map (outOf _)), Nat.reduceBEq, Nat.reduceAdd, Nat.reduceSub, Nat.reduceLeDiff, Nat.reduceMul, ev_len_sl ty_descOf_44, ev_indexAddr ty_descOf_44, ty_szOf_46, ty_shapeT_46, good_32, good_53, ty_fieldOff_46_0, ty_szOf_3, ty_shapeT_3, ty_fieldOff_46_1, ty_szOf_9, ty_shapeT_9, keep_30_3, hlt, ga, Int.natCast_nonneg, hone, h0, l1, wi]
      rw [exL_head]
      simp only [go_sem, Nat.reduceLT, reduceIte, reduceCtorEq, Nat.reduceEqDiff, apply_ite (Option.map (outOf _)), Nat.reduceBEq, Nat.reduceAdd, Nat.reduceSub, Nat.reduceLeDiff, Nat.reduceMul, ev_len_sl ty_descOf_44, ev_indexAddr ty_descOf_44, ty_szOf_46, ty_shapeT_46, good_32, good_53, ty_fieldOff_46_0, ty_szOf_3, ty_shapeT_3, ty_fieldOff_46_1, ty_szOf_9, ty_shapeT_9, keep_30_3]
      exact hn
    · have h0 : decide ((0 : Int) < (i : Int)) = true := decide_eq_true (by omega)
      have wm : IntKind.i64.wrap ((i : Int) - 1) = ((i - 1 : Nat) : Int) := by rw [IntWalk.i64_in _ (by omega)]; omega
      have gp := enc_at l (i - 1) a ha
      have hok1 := hok a (List.mem_of_getElem? ha)
      have hone2 := One1_den a hok1.1 (by have := hok1.2; omega)
      simp only [Tok.cells] at hone2
      have la := one_len a hok1.1
      have l2 : (oneS a).length + (oneS x).length < strLim := by have := hok1.2; simp [strLim]; omega
      have htw := two_den (oneS a ++ oneS x) a x (by rw [List.length_append]; have := hok1.2; have := one_len x hx.1; have := hx.2; omega)
      simp only [Tok.cells] at htw
      have hap0 : apO (some a) x = (!decide (Tk.all (oneS a ++ oneS x) = [a, x]) || (oneS a ++ oneS x == [60, 47])) := by
        show Tk.apart a x = _
        unfold Tk.apart
        rw [decide_not]
      rw [hap0] at hlen ⊢
      -- whether something stands between
      have yes : ∀ {r : Option (Out × St)}, (∀ hn : (s ++ ([47, 42, 42, 47] ++ (oneS x ++ restO (some x) rest))).length < txtLim, Ends r (fun o S => o = .exit 0 ∧ S.nt = 82 ∧ S.sl 3 = T (s ++ ([47, 42, 42, 47] ++ (oneS x ++ restO (some x) rest))))) → (!decide (Tk.all (oneS a ++ oneS x) = [a, x]) || (oneS a ++ oneS x == [60, 47])) = true → Ends r (fun o S => o = .exit 0 ∧ S.nt = 82 ∧ S.sl 3 = T (s ++ ((if (!decide (Tk.all (oneS a ++ oneS x) = [a, x]) || (oneS a ++ oneS x == [60, 47])) = true then [47, 42, 42, 47] else []) ++ (oneS x ++ restO (some x) rest)))) := fun h e => by
        rw [e] at hlen ⊢
        exact h hlen
      have no : ∀ {r : Option (Out × St)}, (∀ hn : (s ++ (oneS x ++ restO (some x) rest)).length < txtLim, Ends r (fun o S => o = .exit 0 ∧ S.nt = 82 ∧ S.sl 3 = T (s ++ (oneS x ++ restO (some x) rest)))) → (!decide (Tk.all (oneS a ++ oneS x) = [a, x]) || (oneS a ++ oneS x == [60, 47])) = false → Ends r (fun o S => o = .exit 0 ∧ S.nt = 82 ∧ S.sl 3 = T (s ++ ((if (!decide (Tk.all (oneS a ++ oneS x) = [a, x]) || (oneS a ++ oneS x == [60, 47])) = true then [47, 42, 42, 47] else []) ++ (oneS x ++ restO (some x) rest)))) := fun h e => by
        rw [e] at hlen ⊢
        exact h hlen
      conv in loopAt _ _ => whnf
      by_cases hall : Tk.all (oneS a ++ oneS x) = [a, x]
      · have hls := lt_slash hall
        rw [decide_eq_true hall] at htw hlen yes no ⊢
        simp only [Bool.not_true, Bool.false_or] at hlen yes no ⊢
        rw [hls] at hlen yes no ⊢
        clear hlen hap0 hls
        cases p1 : (a.kind == 7) <;> rw [p1] at yes no
        · refine no (fun hn => ?_) rfl
          have hn2 := hnext s hn
          have l1 : s.length + (oneS x).length < strLim := by simp only [List.length_append] at hn; simp [strLim]; omega
          rw [exL_loop]
          simp only [go_sem, Nat.reduceLT, reduceIte, reduceCtorEq, Nat.reduceEqDiff, apply_ite (Option.map (outOf _)), Nat.reduceBEq, Nat.reduceAdd, Nat.reduceSub, Nat.reduceLeDiff, Nat.reduceMul, ev_len_sl ty_descOf_44, ev_indexAddr ty_descOf_44, ty_szOf_46, ty_shapeT_46, good_32, good_53, ty_fieldOff_46_0, ty_szOf_3, ty_shapeT_3, ty_fieldOff_46_1, ty_szOf_9, ty_shapeT_9, keep_30_3, hlt, ga, gp, Int.natCast_nonneg, hone, hone2, htw, h0, wm, l1, l2, wi, p1]
          rw [exL_head]
          simp only [go_sem, Nat.reduceLT, reduceIte, reduceCtorEq, Nat.reduceEqDiff, apply_ite (Option.map (outOf _)), Nat.reduceBEq, Nat.reduceAdd, Nat.reduceSub, Nat.reduceLeDiff, Nat.reduceMul, ev_len_sl ty_descOf_44, ev_indexAddr ty_descOf_44, ty_szOf_46, ty_shapeT_46, good_32, good_53, ty_fieldOff_46_0, ty_szOf_3, ty_shapeT_3, ty_fieldOff_46_1, ty_szOf_9, ty_shapeT_9, keep_30_3]
          exact hn2
        cases p2 : (a.text == [60]) <;> rw [p2] at yes no
        · refine no (fun hn => ?_) rfl
          have hn2 := hnext s hn
          have l1 : s.length + (oneS x).length < strLim := by simp only [List.length_append] at hn; simp [strLim]; omega
          rw [exL_loop]
          simp only [go_sem, Nat.reduceLT, reduceIte, reduceCtorEq, Nat.reduceEqDiff, apply_ite (Option.map (outOf _)), Nat.reduceBEq, Nat.reduceAdd, Nat.reduceSub, Nat.reduceLeDiff, Nat.reduceMul, ev_len_sl ty_descOf_44, ev_indexAddr ty_descOf_44, ty_szOf_46, ty_shapeT_46, good_32, good_53, ty_fieldOff_46_0, ty_szOf_3, ty_shapeT_3, ty_fieldOff_46_1, ty_szOf_9, ty_shapeT_9, keep_30_3, hlt, ga, gp, Int.natCast_nonneg, hone, hone2, htw, h0, wm, l1, l2, wi, p1, p2]
          rw [exL_head]
          simp only [go_sem, Nat.reduceLT, reduceIte, reduceCtorEq, Nat.reduceEqDiff, apply_ite (Option.map (outOf _)), Nat.reduceBEq, Nat.reduceAdd, Nat.reduceSub, Nat.reduceLeDiff, Nat.reduceMul, ev_len_sl ty_descOf_44, ev_indexAddr ty_descOf_44, ty_szOf_46, ty_shapeT_46, good_32, good_53, ty_fieldOff_46_0, ty_szOf_3, ty_shapeT_3, ty_fieldOff_46_1, ty_szOf_9, ty_shapeT_9, keep_30_3]
          exact hn2
        cases p3 : (x.kind == 7) <;> rw [p3] at yes no
        · refine no (fun hn => ?_) rfl
          have hn2 := hnext s hn
          have l1 : s.length + (oneS x).length < strLim := by simp only [List.length_append] at hn; simp [strLim]; omega
          rw [exL_loop]
          simp only [go_sem, Nat.reduceLT, reduceIte, reduceCtorEq, Nat.reduceEqDiff, apply_ite (Option.map (outOf _)), Nat.reduceBEq, Nat.reduceAdd, Nat.reduceSub, Nat.reduceLeDiff, Nat.reduceMul, ev_len_sl ty_descOf_44, ev_indexAddr ty_descOf_44, ty_szOf_46, ty_shapeT_46, good_32, good_53, ty_fieldOff_46_0, ty_szOf_3, ty_shapeT_3, ty_fieldOff_46_1, ty_szOf_9, ty_shapeT_9, keep_30_3, hlt, ga, gp, Int.natCast_nonneg, hone, hone2, htw, h0, wm, l1, l2, wi, p1, p2, p3]
          rw [exL_head]
          simp only [go_sem, Nat.reduceLT, reduceIte, reduceCtorEq, Nat.reduceEqDiff, apply_ite (Option.map (outOf _)), Nat.reduceBEq, Nat.reduceAdd, Nat.reduceSub, Nat.reduceLeDiff, Nat.reduceMul, ev_len_sl ty_descOf_44, ev_indexAddr ty_descOf_44, ty_szOf_46, ty_shapeT_46, good_32, good_53, ty_fieldOff_46_0, ty_szOf_3, ty_shapeT_3, ty_fieldOff_46_1, ty_szOf_9, ty_shapeT_9, keep_30_3]
          exact hn2
        cases p4 : (x.text == [47]) <;> rw [p4] at yes no
        · refine no (fun hn => ?_) rfl
          have hn2 := hnext s hn
          have l1 : s.length + (oneS x).length < strLim := by simp only [List.length_append] at hn; simp [strLim]; omega
          rw [exL_loop]
          simp only [go_sem, Nat.reduceLT, reduceIte, reduceCtorEq, Nat.reduceEqDiff, apply_ite (Option.map (outOf _)), Nat.reduceBEq, Nat.reduceAdd, Nat.reduceSub, Nat.reduceLeDiff, Nat.reduceMul, ev_len_sl ty_descOf_44, ev_indexAddr ty_descOf_44, ty_szOf_46, ty_shapeT_46, good_32, good_53, ty_fieldOff_46_0, ty_szOf_3, ty_shapeT_3, ty_fieldOff_46_1, ty_szOf_9, ty_shapeT_9, keep_30_3, hlt, ga, gp, Int.natCast_nonneg, hone, hone2, htw, h0, wm, l1, l2, wi, p1, p2, p3, p4]
          rw [exL_head]
          simp only [go_sem, Nat.reduceLT, reduceIte, reduceCtorEq, Nat.reduceEqDiff, apply_ite (Option.map (outOf _)), Nat.reduceBEq, Nat.reduceAdd, Nat.reduceSub, Nat.reduceLeDiff, Nat.reduceMul, ev_len_sl ty_descOf_44, ev_indexAddr ty_descOf_44, ty_szOf_46, ty_shapeT_46, good_32, good_53, ty_fieldOff_46_0, ty_szOf_3, ty_shapeT_3, ty_fieldOff_46_1, ty_szOf_9, ty_shapeT_9, keep_30_3]
          exact hn2
        · refine yes (fun hn => ?_) rfl
          have hn2 := hnext (s ++ [47, 42, 42, 47]) (by simp only [List.append_assoc]; exact hn)
          simp only [List.append_assoc] at hn2
          have l0 : s.length + 4 < strLim := by simp only [List.length_append, List.length_cons, List.length_nil] at hn; simp [strLim]; omega
          have l1 : s.length + 4 + (oneS x).length < strLim := by simp only [List.length_append, List.length_cons, List.length_nil] at hn; simp [strLim]; omega
          rw [exL_loop]
          simp only [go_sem, Nat.reduceLT, reduceIte, reduceCtorEq, Nat.reduceEqDiff, apply_ite (Option.map (outOf _)), Nat.reduceBEq, Nat.reduceAdd, Nat.reduceSub, Nat.reduceLeDiff, Nat.reduceMul, ev_len_sl ty_descOf_44, ev_indexAddr ty_descOf_44, ty_szOf_46, ty_shapeT_46, good_32, good_53, ty_fieldOff_46_0, ty_szOf_3, ty_shapeT_3, ty_fieldOff_46_1, ty_szOf_9, ty_shapeT_9, keep_30_3, hlt, ga, gp, Int.natCast_nonneg, hone, hone2, htw, h0, wm, l0, l1, l2, wi, p1, p2, p3, p4, List.append_assoc]
          rw [exL_head]
          simp only [go_sem, Nat.reduceLT, reduceIte, reduceCtorEq, Nat.reduceEqDiff, apply_ite (Option.map (outOf _)), Nat.reduceBEq, Nat.reduceAdd, Nat.reduceSub, Nat.reduceLeDiff, Nat.reduceMul, ev_len_sl ty_descOf_44, ev_indexAddr ty_descOf_44, ty_szOf_46, ty_shapeT_46, good_32, good_53, ty_fieldOff_46_0, ty_szOf_3, ty_shapeT_3, ty_fieldOff_46_1, ty_szOf_9, ty_shapeT_9, keep_30_3]
          exact hn2
      · rw [decide_eq_false hall] at htw hlen yes no ⊢
        simp only [Bool.not_false, Bool.true_or] at hlen yes no ⊢
        refine yes (fun hn => ?_) trivial
        have hn2 := hnext (s ++ [47, 42, 42, 47]) (by simp only [List.append_assoc]; exact hn)
        simp only [List.append_assoc] at hn2
        have l0 : s.length + 4 < strLim := by simp only [List.length_append, List.length_cons, List.length_nil] at hn; simp [strLim]; omega
        have l1 : s.length + 4 + (oneS x).length < strLim := by simp only [List.length_append, List.length_cons, List.length_nil] at hn; simp [strLim]; omega
        rw [exL_loop]
        simp only [go_sem, Nat.reduceLT, reduceIte, reduceCtorEq, Nat.reduceEqDiff, apply_ite (Option.map (outOf _)), Nat.reduceBEq, Nat.reduceAdd, Nat.reduceSub, Nat.reduceLeDiff, Nat.reduceMul, ev_len_sl ty_descOf_44, ev_indexAddr ty_descOf_44, ty_szOf_46, ty_shapeT_46, good_32, good_53, ty_fieldOff_46_0, ty_szOf_3, ty_shapeT_3, ty_fieldOff_46_1, ty_szOf_9, ty_shapeT_9, keep_30_3, hlt, ga, gp, Int.natCast_nonneg, hone, hone2, htw, h0, wm, l0, l1, l2, wi, List.append_assoc]
        rw [exL_head]
        simp only [go_sem, Nat.reduceLT, reduceIte, reduceCtorEq, Nat.reduceEqDiff, apply_ite (Option.map (outOf _)), Nat.reduceBEq, Nat.reduceAdd, Nat.reduceSub, Nat.reduceLeDiff, Nat.reduceMul, ev_len_sl ty_descOf_44, ev_indexAddr ty_descOf_44, ty_szOf_46, ty_shapeT_46, good_32, good_53, ty_fieldOff_46_0, ty_szOf_3, ty_shapeT_3, ty_fieldOff_46_1, ty_szOf_9, ty_shapeT_9, keep_30_3]
        exact hn2

theorem Text1_den (l : List Tok) (hl : lenOk l.length) (hok : ∀ t ∈ l, OkT t) (hlen : (Tk.text l).length < txtLim) : den K 30 [L (l.map Tok.enc)] [] = some (.ret (T (Tk.text l)) []) := by
  refine den_run rfl Tryd.func30 rfl Tryd.ntmps30 ⟨by simp, by simp [LK]⟩ ?_
  have hr : Tryd.f30.results = #[.tmp 2] := rfl
  have hlp := text1_loop l hl hok l 0 none [] rfl (Nat.zero_le _) (.inl ⟨rfl, rfl⟩) (by simpa [restO] using hlen)
  conv at hlp in loopAt _ _ => whnf
  obtain ⟨o, S', e2, rfl, hn, h3⟩ := hlp
  simp only [List.nil_append, restO] at h3
  simp only [go_sem, Nat.reduceLT, reduceIte, reduceCtorEq, Nat.reduceEqDiff, apply_ite (Option.map (outOf _)), Nat.reduceBEq, Nat.reduceAdd, Nat.reduceSub, Nat.reduceLeDiff, Nat.reduceMul, ev_len_sl ty_descOf_44, ev_indexAddr ty_descOf_44, ty_szOf_46, ty_shapeT_46, good_32, good_53, ty_fieldOff_46_0, ty_szOf_3, ty_shapeT_3, ty_fieldOff_46_1, ty_szOf_9, ty_shapeT_9, keep_30_3]
  rw [exL_head]
  simp only [go_sem, Nat.reduceLT, reduceIte, reduceCtorEq, Nat.reduceEqDiff, apply_ite (Option.map (outOf _)), Nat.reduceBEq, Nat.reduceAdd, Nat.reduceSub, Nat.reduceLeDiff, Nat.reduceMul, ev_len_sl ty_descOf_44, ev_indexAddr ty_descOf_44, ty_szOf_46, ty_shapeT_46, good_32, good_53, ty_fieldOff_46_0, ty_szOf_3, ty_shapeT_3, ty_fieldOff_46_1, ty_szOf_9, ty_shapeT_9, keep_30_3]
  erw [e2]
  simp only [go_sem, Nat.reduceLT, reduceIte, reduceCtorEq, Nat.reduceEqDiff, apply_ite (Option.map (outOf _)), Nat.reduceBEq, Nat.reduceAdd, Nat.reduceSub, Nat.reduceLeDiff, Nat.reduceMul, ev_len_sl ty_descOf_44, ev_indexAddr ty_descOf_44, ty_szOf_46, ty_shapeT_46, good_32, good_53, ty_fieldOff_46_0, ty_szOf_3, ty_shapeT_3, ty_fieldOff_46_1, ty_szOf_9, ty_shapeT_9, keep_30_3, hr, hn, h3]

theorem smallT_lens {l : List Tok} {m : Int} (h : smallT l m = true) : (l.length : Int) ≤ m ∧ ∀ t ∈ l, t.text.length ≤ 100 := by
  unfold smallT at h
  simp only [Bool.and_eq_true, decide_eq_true_eq, List.all_eq_true] at h
  exact ⟨h.2, h.1⟩

theorem text_small {l : List Tok} {n m : Nat} (hl : l.length ≤ n) (h : ∀ t ∈ l, I64 t.n ∧ t.text.length ≤ m) (hm : n * (m + 25) < 1000000000) : (Tk.text l).length < 1000000000 := by
  have h1 := Tk.text_len (m := m + 21) l fun t ht => by
    have := one_len t (h t ht).1
    have := (h t ht).2
    omega
  have h2 : l.length * (m + 21 + 4) ≤ n * (m + 25) := Nat.mul_le_mul hl (by omega)
  omega

set_option maxHeartbeats 4000000 in
theorem ToksTell_den (s : List UInt8) (l : List Tok) (t : Tok) (hl : ∀ t ∈ l, I64 t.n) (hll : l.length ≤ reachBytes) (ht : I64 t.n) :
    den K 6 [T s, L (l.map Tok.enc), .agg t.cells] [] = some (.ret (B true) []) := by
  have hf := fixed1_den
  have hok : lenOk l.length := by unfold lenOk; simp [reachBytes] at hll; omega
  have hsm := SmallT_den l 200 hok
  have hr : Tryd.f6.results = #[.tmp 6] := rfl
  simp only [Tok.cells]
  by_cases h1 : s.length ≤ 2000
  case neg =>
    have e : decide ((2000 : Int) < (s.length : Int)) = true := decide_eq_true (by omega)
    refine den_run rfl Tryd.func6 rfl Tryd.ntmps6 ⟨by simp, by simp [LK]⟩ ?_
    simp only [go_sem, Nat.reduceLT, reduceIte, reduceCtorEq, Nat.reduceEqDiff, apply_ite (Option.map (outOf _)), Nat.reduceBEq, Nat.reduceAdd, Nat.reduceSub, Nat.reduceLeDiff, Nat.reduceMul, ev_len_str ty_descOf_9, good_24, ty_fieldOff_46_1, ty_szOf_9, ty_shapeT_9, good_25, good_27, good_28, good_26, good_29, good_30, ty_shapeT_46, good_31, good_32, good_33, good_34, ty_isBoolT_4, hr, hf, e]
  have e1 : decide ((2000 : Int) < (s.length : Int)) = false := decide_eq_false (by omega)
  cases h3 : smallT l 200
  · rw [h3] at hsm
    refine den_run rfl Tryd.func6 rfl Tryd.ntmps6 ⟨by simp, by simp [LK]⟩ ?_
    simp only [go_sem, Nat.reduceLT, reduceIte, reduceCtorEq, Nat.reduceEqDiff, apply_ite (Option.map (outOf _)), Nat.reduceBEq, Nat.reduceAdd, Nat.reduceSub, Nat.reduceLeDiff, Nat.reduceMul, ev_len_str ty_descOf_9, good_24, ty_fieldOff_46_1, ty_szOf_9, ty_shapeT_9, good_25, good_27, good_28, good_26, good_29, good_30, ty_shapeT_46, good_31, good_32, good_33, good_34, ty_isBoolT_4, hr, hf, e1, hsm]
  rw [h3] at hsm
  obtain ⟨hn, hs⟩ := smallT_lens h3
  by_cases h2 : t.text.length ≤ 100
  case neg =>
    have e : decide ((100 : Int) < (t.text.length : Int)) = true := decide_eq_true (by omega)
    refine den_run rfl Tryd.func6 rfl Tryd.ntmps6 ⟨by simp, by simp [LK]⟩ ?_
    simp only [go_sem, Nat.reduceLT, reduceIte, reduceCtorEq, Nat.reduceEqDiff, apply_ite (Option.map (outOf _)), Nat.reduceBEq, Nat.reduceAdd, Nat.reduceSub, Nat.reduceLeDiff, Nat.reduceMul, ev_len_str ty_descOf_9, good_24, ty_fieldOff_46_1, ty_szOf_9, ty_shapeT_9, good_25, good_27, good_28, good_26, good_29, good_30, ty_shapeT_46, good_31, good_32, good_33, good_34, ty_isBoolT_4, hr, hf, e1, hsm, e]
  have e2 : decide ((100 : Int) < (t.text.length : Int)) = false := decide_eq_false (by omega)
  have et : txtLim = 4294967296 := rfl
  have a1 := All_den s (by omega)
  have a2 := All1_den s (by omega)
  have alen := Tk.all_len s
  generalize Tk.all s = a at a1 a2 alen
  have alo : lenOk a.length := by unfold lenOk; omega
  have sa := Same_den a a alo alo
  rw [decide_eq_true rfl] at sa
  have lok : ∀ t ∈ l, OkT t := fun t ht => ⟨hl t ht, by have := hs t ht; omega⟩
  have kl : (Tk.text l).length < 1000000000 := text_small (n := 200) (m := 100) (by omega) (fun t ht => ⟨hl t ht, hs t ht⟩) (by omega)
  have t1 := Text_den l hok lok (by omega)
  have t2 := Text1_den l hok lok (by omega)
  generalize Tk.text l = x at t1 t2
  have qx : (x == x) = true := by simp
  have o1 := One_den t ht (by omega)
  have o2 := One1_den t ht (by omega)
  have m1 := May_den t ht (by omega)
  have m2 := May1_den t ht (by omega)
  generalize oneS t = y at o1 o2
  have qy : (y == y) = true := by simp
  simp only [Tok.cells] at o1 o2 m1 m2
  refine den_run rfl Tryd.func6 rfl Tryd.ntmps6 ⟨by simp, by simp [LK]⟩ ?_
  cases hm : Tk.may t <;> rw [hm] at m1 m2 <;> simp only [go_sem, Nat.reduceLT, reduceIte, reduceCtorEq, Nat.reduceEqDiff, apply_ite (Option.map (outOf _)), Nat.reduceBEq, Nat.reduceAdd, Nat.reduceSub, Nat.reduceLeDiff, Nat.reduceMul, ev_len_str ty_descOf_9, good_24, ty_fieldOff_46_1, ty_szOf_9, ty_shapeT_9, good_25, good_27, good_28, good_26, good_29, good_30, ty_shapeT_46, good_31, good_32, good_33, good_34, ty_isBoolT_4, hr, hf, e1, hsm, e2, a1, a2, sa, t1, t2, qx, o1, o2, qy, m1, m2]

set_option maxRecDepth 100000 in
theorem ToksTell_args (pss : List (List PV)) (h : All2 (fun t p => ∃ n, TyP Tryd.prog n t p) Tryd.f6.params.toList pss) :
    den K 6 (List.zipWith (argOf Tryd.prog) Tryd.f6.params.toList pss) [] = some (.ret (.c (.pv (.bool true))) []) := by
  have hp : Tryd.f6.params.toList = [9, 44, 46] := rfl
  rw [hp] at h ⊢
  refine args3 h fun n m k p q r h1 h2 h3 e => ?_
  subst e
  obtain ⟨s, rfl, _⟩ := TyP_str ty_descOf_9 h1
  obtain ⟨l, rfl, hll, hl⟩ := ty_toks h2
  obtain ⟨t, rfl, ht⟩ := ty_tok h3
  simp only [List.zipWith_cons_cons, List.zipWith_nil_left, argOf_str, argOf_tok, argOf_toks]
  exact ToksTell_den s l t (fun t ht => (hl t ht).2.1) hll ht.2.1
end Go.Abs
