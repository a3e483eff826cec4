/-
  WHAT THE DOCUMENT'S ANSWER COMPUTES, layer 1: the tokens of a text; whether tokens may be.
  WHAT THE FUNCTIONS COMPUTE, layer 2: parsing; whether values may be.
  WHAT THE FUNCTIONS COMPUTE, layer 4, the document's reader of selectors: lists of them; texts.
  WHAT THE FUNCTIONS COMPUTE, layer 2: nest.May.
  WHAT THE FUNCTIONS COMPUTE, layer 3: the text of values, the values of a text.
  WHAT THE FUNCTIONS COMPUTE, layer 4, the program's reader of selectors: lists of them; texts.
-/
import Derived.Test.YtlomcifkckgneaaGreatDoorQa1
import Derived.Test.YtlomcifkckgneaaGreatDoorQa2
import Derived.Test.YtlomcifkckgneaaGreatDoorQa3
import Derived.Test.YtlomcifkckgneaaGreatDoorQa4
import Derived.Test.YtlomcifkckgneaaGreatDoorQa6
import Derived.Test.YtlomcifkckgneaaGreatDoorQa7
import Derived.Test.YtlomcifkckgneaaGreatDoorQa9
import Derived.Test.YtlomcifkckgneaaGreatDoorQa11
import Derived.Test.YtlomcifkckgneaaGreatDoorQa12
set_option linter.unusedSimpArgs false
set_option linter.unusedVariables false
namespace Go.Abs
open Go Go.Proofs
set_option maxRecDepth 10000
attribute [local go_sem] exL_seq exL_region exL_cond exL_block exL_scope exL_ret exL_skip exL_exit runRegion runOps stepOp guardA absOp takeOver opd avOf cvOf St.degAt St.put okPV okVal okAV absBin intBin strBin boolBin setBoxes if_true Bool.false_eq_true if_false Option.map_some Option.map_none Option.bind_some Option.bind_none thenO outOf upd List.toList_toArray isOwn steal appArgs mvB fullAt absFull inApps AV.deg CV.deg AV.gv AV.isIter absNext some_bne some_beqN List.length_nil List.length_cons List.filterMap_cons List.filterMap_nil beq_iff_eq List.getElem?_cons_zero List.getElem?_cons_succ Option.getD_some K_hook hookB Bool.false_and Bool.and_false Bool.and_self K_P K_own absCall doCall getBoxes lend back idx dedup AV.ren CV.ren TV.ren AV.ptrs CV.ptrs zipBox AV.flat CV.flat absLoad absStore cellsOfAV setAt newBox markB bldTypes absFieldAddr absField absExtract absAssert noAssert absMkIface ifcOf CV.pv? content pushHead ownT fillCells reps pvs chunks enterSt leave resOf resVars resVar outBoxes lentOnly TV.deg TV.av LK CV.plain CV.noBld nilBin absUn bound List.map_cons List.map_nil List.all_cons List.all_nil List.any_cons List.any_nil List.contains_cons List.contains_nil List.elem_cons List.elem_nil List.cons_append List.nil_append List.append_nil List.flatMap_cons List.flatMap_nil List.zip_cons_cons List.zip_nil_left List.zip_nil_right List.take_succ_cons List.take_zero List.take_nil List.drop_succ_cons List.drop_zero List.drop_nil List.isEmpty_nil List.isEmpty_cons Bool.and_true Bool.true_and Bool.or_true Bool.true_or Bool.or_false Bool.false_or Bool.not_true Bool.not_false Nat.add_zero Nat.zero_add Option.isNone_none Option.isNone_some Option.getD_none true_and and_true not_true_eq_false not_false_eq_true decide_true decide_false Nat.le_refl and_self Bool.not_eq_true Nat.sub_self or_true true_or Option.some.injEq List.length_map List.nil_eq and_false false_and AV.live CV.live CV.liveIn K_keep firstReg Option.orElse_some Option.orElse_none head keepSlots keepBoxes Int.lt_irrefl List.length_append ite_self memOK logOps opKey lentBoxes Key.clash Key.sees Key.writes Nat.lt_irrefl gt_iff_lt nobox_at bot_at false_or or_false beq_self_eq_true Bool.true_beq Bool.false_beq
abbrev allH1 (s : List UInt8) (i : Nat) (ys : List Tok) : St := { sl := upd (upd (upd bot 4 (I i)) 3 (.c (.own 91 (ys.map Tok.enc)))) 0 (T s), bx := nobox, nt := 27 }
theorem good_ne {t : Tok} (h : Tk.Good t) : (t.kind != 0) = true := by
  rw [bne_iff_ne]
  cases h <;> simp
set_option maxHeartbeats 4000000 in
theorem all1_loop (s : List UInt8) (hs : s.length < 4000000000) : ∀ (l : List UInt8) (i : Nat) (ys : List Tok), s.drop i = l → i ≤ s.length → ys.length + l.length < 4000000000 →
    Ends (exL K 33 (.loop (loopAt Tryz.f33 3)) (allH1 s i ys)) fun o S => o = .exit 0 ∧ S.nt = 27 ∧ S.sl 3 = .c (.own 91 ((ys ++ Tk.all l).map Tok.enc)) := by
  refine Tk.all_ind (Q := fun l => ∀ (i : Nat) (ys : List Tok), s.drop i = l → i ≤ s.length → ys.length + l.length < 4000000000 →
    Ends (exL K 33 (.loop (loopAt Tryz.f33 3)) (allH1 s i ys)) fun o S => o = .exit 0 ∧ S.nt = 27 ∧ S.sl 3 = .c (.own 91 ((ys ++ Tk.all l).map Tok.enc))) ?_ ?_
  · intro i ys hd hi _
    have hin : i = s.length := by
      have := List.drop_eq_nil_iff.1 hd
      omega
    subst hin
    rw [Tk.all_nil, List.append_nil]
    conv in loopAt _ _ => whnf
    rw [exL_loop]
    simp only [go_sem, Nat.reduceLT, reduceIte, reduceCtorEq, Nat.reduceEqDiff, apply_ite (Option.map (outOf _)), Nat.reduceBEq, Nat.reduceAdd, Nat.reduceSub, Nat.reduceLeDiff, Nat.reduceMul, ev_buildSlice (len := 0) ty_descOf_60 ty_szOf_91 ty_zeroCells_91 ⟨rfl, by decide, by decide⟩, ev_len_str ty_descOf_9, good_65, ty_zeroCells_91, ty_szOf_91, ty_fieldOff_91_0, ty_szOf_3, ty_shapeT_3, ty_shapeT_91, ev_buildSlice (len := 1) ty_descOf_60 ty_szOf_91 ty_zeroCells_91 ⟨rfl, by decide, by decide⟩, ev_append ty_appInfo_60, ev_appNew_sl ty_descOf_60, keep_33_3, ends_some]
  · intro c r ih i ys hd hi hl
    obtain ⟨g1, g2, g3⟩ := drop_cons hd
    have hp := Tk.step_pos c r
    have hle := Tk.step_le c r
    have hn := next1_den s i c r hs hd
    have hlt : decide ((i : Int) < (s.length : Int)) = true := decide_eq_true (by omega)
    have hlen : (c :: r).length = s.length - i := by rw [← hd, List.length_drop]
    have hdd : s.drop (i + (Tk.step c r).2) = (c :: r).drop (Tk.step c r).2 := by rw [← List.drop_drop, hd]
    have hall := Tk.all_cons c r
    have ih' := ih (i + (Tk.step c r).2)
    simp only [tokAt, Tok.cells] at hn
    cases hst : (Tk.step c r).1 with
    | none =>
      rw [hst] at hn hall
      simp only [stepT, Option.getD_none] at hn
      simp only [Option.toList_none, List.nil_append] at hall
      have e0 : ((0 : Int) != 0) = false := by decide
      have ih2 := ih' ys hdd (by omega) (by rw [List.length_drop]; omega)
      rw [← hall] at ih2
      conv at ih2 in loopAt _ _ => whnf
      conv in loopAt _ _ => whnf
      rw [exL_loop]
      simp only [go_sem, Nat.reduceLT, reduceIte, reduceCtorEq, Nat.reduceEqDiff, apply_ite (Option.map (outOf _)), Nat.reduceBEq, Nat.reduceAdd, Nat.reduceSub, Nat.reduceLeDiff, Nat.reduceMul, ev_buildSlice (len := 0) ty_descOf_60 ty_szOf_91 ty_zeroCells_91 ⟨rfl, by decide, by decide⟩, ev_len_str ty_descOf_9, good_65, ty_zeroCells_91, ty_szOf_91, ty_fieldOff_91_0, ty_szOf_3, ty_shapeT_3, ty_shapeT_91, ev_buildSlice (len := 1) ty_descOf_60 ty_szOf_91 ty_zeroCells_91 ⟨rfl, by decide, by decide⟩, ev_append ty_appInfo_60, ev_appNew_sl ty_descOf_60, keep_33_3, hlt, hn, e0, TV.flat]
      rw [exL_head]
      simp only [go_sem, Nat.reduceLT, reduceIte, reduceCtorEq, Nat.reduceEqDiff, apply_ite (Option.map (outOf _)), Nat.reduceBEq, Nat.reduceAdd, Nat.reduceSub, Nat.reduceLeDiff, Nat.reduceMul, ev_buildSlice (len := 0) ty_descOf_60 ty_szOf_91 ty_zeroCells_91 ⟨rfl, by decide, by decide⟩, ev_len_str ty_descOf_9, good_65, ty_zeroCells_91, ty_szOf_91, ty_fieldOff_91_0, ty_szOf_3, ty_shapeT_3, ty_shapeT_91, ev_buildSlice (len := 1) ty_descOf_60 ty_szOf_91 ty_zeroCells_91 ⟨rfl, by decide, by decide⟩, ev_append ty_appInfo_60, ev_appNew_sl ty_descOf_60, keep_33_3]
      exact ih2
    | some t =>
      rw [hst] at hn hall
      simp only [stepT, Option.getD_some] at hn
      simp only [Option.toList_some, List.cons_append, List.nil_append] at hall
      have e0 := good_ne (Tk.step_good hst)
      have hla : ys.length + 1 < appLim := by simp [appLim]; simp only [List.length_cons] at hl; omega
      have ih2 := ih' (ys ++ [t]) hdd (by omega) (by rw [List.length_append, List.length_drop]; simp only [List.length_cons, List.length_nil] at *; omega)
      rw [List.append_assoc, List.cons_append, List.nil_append, ← hall] at ih2
      have hys : (ys ++ [t]).map Tok.enc = ys.map Tok.enc ++ [[.int .i64 t.kind, .str t.text, .int .i64 t.n]] := by simp [Tok.enc]
      simp only [allH1, hys] at ih2
      conv at ih2 in loopAt _ _ => whnf
      conv in loopAt _ _ => whnf
      rw [exL_loop]
      simp only [go_sem, Nat.reduceLT, reduceIte, reduceCtorEq, Nat.reduceEqDiff, apply_ite (Option.map (outOf _)), Nat.reduceBEq, Nat.reduceAdd, Nat.reduceSub, Nat.reduceLeDiff, Nat.reduceMul, ev_buildSlice (len := 0) ty_descOf_60 ty_szOf_91 ty_zeroCells_91 ⟨rfl, by decide, by decide⟩, ev_len_str ty_descOf_9, good_65, ty_zeroCells_91, ty_szOf_91, ty_fieldOff_91_0, ty_szOf_3, ty_shapeT_3, ty_shapeT_91, ev_buildSlice (len := 1) ty_descOf_60 ty_szOf_91 ty_zeroCells_91 ⟨rfl, by decide, by decide⟩, ev_append ty_appInfo_60, ev_appNew_sl ty_descOf_60, keep_33_3, hlt, hn, e0, TV.flat, hla, lens_toks, lens_tok]
      rw [exL_head]
      simp only [go_sem, Nat.reduceLT, reduceIte, reduceCtorEq, Nat.reduceEqDiff, apply_ite (Option.map (outOf _)), Nat.reduceBEq, Nat.reduceAdd, Nat.reduceSub, Nat.reduceLeDiff, Nat.reduceMul, ev_buildSlice (len := 0) ty_descOf_60 ty_szOf_91 ty_zeroCells_91 ⟨rfl, by decide, by decide⟩, ev_len_str ty_descOf_9, good_65, ty_zeroCells_91, ty_szOf_91, ty_fieldOff_91_0, ty_szOf_3, ty_shapeT_3, ty_shapeT_91, ev_buildSlice (len := 1) ty_descOf_60 ty_szOf_91 ty_zeroCells_91 ⟨rfl, by decide, by decide⟩, ev_append ty_appInfo_60, ev_appNew_sl ty_descOf_60, keep_33_3]
      exact ih2
theorem All1_den (s : List UInt8) (hs : s.length < 4000000000) : den K 33 [T s] [] = some (.ret (L ((Tk.all s).map Tok.enc)) []) := by
  refine den_run rfl rfl Tryz.func33 rfl Tryz.ntmps33 ⟨by simp, by simp [LK]⟩ ?_
  have hr : Tryz.f33.results = #[.tmp 2] := rfl
  have hl := all1_loop s hs s 0 [] rfl (Nat.zero_le _) (by simp; omega)
  conv at hl in loopAt _ _ => whnf
  obtain ⟨o, S', e2, rfl, hn, h3⟩ := hl
  simp only [List.nil_append] at h3
  simp only [go_sem, Nat.reduceLT, reduceIte, reduceCtorEq, Nat.reduceEqDiff, apply_ite (Option.map (outOf _)), Nat.reduceBEq, Nat.reduceAdd, Nat.reduceSub, Nat.reduceLeDiff, Nat.reduceMul, ev_buildSlice (len := 0) ty_descOf_60 ty_szOf_91 ty_zeroCells_91 ⟨rfl, by decide, by decide⟩, ev_len_str ty_descOf_9, good_65, ty_zeroCells_91, ty_szOf_91, ty_fieldOff_91_0, ty_szOf_3, ty_shapeT_3, ty_shapeT_91, ev_buildSlice (len := 1) ty_descOf_60 ty_szOf_91 ty_zeroCells_91 ⟨rfl, by decide, by decide⟩, ev_append ty_appInfo_60, ev_appNew_sl ty_descOf_60, keep_33_3]
  rw [exL_head]
  simp only [go_sem, Nat.reduceLT, reduceIte, reduceCtorEq, Nat.reduceEqDiff, apply_ite (Option.map (outOf _)), Nat.reduceBEq, Nat.reduceAdd, Nat.reduceSub, Nat.reduceLeDiff, Nat.reduceMul, ev_buildSlice (len := 0) ty_descOf_60 ty_szOf_91 ty_zeroCells_91 ⟨rfl, by decide, by decide⟩, ev_len_str ty_descOf_9, good_65, ty_zeroCells_91, ty_szOf_91, ty_fieldOff_91_0, ty_szOf_3, ty_shapeT_3, ty_shapeT_91, ev_buildSlice (len := 1) ty_descOf_60 ty_szOf_91 ty_zeroCells_91 ⟨rfl, by decide, by decide⟩, ev_append ty_appInfo_60, ev_appNew_sl ty_descOf_60, keep_33_3]
  erw [e2]
  simp only [go_sem, Nat.reduceLT, reduceIte, reduceCtorEq, Nat.reduceEqDiff, apply_ite (Option.map (outOf _)), Nat.reduceBEq, Nat.reduceAdd, Nat.reduceSub, Nat.reduceLeDiff, Nat.reduceMul, ev_buildSlice (len := 0) ty_descOf_60 ty_szOf_91 ty_zeroCells_91 ⟨rfl, by decide, by decide⟩, ev_len_str ty_descOf_9, good_65, ty_zeroCells_91, ty_szOf_91, ty_fieldOff_91_0, ty_szOf_3, ty_shapeT_3, ty_shapeT_91, ev_buildSlice (len := 1) ty_descOf_60 ty_szOf_91 ty_zeroCells_91 ⟨rfl, by decide, by decide⟩, ev_append ty_appInfo_60, ev_appNew_sl ty_descOf_60, keep_33_3, hr, hn, h3]
end Go.Abs
namespace Go.Abs
open Go Go.Proofs
set_option maxRecDepth 10000
attribute [local go_sem] exL_seq exL_region exL_cond exL_block exL_scope exL_ret exL_skip exL_exit runRegion runOps stepOp guardA absOp takeOver opd avOf cvOf St.degAt St.put okPV okVal okAV absBin intBin strBin boolBin setBoxes if_true Bool.false_eq_true if_false Option.map_some Option.map_none Option.bind_some Option.bind_none thenO outOf upd List.toList_toArray isOwn steal appArgs mvB fullAt absFull inApps AV.deg CV.deg AV.gv AV.isIter absNext some_bne some_beqN List.length_nil List.length_cons List.filterMap_cons List.filterMap_nil beq_iff_eq List.getElem?_cons_zero List.getElem?_cons_succ Option.getD_some K_hook hookB Bool.false_and Bool.and_false Bool.and_self K_P K_own absCall doCall getBoxes lend back idx dedup AV.ren CV.ren TV.ren AV.ptrs CV.ptrs zipBox AV.flat CV.flat absLoad absStore cellsOfAV setAt newBox markB bldTypes absFieldAddr absField absExtract absAssert noAssert absMkIface ifcOf CV.pv? content pushHead ownT fillCells reps pvs chunks enterSt leave resOf resVars resVar outBoxes lentOnly TV.deg TV.av LK CV.plain CV.noBld nilBin absUn bound List.map_cons List.map_nil List.all_cons List.all_nil List.any_cons List.any_nil List.contains_cons List.contains_nil List.elem_cons List.elem_nil List.cons_append List.nil_append List.append_nil List.flatMap_cons List.flatMap_nil List.zip_cons_cons List.zip_nil_left List.zip_nil_right List.take_succ_cons List.take_zero List.take_nil List.drop_succ_cons List.drop_zero List.drop_nil List.isEmpty_nil List.isEmpty_cons Bool.and_true Bool.true_and Bool.or_true Bool.true_or Bool.or_false Bool.false_or Bool.not_true Bool.not_false Nat.add_zero Nat.zero_add Option.isNone_none Option.isNone_some Option.getD_none true_and and_true not_true_eq_false not_false_eq_true decide_true decide_false Nat.le_refl and_self Bool.not_eq_true Nat.sub_self or_true true_or Option.some.injEq List.length_map List.nil_eq and_false false_and AV.live CV.live CV.liveIn K_keep firstReg Option.orElse_some Option.orElse_none head keepSlots keepBoxes Int.lt_irrefl List.length_append ite_self memOK logOps opKey lentBoxes Key.clash Key.sees Key.writes Nat.lt_irrefl gt_iff_lt nobox_at bot_at false_or or_false beq_self_eq_true Bool.true_beq Bool.false_beq
theorem u2_loop (l : List Tok) (hl : l.length ≤ 100000000) : ∀ (m : Nat) (i : Nat), l.length - i ≤ m → i ≤ l.length → ∀ (kind : Int) (left : Nat), left < 1000 → ∀ (e : Nat) (acc : List Val), acc.length ≤ i → (e = 93 ∨ acc = []) →
    Ends (exL K 64 ulp2 (u2H l kind left i e acc)) (ULoop2 l kind left i acc) := by
  intro m
  induction m with
  | zero =>
    intro i hm hi kind left hleft e acc hacc he
    obtain rfl : i = l.length := by omega
    refine ends_imp (u2_nil l kind left e acc) fun o S q => ?_
    unfold ULoop2
    rw [List.drop_length, Ne.until_nil]
    refine ⟨l.length, List.drop_length, Nat.le_refl _, Nat.le_refl _, .inr ?_⟩
    rw [List.append_nil]
    exact ⟨q.1, q.2.1, q.2.2.1, q.2.2.2.1, q.2.2.2.2.1, e, q.2.2.2.2.2⟩
  | succ m ih =>
    intro i hm hi kind left hleft e acc hacc he
    by_cases hil : i = l.length
    · subst hil
      refine ends_imp (u2_nil l kind left e acc) fun o S q => ?_
      unfold ULoop2
      rw [List.drop_length, Ne.until_nil]
      refine ⟨l.length, List.drop_length, Nat.le_refl _, Nat.le_refl _, .inr ?_⟩
      rw [List.append_nil]
      exact ⟨q.1, q.2.1, q.2.2.1, q.2.2.2.1, q.2.2.2.2.1, e, q.2.2.2.2.2⟩
    · have hlt : i < l.length := by omega
      have hd : l.drop i = l[i] :: l.drop (i + 1) := List.drop_eq_getElem_cons hlt
      have hg : l[i]? = some l[i] := List.getElem?_eq_getElem hlt
      generalize l[i] = t at hd hg
      have hu := Ne.until_cons kind left t (l.drop (i + 1))
      rw [← hd] at hu
      cases hb : Ne.isLast kind t with
      | true =>
        refine ends_imp (u2_last l kind left i e acc t hg hl hb) fun o S q => ?_
        rw [hb, if_pos rfl] at hu
        unfold ULoop2
        rw [hu]
        exact ⟨i + 1, rfl, hlt, by omega, .inl (by rw [List.append_nil]; exact q)⟩
      | false =>
        rw [hb, if_neg (by simp)] at hu
        by_cases h0 : Ne.opens t = 0
        · rw [if_pos h0] at hu
          have hs := u2_tok l kind left i e acc t hg hl hb he (by omega) h0
          rw [hs]
          have hacc2 : (acc ++ [Val.mk 1 t []]).length ≤ i + 1 := by rw [List.length_append, List.length_singleton]; omega
          have hmm : l.length - (i + 1) ≤ m := by omega
          have hi := ih (i + 1) hmm hlt kind left hleft 93 (acc ++ [.mk 1 t []]) hacc2 (Or.inl rfl)
          refine ends_imp hi fun o S q => ?_
          unfold ULoop2 at q ⊢
          rw [hu]
          cases hv : Ne.until_ kind left (l.drop (i + 1)) with
          | none => rw [hv] at q; exact q
          | some x =>
            rw [hv] at q
            obtain ⟨j, q1, q2, q3, q4⟩ := q
            have ha : acc ++ Val.mk 1 t [] :: x.1 = acc ++ [Val.mk 1 t []] ++ x.1 := by simp
            refine ⟨j, q1, q2, by omega, ?_⟩
            show Ret2 (encL (acc ++ Val.mk 1 t [] :: x.1)) _ _ _ _ ∨ _
            rw [ha]
            exact q4
        · rw [if_neg h0] at hu
          cases left with
          | zero =>
            refine ends_imp (u2_zero l kind i e acc t hg hl hb h0) fun o S q => ?_
            unfold ULoop2
            rw [hu]
            exact q
          | succ n =>
            have hn : n < 1000 := by omega
            have hmm : l.length - (i + 1) ≤ m := by omega
            have hin := u2_den (ih (i + 1) hmm hlt (Ne.opens t) n hn 0 [] (Nat.zero_le _) (Or.inr rfl))
            unfold UDen2 at hin
            simp only at hu
            cases hv : Ne.until_ (Ne.opens t) n (l.drop (i + 1)) with
            | none =>
              rw [hv] at hin hu
              obtain ⟨a, b, hin⟩ := hin
              refine ends_imp (u2_bad l kind n i e acc t hg hl hn hb h0 a b hin) fun o S q => ?_
              unfold ULoop2
              rw [hu]
              exact q
            | some x =>
              obtain ⟨vs, rest⟩ := x
              rw [hv] at hin hu
              obtain ⟨j, q1, q2, q3, hin⟩ := hin
              have hs := u2_in l kind n i j e acc t vs hg hl hn hb he (by omega) h0 hin
              rw [hs]
              have hacc2 : (acc ++ [Val.mk (Ne.opens t) (if Ne.opens t = 5 then t else Ne.tok0) vs]).length ≤ j := by rw [List.length_append, List.length_singleton]; omega
              have hmm2 : l.length - j ≤ m := by omega
              have hi := ih j hmm2 q2 kind (n + 1) hleft 93 (acc ++ [.mk (Ne.opens t) (if Ne.opens t = 5 then t else Ne.tok0) vs]) hacc2 (Or.inl rfl)
              refine ends_imp hi fun o S q => ?_
              unfold ULoop2 at q ⊢
              rw [q1] at q
              simp only at hu
              rw [hu]
              cases hv2 : Ne.until_ kind (n + 1) rest with
              | none => rw [hv2] at q; exact q
              | some y =>
                rw [hv2] at q
                obtain ⟨j', r1, r2, r3, r4⟩ := q
                have ha : acc ++ Val.mk (Ne.opens t) (if Ne.opens t = 5 then t else Ne.tok0) vs :: y.1 = acc ++ [Val.mk (Ne.opens t) (if Ne.opens t = 5 then t else Ne.tok0) vs] ++ y.1 := by simp
                refine ⟨j', r1, r2, by omega, ?_⟩
                show Ret2 (encL (acc ++ Val.mk (Ne.opens t) (if Ne.opens t = 5 then t else Ne.tok0) vs :: y.1)) _ _ _ _ ∨ _
                rw [ha]
                exact r4
theorem until2_all (l : List Tok) (hl : l.length ≤ 100000000) (left : Nat) (hleft : left < 1000) : UDen2 l 0 left 0 :=
  u2_den (u2_loop l hl l.length 0 (by omega) (Nat.zero_le _) 0 left hleft 0 [] (Nat.zero_le _) (Or.inr rfl))
def parseR2 (deep : Int) (l : List Tok) : AV :=
  if deep < 1 ∨ 60 < deep then .tup [.c .nils, .c (.pv (.int .i64 1))]
  else match Ne.until_ 0 deep.toNat l with
    | some x => .tup [.c (.pv (.sl (encL x.1))), .c (.pv (.int .i64 0))]
    | none => .tup [.c .nils, .c (.pv (.int .i64 20))]
theorem Parse2_den (l : List Tok) (hl : l.length ≤ 100000000) (deep : Int) : den K 32 [L (l.map Tok.enc), I deep] [] = some (.ret (parseR2 deep l) []) := by
  refine den_run rfl rfl Tryz.func32 rfl Tryz.ntmps32 ⟨by simp, by simp [LK]⟩ ?_
  have hr : Tryz.f32.results = #[.tmp 4, .tmp 5] := rfl
  unfold parseR2
  by_cases h1 : deep < 1
  · have e1 : decide (deep < 1) = true := decide_eq_true h1
    rw [if_pos (.inl h1)]
    simp only [go_sem, Nat.reduceLT, reduceIte, reduceCtorEq, Nat.reduceEqDiff, apply_ite (Option.map (outOf _)), Nat.reduceBEq, Nat.reduceAdd, Nat.reduceSub, Nat.reduceLeDiff, Nat.reduceMul, good_64, ty_zeroCells_102, ty_szOf_102, ty_fieldOff_102_2, ty_szOf_4, ty_shapeT_4, ty_fieldOff_102_0, ty_szOf_23, ty_shapeT_23, hr, e1]
  · have e1 : decide (deep < 1) = false := decide_eq_false h1
    by_cases h2 : 60 < deep
    · have e2 : decide (60 < deep) = true := decide_eq_true h2
      rw [if_pos (.inr h2)]
      simp only [go_sem, Nat.reduceLT, reduceIte, reduceCtorEq, Nat.reduceEqDiff, apply_ite (Option.map (outOf _)), Nat.reduceBEq, Nat.reduceAdd, Nat.reduceSub, Nat.reduceLeDiff, Nat.reduceMul, good_64, ty_zeroCells_102, ty_szOf_102, ty_fieldOff_102_2, ty_szOf_4, ty_shapeT_4, ty_fieldOff_102_0, ty_szOf_23, ty_shapeT_23, hr, e1, e2]
    · have e2 : decide (60 < deep) = false := decide_eq_false h2
      rw [if_neg (by omega)]
      obtain ⟨d, rfl⟩ : ∃ d : Nat, deep = d := ⟨deep.toNat, by omega⟩
      rw [Int.toNat_natCast]
      have hu := until2_all l hl d (by omega)
      unfold UDen2 at hu
      rw [List.drop_zero] at hu
      have z0 : ((0 : Nat) : Int) = 0 := rfl
      rw [z0] at hu
      cases hv : Ne.until_ 0 d l with
      | some x =>
        rw [hv] at hu
        obtain ⟨j, _, _, _, hu⟩ := hu
        simp only [go_sem, Nat.reduceLT, reduceIte, reduceCtorEq, Nat.reduceEqDiff, apply_ite (Option.map (outOf _)), Nat.reduceBEq, Nat.reduceAdd, Nat.reduceSub, Nat.reduceLeDiff, Nat.reduceMul, good_64, ty_zeroCells_102, ty_szOf_102, ty_fieldOff_102_2, ty_szOf_4, ty_shapeT_4, ty_fieldOff_102_0, ty_szOf_23, ty_shapeT_23, hr, e1, e2, hu]
      | none =>
        rw [hv] at hu
        obtain ⟨a, b, hu⟩ := hu
        simp only [go_sem, Nat.reduceLT, reduceIte, reduceCtorEq, Nat.reduceEqDiff, apply_ite (Option.map (outOf _)), Nat.reduceBEq, Nat.reduceAdd, Nat.reduceSub, Nat.reduceLeDiff, Nat.reduceMul, good_64, ty_zeroCells_102, ty_szOf_102, ty_fieldOff_102_2, ty_szOf_4, ty_shapeT_4, ty_fieldOff_102_0, ty_szOf_23, ty_shapeT_23, hr, e1, e2, hu]
theorem Parse_den (l : List Tok) (hl : l.length ≤ 1000000) (deep : Int) : den K 98 [L (l.map Tok.enc), I deep] [] = some (.ret (parseR deep l) []) := by
  refine prim_run (F := pParse) rfl ?_
  unfold pParse
  simp only [dec_enc]
  rw [if_pos hl]
end Go.Abs
namespace Go.Abs
open Go Go.Proofs
set_option maxRecDepth 10000
attribute [local go_sem] exL_seq exL_region exL_cond exL_block exL_scope exL_ret exL_skip exL_exit runRegion runOps stepOp guardA absOp takeOver opd avOf cvOf St.degAt St.put okPV okVal okAV absBin intBin strBin boolBin setBoxes if_true Bool.false_eq_true if_false Option.map_some Option.map_none Option.bind_some Option.bind_none thenO outOf upd List.toList_toArray isOwn steal appArgs mvB fullAt absFull inApps AV.deg CV.deg AV.gv AV.isIter absNext some_bne some_beqN List.length_nil List.length_cons List.filterMap_cons List.filterMap_nil beq_iff_eq List.getElem?_cons_zero List.getElem?_cons_succ Option.getD_some K_hook hookB Bool.false_and Bool.and_false Bool.and_self K_P K_own absCall doCall getBoxes lend back idx dedup AV.ren CV.ren TV.ren AV.ptrs CV.ptrs zipBox AV.flat CV.flat absLoad absStore cellsOfAV setAt newBox markB bldTypes absFieldAddr absField absExtract absAssert noAssert absMkIface ifcOf CV.pv? content pushHead ownT fillCells reps pvs chunks enterSt leave resOf resVars resVar outBoxes lentOnly TV.deg TV.av LK CV.plain CV.noBld nilBin absUn bound List.map_cons List.map_nil List.all_cons List.all_nil List.any_cons List.any_nil List.contains_cons List.contains_nil List.elem_cons List.elem_nil List.cons_append List.nil_append List.append_nil List.flatMap_cons List.flatMap_nil List.zip_cons_cons List.zip_nil_left List.zip_nil_right List.take_succ_cons List.take_zero List.take_nil List.drop_succ_cons List.drop_zero List.drop_nil List.isEmpty_nil List.isEmpty_cons Bool.and_true Bool.true_and Bool.or_true Bool.true_or Bool.or_false Bool.false_or Bool.not_true Bool.not_false Nat.add_zero Nat.zero_add Option.isNone_none Option.isNone_some Option.getD_none true_and and_true not_true_eq_false not_false_eq_true decide_true decide_false Nat.le_refl and_self Bool.not_eq_true Nat.sub_self or_true true_or Option.some.injEq List.length_map List.nil_eq and_false false_and AV.live CV.live CV.liveIn K_keep firstReg Option.orElse_some Option.orElse_none head keepSlots keepBoxes Int.lt_irrefl List.length_append ite_self memOK logOps opKey lentBoxes Key.clash Key.sees Key.writes Nat.lt_irrefl gt_iff_lt nobox_at bot_at false_or or_false beq_self_eq_true Bool.true_beq Bool.false_beq
theorem all_count (s : List UInt8) : (Tk.all s).length ≤ s.length := Tk.all_len s
theorem ts_flat {l : List Tok} {v : List Val} {n : Nat} (h : Ne.parse 60 l = some v) (hl : ∀ t ∈ l, t.text.length ≤ n) (hn : n < 1000000000) : TSh v := fun t ht => by
  obtain ⟨_, _, _, c, hc⟩ := Ne.parse_good h
  rw [hc] at ht
  rcases List.mem_append.1 ht with ht | ht
  · have := hl t ht; omega
  · obtain ⟨k, _, rfl⟩ := List.mem_map.1 ht
    unfold Ne.closeT
    simp
end Go.Abs
namespace Go.Abs
open Go Go.Proofs
set_option maxRecDepth 10000
attribute [local go_sem] exL_seq exL_region exL_cond exL_block exL_scope exL_ret exL_skip exL_exit runRegion runOps stepOp guardA absOp takeOver opd avOf cvOf St.degAt St.put okPV okVal okAV absBin intBin strBin boolBin setBoxes if_true Bool.false_eq_true if_false Option.map_some Option.map_none Option.bind_some Option.bind_none thenO outOf upd List.toList_toArray isOwn steal appArgs mvB fullAt absFull inApps AV.deg CV.deg AV.gv AV.isIter absNext some_bne some_beqN List.length_nil List.length_cons List.filterMap_cons List.filterMap_nil beq_iff_eq List.getElem?_cons_zero List.getElem?_cons_succ Option.getD_some K_hook hookB Bool.false_and Bool.and_false Bool.and_self K_P K_own absCall doCall getBoxes lend back idx dedup AV.ren CV.ren TV.ren AV.ptrs CV.ptrs zipBox AV.flat CV.flat absLoad absStore cellsOfAV setAt newBox markB bldTypes absFieldAddr absField absExtract absAssert noAssert absMkIface ifcOf CV.pv? content pushHead ownT fillCells reps pvs chunks enterSt leave resOf resVars resVar outBoxes lentOnly TV.deg TV.av LK CV.plain CV.noBld nilBin absUn bound List.map_cons List.map_nil List.all_cons List.all_nil List.any_cons List.any_nil List.contains_cons List.contains_nil List.elem_cons List.elem_nil List.cons_append List.nil_append List.append_nil List.flatMap_cons List.flatMap_nil List.zip_cons_cons List.zip_nil_left List.zip_nil_right List.take_succ_cons List.take_zero List.take_nil List.drop_succ_cons List.drop_zero List.drop_nil List.isEmpty_nil List.isEmpty_cons Bool.and_true Bool.true_and Bool.or_true Bool.true_or Bool.or_false Bool.false_or Bool.not_true Bool.not_false Nat.add_zero Nat.zero_add Option.isNone_none Option.isNone_some Option.getD_none true_and and_true not_true_eq_false not_false_eq_true decide_true decide_false Nat.le_refl and_self Bool.not_eq_true Nat.sub_self or_true true_or Option.some.injEq List.length_map List.nil_eq and_false false_and AV.live CV.live CV.liveIn K_keep firstReg Option.orElse_some Option.orElse_none head keepSlots keepBoxes Int.lt_irrefl List.length_append ite_self memOK logOps opKey lentBoxes Key.clash Key.sees Key.writes Nat.lt_irrefl gt_iff_lt nobox_at bot_at false_or or_false beq_self_eq_true Bool.true_beq Bool.false_beq
theorem parse_some {deep : Int} {l : List Tok} {vs : List Val} (h1 : 1 ≤ deep) (h2 : deep ≤ 60) (h : Ne.parse deep.toNat l = some vs) : parseR deep l = .tup [.c (.pv (.sl (encL vs))), .c (.pv (.int .i64 0))] := by
  unfold parseR
  rw [if_neg (by omega)]
  unfold Ne.parse at h
  cases hu : Ne.until_ 0 deep.toNat l with
  | some x => rw [hu] at h; cases h; rfl
  | none => rw [hu] at h; cases h
theorem parse_none {deep : Int} {l : List Tok} (h1 : 1 ≤ deep) (h2 : deep ≤ 60) (h : Ne.parse deep.toNat l = none) : parseR deep l = .tup [.c (.pv (.sl [])), .c (.pv (.int .i64 20))] := by
  unfold parseR
  rw [if_neg (by omega)]
  unfold Ne.parse at h
  cases hu : Ne.until_ 0 deep.toNat l with
  | some x => rw [hu] at h; cases h
  | none => rfl
end Go.Abs
namespace Go.Abs
open Go Go.Proofs
set_option maxRecDepth 10000
attribute [local go_sem] exL_seq exL_region exL_cond exL_block exL_scope exL_ret exL_skip exL_exit runRegion runOps stepOp guardA absOp takeOver opd avOf cvOf St.degAt St.put okPV okVal okAV absBin intBin strBin boolBin setBoxes if_true Bool.false_eq_true if_false Option.map_some Option.map_none Option.bind_some Option.bind_none thenO outOf upd List.toList_toArray isOwn steal appArgs mvB fullAt absFull inApps AV.deg CV.deg AV.gv AV.isIter absNext some_bne some_beqN List.length_nil List.length_cons List.filterMap_cons List.filterMap_nil beq_iff_eq List.getElem?_cons_zero List.getElem?_cons_succ Option.getD_some K_hook hookB Bool.false_and Bool.and_false Bool.and_self K_P K_own absCall doCall getBoxes lend back idx dedup AV.ren CV.ren TV.ren AV.ptrs CV.ptrs zipBox AV.flat CV.flat absLoad absStore cellsOfAV setAt newBox markB bldTypes absFieldAddr absField absExtract absAssert noAssert absMkIface ifcOf CV.pv? content pushHead ownT fillCells reps pvs chunks enterSt leave resOf resVars resVar outBoxes lentOnly TV.deg TV.av LK CV.plain CV.noBld nilBin absUn bound List.map_cons List.map_nil List.all_cons List.all_nil List.any_cons List.any_nil List.contains_cons List.contains_nil List.elem_cons List.elem_nil List.cons_append List.nil_append List.append_nil List.flatMap_cons List.flatMap_nil List.zip_cons_cons List.zip_nil_left List.zip_nil_right List.take_succ_cons List.take_zero List.take_nil List.drop_succ_cons List.drop_zero List.drop_nil List.isEmpty_nil List.isEmpty_cons Bool.and_true Bool.true_and Bool.or_true Bool.true_or Bool.or_false Bool.false_or Bool.not_true Bool.not_false Nat.add_zero Nat.zero_add Option.isNone_none Option.isNone_some Option.getD_none true_and and_true not_true_eq_false not_false_eq_true decide_true decide_false Nat.le_refl and_self Bool.not_eq_true Nat.sub_self or_true true_or Option.some.injEq List.length_map List.nil_eq and_false false_and AV.live CV.live CV.liveIn K_keep firstReg Option.orElse_some Option.orElse_none head keepSlots keepBoxes Int.lt_irrefl List.length_append ite_self memOK logOps opKey lentBoxes Key.clash Key.sees Key.writes Nat.lt_irrefl gt_iff_lt nobox_at bot_at false_or or_false beq_self_eq_true Bool.true_beq Bool.false_beq
def readAV (s : List UInt8) : AV := match Sl.readS s with
  | some a => .tup [.c (.pv (.sl (encL a))), .c (.pv (.int .i64 0))]
  | none => .tup [.c (.pv (.sl [])), .c (.pv (.int .i64 20))]
def readAV3 (s : List UInt8) : AV := match Sl.readS s with
  | some a => .tup [.c (.pv (.sl (encL a))), .c (.pv (.int .i64 0))]
  | none => .tup [.c .nils, .c (.pv (.int .i64 20))]
theorem ReadV_den (s : List UInt8) (hs : s.length < 4000000000) (hal : (Tk.all s).length ≤ 1000000) : den K 49 [T s] [] = some (.ret (readAV s) []) := by
  have h1 := All_den s hs
  have h2 := Parse_den (Tk.all s) (by omega) 60
  unfold readAV Sl.readS
  refine den_run rfl rfl Tryz.func49 rfl Tryz.ntmps49 ⟨by simp, by simp [LK]⟩ ?_
  have hr : Tryz.f49.results = #[.tmp 2, .tmp 3] := rfl
  cases hp : Ne.parse 60 (Tk.all s) with
  | none =>
    rw [parse_none (deep := 60) (by decide) (by decide) hp] at h2
    have h3 := TrimS_den [] (by simp)
    have e0 : encL [] = [] := rfl
    have e1 : Sl.trim [] = [] := rfl
    rw [e1, e0] at h3
    simp only [go_sem, Nat.reduceLT, reduceIte, reduceCtorEq, Nat.reduceEqDiff, apply_ite (Option.map (outOf _)), Nat.reduceBEq, Nat.reduceAdd, Nat.reduceSub, Nat.reduceLeDiff, Nat.reduceMul, good_99, good_98, good_70, hr, h1, h2, h3, Option.map_none, TV.flat]
  | some vs =>
    rw [parse_some (deep := 60) (by decide) (by decide) hp] at h2
    obtain ⟨_, _, hsz, _⟩ := Ne.parse_good hp
    have hl := Ne.length_size vs
    have h3 := TrimS_den vs (by omega)
    simp only [go_sem, Nat.reduceLT, reduceIte, reduceCtorEq, Nat.reduceEqDiff, apply_ite (Option.map (outOf _)), Nat.reduceBEq, Nat.reduceAdd, Nat.reduceSub, Nat.reduceLeDiff, Nat.reduceMul, good_99, good_98, good_70, hr, h1, h2, h3, Option.map_some, TV.flat]
theorem parse_some2 {deep : Int} {l : List Tok} {vs : List Val} (h1 : 1 ≤ deep) (h2 : deep ≤ 60) (h : Ne.parse deep.toNat l = some vs) : parseR2 deep l = .tup [.c (.pv (.sl (encL vs))), .c (.pv (.int .i64 0))] := by
  unfold parseR2
  rw [if_neg (by omega)]
  unfold Ne.parse at h
  cases hu : Ne.until_ 0 deep.toNat l with
  | some x => rw [hu] at h; cases h; rfl
  | none => rw [hu] at h; cases h
theorem parse_none2 {deep : Int} {l : List Tok} (h1 : 1 ≤ deep) (h2 : deep ≤ 60) (h : Ne.parse deep.toNat l = none) : parseR2 deep l = .tup [.c .nils, .c (.pv (.int .i64 20))] := by
  unfold parseR2
  rw [if_neg (by omega)]
  unfold Ne.parse at h
  cases hu : Ne.until_ 0 deep.toNat l with
  | some x => rw [hu] at h; cases h
  | none => rfl
theorem ReadV3_den (s : List UInt8) (hs : s.length < 4000000000) (hal : (Tk.all s).length ≤ 1000000) : den K 11 [T s] [] = some (.ret (readAV3 s) []) := by
  have h1 := All1_den s hs
  have h2 := Parse2_den (Tk.all s) (by omega) 60
  unfold readAV3 Sl.readS
  have e20 : ((20 : Int) != 0) = true := by decide
  have e00 : ((0 : Int) != 0) = false := by decide
  refine den_run rfl rfl Tryz.func11 rfl Tryz.ntmps11 ⟨by simp, by simp [LK]⟩ ?_
  have hr : Tryz.f11.results = #[.tmp 2, .tmp 3] := rfl
  cases hp : Ne.parse 60 (Tk.all s) with
  | none =>
    rw [parse_none2 (deep := 60) (by decide) (by decide) hp] at h2
    simp only [go_sem, Nat.reduceLT, reduceIte, reduceCtorEq, Nat.reduceEqDiff, apply_ite (Option.map (outOf _)), Nat.reduceBEq, Nat.reduceAdd, Nat.reduceSub, Nat.reduceLeDiff, Nat.reduceMul, good_33, good_32, good_34, hr, h1, h2, e20, e00, Option.map_none, TV.flat]
  | some vs =>
    rw [parse_some2 (deep := 60) (by decide) (by decide) hp] at h2
    obtain ⟨_, _, hsz, _⟩ := Ne.parse_good hp
    have hl := Ne.length_size vs
    have h3 := Trim_den vs (by omega)
    simp only [go_sem, Nat.reduceLT, reduceIte, reduceCtorEq, Nat.reduceEqDiff, apply_ite (Option.map (outOf _)), Nat.reduceBEq, Nat.reduceAdd, Nat.reduceSub, Nat.reduceLeDiff, Nat.reduceMul, good_33, good_32, good_34, hr, h1, h2, h3, e00, e20, Option.map_some, TV.flat]
end Go.Abs
namespace Go.Abs
open Go Go.Proofs
set_option maxRecDepth 10000
attribute [local go_sem] exL_seq exL_region exL_cond exL_block exL_scope exL_ret exL_skip exL_exit runRegion runOps stepOp guardA absOp takeOver opd avOf cvOf St.degAt St.put okPV okVal okAV absBin intBin strBin boolBin setBoxes if_true Bool.false_eq_true if_false Option.map_some Option.map_none Option.bind_some Option.bind_none thenO outOf upd List.toList_toArray isOwn steal appArgs mvB fullAt absFull inApps AV.deg CV.deg AV.gv AV.isIter absNext some_bne some_beqN List.length_nil List.length_cons List.filterMap_cons List.filterMap_nil beq_iff_eq List.getElem?_cons_zero List.getElem?_cons_succ Option.getD_some K_hook hookB Bool.false_and Bool.and_false Bool.and_self K_P K_own absCall doCall getBoxes lend back idx dedup AV.ren CV.ren TV.ren AV.ptrs CV.ptrs zipBox AV.flat CV.flat absLoad absStore cellsOfAV setAt newBox markB bldTypes absFieldAddr absField absExtract absAssert noAssert absMkIface ifcOf CV.pv? content pushHead ownT fillCells reps pvs chunks enterSt leave resOf resVars resVar outBoxes lentOnly TV.deg TV.av LK CV.plain CV.noBld nilBin absUn bound List.map_cons List.map_nil List.all_cons List.all_nil List.any_cons List.any_nil List.contains_cons List.contains_nil List.elem_cons List.elem_nil List.cons_append List.nil_append List.append_nil List.flatMap_cons List.flatMap_nil List.zip_cons_cons List.zip_nil_left List.zip_nil_right List.take_succ_cons List.take_zero List.take_nil List.drop_succ_cons List.drop_zero List.drop_nil List.isEmpty_nil List.isEmpty_cons Bool.and_true Bool.true_and Bool.or_true Bool.true_or Bool.or_false Bool.false_or Bool.not_true Bool.not_false Nat.add_zero Nat.zero_add Option.isNone_none Option.isNone_some Option.getD_none true_and and_true not_true_eq_false not_false_eq_true decide_true decide_false Nat.le_refl and_self Bool.not_eq_true Nat.sub_self or_true true_or Option.some.injEq List.length_map List.nil_eq and_false false_and AV.live CV.live CV.liveIn K_keep firstReg Option.orElse_some Option.orElse_none head keepSlots keepBoxes Int.lt_irrefl List.length_append ite_self memOK logOps opKey lentBoxes Key.clash Key.sees Key.writes Nat.lt_irrefl gt_iff_lt nobox_at bot_at false_or or_false beq_self_eq_true Bool.true_beq Bool.false_beq
theorem readS_sz {s : List UInt8} {v : List Val} (h : Sl.readS s = some v) (hs : s.length ≤ 500000) : Ne.size v ≤ 1000000 ∧ TSh v := by
  unfold Sl.readS at h
  rw [Option.map_eq_some_iff] at h
  obtain ⟨u, hu, rfl⟩ := h
  have hc := all_count s
  have hv := (Ne.parse_good hu).2.2.1
  have hts := ts_flat hu (Tk.all_text s) (by omega)
  exact ⟨Nat.le_trans (size_trimL u) (by omega), ts_trim hts⟩
end Go.Abs
