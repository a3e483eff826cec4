/-
  WHAT THE FUNCTIONS COMPUTE, layer 2: nest.May.
  THE FIXED CALLS OF LAYER 2 answer as the document says: the interpreter's run, by the kernel.
  VALUES: what is so of each token; how many there are at most; what the laws' premises say.
-/
import Derived.Test.YtegabgmehebimaaDoorQT
import Derived.Test.YtegabgmehebimaaDoorQI
import Derived.Test.YtegabgmehebimaaDoorQS
import Derived.Test.YtegabgmehebimaaDoorQR
set_option linter.unusedSimpArgs false
set_option linter.unusedVariables false
namespace Go.Abs
open Go Go.Proofs
set_option maxRecDepth 10000
attribute [local go_sem] exL_seq exL_region exL_cond exL_block exL_scope exL_ret exL_skip exL_exit runRegion runOps stepOp guardA absOp takeOver opd avOf cvOf St.degAt St.put okPV okVal okAV absBin intBin strBin boolBin setBoxes if_true Bool.false_eq_true if_false Option.map_some Option.map_none Option.bind_some Option.bind_none thenO outOf upd List.toList_toArray isOwn steal appArgs inApps AV.deg CV.deg AV.gv AV.isIter absNext some_bne List.length_nil List.length_cons List.filterMap_cons List.filterMap_nil beq_iff_eq List.getElem?_cons_zero List.getElem?_cons_succ Option.getD_some K_hook hookB Bool.false_and Bool.and_false Bool.and_self K_P K_own absCall doCall getBoxes lend back idx dedup AV.ren CV.ren TV.ren AV.ptrs CV.ptrs zipBox AV.flat CV.flat absLoad absStore cellsOfAV setAt newBox markB bldTypes absFieldAddr absField absExtract absAssert noAssert absMkIface ifcOf CV.pv? content pushHead ownT fillCells reps pvs chunks enterSt leave resOf resVars resVar outBoxes lentOnly TV.deg TV.av LK CV.plain CV.noBld nilBin absUn bound List.map_cons List.map_nil List.all_cons List.all_nil List.any_cons List.any_nil List.contains_cons List.contains_nil List.elem_cons List.elem_nil List.cons_append List.nil_append List.append_nil List.flatMap_cons List.flatMap_nil List.zip_cons_cons List.zip_nil_left List.zip_nil_right List.take_succ_cons List.take_zero List.take_nil List.drop_succ_cons List.drop_zero List.drop_nil List.isEmpty_nil List.isEmpty_cons Bool.and_true Bool.true_and Bool.or_true Bool.true_or Bool.or_false Bool.false_or Bool.not_true Bool.not_false Nat.add_zero Nat.zero_add Option.isNone_none Option.isNone_some Option.getD_none true_and and_true not_true_eq_false not_false_eq_true decide_true decide_false Nat.le_refl and_self Bool.not_eq_true Nat.sub_self or_true true_or Option.some.injEq List.length_map List.nil_eq and_false false_and AV.live CV.live CV.liveIn K_keep firstReg Option.orElse_some Option.orElse_none head keepSlots keepBoxes Int.lt_irrefl List.length_append ite_self memOK logOps opKey lentBoxes Key.clash Key.sees Key.writes Nat.lt_irrefl gt_iff_lt nobox_at bot_at false_or or_false beq_self_eq_true Bool.true_beq Bool.false_beq

theorem may1_den (t : Tok) (ht : TokOk t) : den K 35 [.agg (tokCv t)] [] = some (.ret (B (!Tk.may t)) []) := by
  have h := May_den t ht.1 ht.2
  unfold Tok.cells at h
  refine den_run rfl Tryd.func35 rfl Tryd.ntmps35 ⟨by simp, by simp [LK]⟩ ?_
  have hr : Tryd.f35.results = #[.tmp 2] := rfl
  cases hm : Tk.may t <;> rw [hm] at h <;> simp only [go_sem, Nat.reduceLT, reduceIte, reduceCtorEq, Nat.reduceEqDiff, apply_ite (Option.map (outOf _)), Nat.reduceBEq, Nat.reduceAdd, Nat.reduceSub, Nat.reduceLeDiff, Nat.reduceMul, ty_shapeT_38, good_36, hr, h]

abbrev ixH (l : List Tok) (i : Nat) : St :=
  { sl := upd (upd (upd (upd bot 8 (I i)) 7 (I l.length)) 1 (FV 35)) 0 (L (l.map Tok.enc)), bx := upd nobox 100000 none, nt := 19 }

theorem ix_loop (l : List Tok) (hl : l.length ≤ 3000000) (hok : ∀ t ∈ l, TokOk t) : ∀ (rest : List Tok) (i : Nat), l.drop i = rest → i ≤ l.length →
    Ends (exL K 46 (.loop (loopAt Tryd.f46 2)) (ixH l i)) fun o S => (rest.all Tk.may = true ∧ o = .exit 0 ∧ S.nt = 19) ∨ (rest.all Tk.may = false ∧ o = .ret ∧ ∃ j : Nat, S.sl 4 = I (j : Int))
  | [], i, hd, hi => by
    have hin : i = l.length := by
      have := List.drop_eq_nil_iff.1 hd
      omega
    subst hin
    conv in loopAt _ _ => whnf
    rw [exL_loop]
    simp only [go_sem, Nat.reduceLT, reduceIte, reduceCtorEq, Nat.reduceEqDiff, apply_ite (Option.map (outOf _)), Nat.reduceBEq, Nat.reduceAdd, Nat.reduceSub, Nat.reduceLeDiff, Nat.reduceMul, ev_len_sl ty_descOf_22, ev_indexAddr ty_descOf_22, ty_szOf_38, ty_shapeT_38, keep_46_2, ends_some]
  | t :: rest, i, hd, hi => by
    obtain ⟨g1, g2, g3⟩ := drop_cons hd
    have hlt : decide ((i : Int) < (l.length : Int)) = true := decide_eq_true (by omega)
    have hget := tok_at l i t g1
    have hm := may1_den t (hok t (List.mem_of_getElem? g1))
    have ih := ix_loop l hl hok rest (i + 1) g2 (by omega)
    conv at ih in loopAt _ _ => whnf
    rw [List.all_cons]
    conv in loopAt _ _ => whnf
    rw [exL_loop]
    cases hv : Tk.may t
    · rw [hv] at hm
      rw [Bool.false_and]
      simp only [go_sem, Nat.reduceLT, reduceIte, reduceCtorEq, Nat.reduceEqDiff, apply_ite (Option.map (outOf _)), Nat.reduceBEq, Nat.reduceAdd, Nat.reduceSub, Nat.reduceLeDiff, Nat.reduceMul, ev_len_sl ty_descOf_22, ev_indexAddr ty_descOf_22, ty_szOf_38, ty_shapeT_38, keep_46_2, good_35, hlt, hget, Int.natCast_nonneg, hm, ends_some]
      exact ⟨i, rfl⟩
    · rw [hv] at hm
      rw [Bool.true_and]
      simp only [go_sem, Nat.reduceLT, reduceIte, reduceCtorEq, Nat.reduceEqDiff, apply_ite (Option.map (outOf _)), Nat.reduceBEq, Nat.reduceAdd, Nat.reduceSub, Nat.reduceLeDiff, Nat.reduceMul, ev_len_sl ty_descOf_22, ev_indexAddr ty_descOf_22, ty_szOf_38, ty_shapeT_38, keep_46_2, good_35, hlt, hget, Int.natCast_nonneg, hm, wrap_nat i (by omega)]
      rw [exL_head]
      simp only [go_sem, Nat.reduceLT, reduceIte, reduceCtorEq, Nat.reduceEqDiff, apply_ite (Option.map (outOf _)), Nat.reduceBEq, Nat.reduceAdd, Nat.reduceSub, Nat.reduceLeDiff, Nat.reduceMul, ev_len_sl ty_descOf_22, ev_indexAddr ty_descOf_22, ty_szOf_38, ty_shapeT_38, keep_46_2]
      exact ih

theorem ContainsFunc_den (l : List Tok) (hl : l.length ≤ 3000000) (hok : ∀ t ∈ l, TokOk t) :
    den K 34 [L (l.map Tok.enc), FV 35] [] = some (.ret (B (!l.all Tk.may)) []) := by
  have h := ix_loop l hl hok l 0 rfl (Nat.zero_le _)
  conv at h in loopAt _ _ => whnf
  obtain ⟨o, S', w, hq⟩ := h
  have hix : ∃ n : Int, decide (0 ≤ n) = (!l.all Tk.may) ∧ den K 46 [L (l.map Tok.enc), FV 35] [] = some (.ret (I n) []) := by
    have hr : Tryd.f46.results = #[.tmp 4] := rfl
    rcases hq with ⟨hv, rfl, hn⟩ | ⟨hv, rfl, j, h4⟩
    · refine ⟨-1, by rw [hv]; rfl, ?_⟩
      refine den_run rfl Tryd.func46 rfl Tryd.ntmps46 ⟨by simp, by simp [LK]⟩ ?_
      simp only [go_sem, Nat.reduceLT, reduceIte, reduceCtorEq, Nat.reduceEqDiff, apply_ite (Option.map (outOf _)), Nat.reduceBEq, Nat.reduceAdd, Nat.reduceSub, Nat.reduceLeDiff, Nat.reduceMul, ev_len_sl ty_descOf_22, ev_indexAddr ty_descOf_22, ty_szOf_38, ty_shapeT_38, keep_46_2]
      rw [exL_head]
      simp only [go_sem, Nat.reduceLT, reduceIte, reduceCtorEq, Nat.reduceEqDiff, apply_ite (Option.map (outOf _)), Nat.reduceBEq, Nat.reduceAdd, Nat.reduceSub, Nat.reduceLeDiff, Nat.reduceMul, ev_len_sl ty_descOf_22, ev_indexAddr ty_descOf_22, ty_szOf_38, ty_shapeT_38, keep_46_2]
      erw [w]
      simp only [go_sem, Nat.reduceLT, reduceIte, reduceCtorEq, Nat.reduceEqDiff, apply_ite (Option.map (outOf _)), Nat.reduceBEq, Nat.reduceAdd, Nat.reduceSub, Nat.reduceLeDiff, Nat.reduceMul, ev_len_sl ty_descOf_22, ev_indexAddr ty_descOf_22, ty_szOf_38, ty_shapeT_38, keep_46_2, hr, hn]
    · refine ⟨j, by rw [hv]; simp, ?_⟩
      refine den_run rfl Tryd.func46 rfl Tryd.ntmps46 ⟨by simp, by simp [LK]⟩ ?_
      simp only [go_sem, Nat.reduceLT, reduceIte, reduceCtorEq, Nat.reduceEqDiff, apply_ite (Option.map (outOf _)), Nat.reduceBEq, Nat.reduceAdd, Nat.reduceSub, Nat.reduceLeDiff, Nat.reduceMul, ev_len_sl ty_descOf_22, ev_indexAddr ty_descOf_22, ty_szOf_38, ty_shapeT_38, keep_46_2]
      rw [exL_head]
      simp only [go_sem, Nat.reduceLT, reduceIte, reduceCtorEq, Nat.reduceEqDiff, apply_ite (Option.map (outOf _)), Nat.reduceBEq, Nat.reduceAdd, Nat.reduceSub, Nat.reduceLeDiff, Nat.reduceMul, ev_len_sl ty_descOf_22, ev_indexAddr ty_descOf_22, ty_szOf_38, ty_shapeT_38, keep_46_2]
      erw [w]
      simp only [go_sem, Nat.reduceLT, reduceIte, reduceCtorEq, Nat.reduceEqDiff, apply_ite (Option.map (outOf _)), Nat.reduceBEq, Nat.reduceAdd, Nat.reduceSub, Nat.reduceLeDiff, Nat.reduceMul, ev_len_sl ty_descOf_22, ev_indexAddr ty_descOf_22, ty_szOf_38, ty_shapeT_38, keep_46_2, hr, h4]
  obtain ⟨n, hn, hix⟩ := hix
  refine den_run rfl Tryd.func34 rfl Tryd.ntmps34 ⟨by simp, by simp [LK]⟩ ?_
  have hr : Tryd.f34.results = #[.tmp 4] := rfl
  simp only [go_sem, Nat.reduceLT, reduceIte, reduceCtorEq, Nat.reduceEqDiff, apply_ite (Option.map (outOf _)), Nat.reduceBEq, Nat.reduceAdd, Nat.reduceSub, Nat.reduceLeDiff, Nat.reduceMul, good_46, hr, hix, hn]

theorem MayV_den (l : List Val) (hs : Ne.size l ≤ 400000) (hok : ∀ t ∈ Ne.flat l, TokOk t) : den K 19 [L (encL l)] [] = some (.ret (B (Ne.may 60 Tk.may l)) []) := by
  have hfl := Ne.flat_size l
  have h1 := Flat_den l (by omega)
  have h2 := ContainsFunc_den (Ne.flat l) (by omega) hok
  have h3 := Parse_den (Ne.flat l) (by omega) 60
  refine den_run rfl Tryd.func19 rfl Tryd.ntmps19 ⟨by simp, by simp [LK]⟩ ?_
  have hr : Tryd.f19.results = #[.tmp 2] := rfl
  unfold Ne.may Ne.parse
  unfold parseR at h3
  rw [if_neg (by decide)] at h3
  have z60 : (60 : Int).toNat = 60 := rfl
  rw [z60] at h3
  cases hm : (Ne.flat l).all Tk.may
  · rw [hm] at h2
    simp only [go_sem, Nat.reduceLT, reduceIte, reduceCtorEq, Nat.reduceEqDiff, apply_ite (Option.map (outOf _)), Nat.reduceBEq, Nat.reduceAdd, Nat.reduceSub, Nat.reduceLeDiff, Nat.reduceMul, good_15, good_34, good_11, good_22, hr, h1, h2]
  · rw [hm] at h2
    cases hu : Ne.until_ 0 60 (Ne.flat l) with
    | some x =>
      rw [hu] at h3
      have hx := parse_len hu
      have h4 := VSame_den x.1 (by omega) l (by omega)
      unfold VSameDen at h4
      have e0 : ((0 : Int) == 0) = true := rfl
      simp only [go_sem, Nat.reduceLT, reduceIte, reduceCtorEq, Nat.reduceEqDiff, apply_ite (Option.map (outOf _)), Nat.reduceBEq, Nat.reduceAdd, Nat.reduceSub, Nat.reduceLeDiff, Nat.reduceMul, good_15, good_34, good_11, good_22, hr, h1, h2, h3, h4, e0, TV.flat]
    | none =>
      rw [hu] at h3
      have e0 : ((20 : Int) == 0) = false := rfl
      simp only [go_sem, Nat.reduceLT, reduceIte, reduceCtorEq, Nat.reduceEqDiff, apply_ite (Option.map (outOf _)), Nat.reduceBEq, Nat.reduceAdd, Nat.reduceSub, Nat.reduceLeDiff, Nat.reduceMul, good_15, good_34, good_11, good_22, hr, h1, h2, h3, e0, TV.flat]

/-! ### the law's ends -/

def Ne.ends (v : Val) (kind : Int) : Bool := match v with
  | .mk k t _ => k == 1 && (t.kind == 7 && t.text == [Ne.closeC kind])

theorem ends_den (k : Int) (t : Tok) (l : List Val) (kind : Int) : den K 23 [.agg (valCv k t l), I kind] [] = some (.ret (B (Ne.ends (.mk k t l) kind)) []) := by
  unfold Ne.ends
  refine den_run rfl Tryd.func23 rfl Tryd.ntmps23 ⟨by simp, by simp [LK]⟩ ?_
  have hr : Tryd.f23.results = #[.tmp 4] := rfl
  cases b1 : (k == 1)
  · have e1 : (k != 1) = true := by rw [bne, b1]; rfl
    simp only [go_sem, Nat.reduceLT, reduceIte, reduceCtorEq, Nat.reduceEqDiff, apply_ite (Option.map (outOf _)), Nat.reduceBEq, Nat.reduceAdd, Nat.reduceSub, Nat.reduceLeDiff, Nat.reduceMul, ty_fieldOff_40_0, ty_szOf_3, ty_shapeT_3, ty_fieldOff_40_1, ty_szOf_38, ty_fieldOff_38_0, ty_fieldOff_38_1, ty_szOf_9, ty_shapeT_9, hr, e1, b1]
  · have e1 : (k != 1) = false := by rw [bne, b1]; rfl
    cases b2 : (t.kind == 7)
    · have e2 : (t.kind != 7) = true := by rw [bne, b2]; rfl
      simp only [go_sem, Nat.reduceLT, reduceIte, reduceCtorEq, Nat.reduceEqDiff, apply_ite (Option.map (outOf _)), Nat.reduceBEq, Nat.reduceAdd, Nat.reduceSub, Nat.reduceLeDiff, Nat.reduceMul, ty_fieldOff_40_0, ty_szOf_3, ty_shapeT_3, ty_fieldOff_40_1, ty_szOf_38, ty_fieldOff_38_0, ty_fieldOff_38_1, ty_szOf_9, ty_shapeT_9, hr, e1, e2, b1, b2]
    · have e2 : (t.kind != 7) = false := by rw [bne, b2]; rfl
      by_cases h3 : kind = 3
      · subst h3
        have c3 : Ne.closeC 3 = 93 := rfl
        simp only [go_sem, Nat.reduceLT, reduceIte, reduceCtorEq, Nat.reduceEqDiff, apply_ite (Option.map (outOf _)), Nat.reduceBEq, Nat.reduceAdd, Nat.reduceSub, Nat.reduceLeDiff, Nat.reduceMul, ty_fieldOff_40_0, ty_szOf_3, ty_shapeT_3, ty_fieldOff_40_1, ty_szOf_38, ty_fieldOff_38_0, ty_fieldOff_38_1, ty_szOf_9, ty_shapeT_9, hr, e1, e2, c3, b1, b2]
      · have e3 : (kind == 3) = false := by rw [beq_eq_false_iff_ne]; exact h3
        by_cases h4 : kind = 4
        · subst h4
          have c4 : Ne.closeC 4 = 125 := rfl
          have e43 : ((4 : Int) == 3) = false := by decide
          have n43 : ((4 : Int) = 3) = False := by decide
          simp only [go_sem, Nat.reduceLT, reduceIte, reduceCtorEq, Nat.reduceEqDiff, apply_ite (Option.map (outOf _)), Nat.reduceBEq, Nat.reduceAdd, Nat.reduceSub, Nat.reduceLeDiff, Nat.reduceMul, ty_fieldOff_40_0, ty_szOf_3, ty_shapeT_3, ty_fieldOff_40_1, ty_szOf_38, ty_fieldOff_38_0, ty_fieldOff_38_1, ty_szOf_9, ty_shapeT_9, hr, e1, e2, c4, e43, n43, b1, b2]
        · have e4 : (kind == 4) = false := by rw [beq_eq_false_iff_ne]; exact h4
          have c : Ne.closeC kind = 41 := by simp [Ne.closeC, h3, h4]
          simp only [go_sem, Nat.reduceLT, reduceIte, reduceCtorEq, Nat.reduceEqDiff, apply_ite (Option.map (outOf _)), Nat.reduceBEq, Nat.reduceAdd, Nat.reduceSub, Nat.reduceLeDiff, Nat.reduceMul, ty_fieldOff_40_0, ty_szOf_3, ty_shapeT_3, ty_fieldOff_40_1, ty_szOf_38, ty_fieldOff_38_0, ty_fieldOff_38_1, ty_szOf_9, ty_shapeT_9, hr, e1, e2, e3, e4, c, b1, b2]
end Go.Abs

namespace Go.Abs
open Go Go.Proofs
theorem fixed2_run : callN K 400 10 [] [] = some (.ret (B true) []) := by kernel_rfl
theorem fixed2_den : den K 10 [] [] = some (.ret (B true) []) := den_iff.2 ⟨400, fixed2_run⟩
end Go.Abs

namespace Go.Abs
open Go Go.Proofs
set_option maxRecDepth 10000

mutual
def Ne.allV (p : Tok → Prop) : Val → Prop
  | .mk _ t l => p t ∧ Ne.allT p l
def Ne.allT (p : Tok → Prop) : List Val → Prop
  | [] => True
  | v :: l => Ne.allV p v ∧ Ne.allT p l
end

mutual
theorem Ne.allV_and {p q : Tok → Prop} : ∀ v : Val, Ne.allV p v → Ne.allV q v → Ne.allV (fun t => p t ∧ q t) v
  | .mk _ t l, h, k => by
    rw [Ne.allV] at h k ⊢
    exact ⟨⟨h.1, k.1⟩, Ne.allT_and l h.2 k.2⟩
theorem Ne.allT_and {p q : Tok → Prop} : ∀ l : List Val, Ne.allT p l → Ne.allT q l → Ne.allT (fun t => p t ∧ q t) l
  | [], _, _ => by rw [Ne.allT]; trivial
  | v :: l, h, k => by
    rw [Ne.allT] at h k ⊢
    exact ⟨Ne.allV_and v h.1 k.1, Ne.allT_and l h.2 k.2⟩
end

mutual
theorem Ne.flatV_all {p : Tok → Prop} (hd : ∀ c : UInt8, p ⟨7, [c], 0⟩) : ∀ v : Val, Ne.allV p v → ∀ t ∈ Ne.flatV v, p t
  | .mk k t l, h => by
    rw [Ne.allV] at h
    rw [Ne.flatV]
    intro x hx
    split at hx
    · obtain rfl : x = t := by simpa using hx
      exact h.1
    · split at hx
      · simp only [List.mem_cons, List.mem_append, List.not_mem_nil, or_false] at hx
        rcases hx with rfl | hx | rfl
        · exact h.1
        · exact Ne.flat_all hd l h.2 x hx
        · exact hd _
      · split at hx
        · simp only [List.mem_cons, List.mem_append, List.not_mem_nil, or_false] at hx
          rcases hx with rfl | hx | rfl
          · exact hd _
          · exact Ne.flat_all hd l h.2 x hx
          · exact hd _
        · cases hx
theorem Ne.flat_all {p : Tok → Prop} (hd : ∀ c : UInt8, p ⟨7, [c], 0⟩) : ∀ l : List Val, Ne.allT p l → ∀ t ∈ Ne.flat l, p t
  | [], _ => by rw [Ne.flat]; intro t ht; cases ht
  | v :: l, h => by
    rw [Ne.allT] at h
    rw [Ne.flat]
    intro t ht
    rcases List.mem_append.1 ht with ht | ht
    · exact Ne.flatV_all hd v h.1 t ht
    · exact Ne.flat_all hd l h.2 t ht
end

theorem fewL_facts (l : List Val) : ∀ (deep left : Int), 0 ≤ Ne.fewL deep left l → (Ne.size l : Int) ≤ left - Ne.fewL deep left l ∧ Ne.allT (fun t => t.text.length ≤ 100) l := by
  have key : ∀ (l : List Val), (∀ k t l', Val.mk k t l' ∈ l → ∀ deep left : Int, 0 ≤ Ne.fewL deep left l' → (Ne.size l' : Int) ≤ left - Ne.fewL deep left l' ∧ Ne.allT (fun t => t.text.length ≤ 100) l') →
      ∀ deep left : Int, 0 ≤ Ne.fewL deep left l → (Ne.size l : Int) ≤ left - Ne.fewL deep left l ∧ Ne.allT (fun t => t.text.length ≤ 100) l := by
    intro l
    induction l with
    | nil =>
      intro _ deep left h
      rw [Ne.fewL, Ne.size, Ne.allT]
      exact ⟨by omega, trivial⟩
    | cons v r ih =>
      obtain ⟨k, t, l⟩ := v
      intro hin deep left h
      rw [fewL_cons] at h ⊢
      rw [Ne.size, Ne.sizeV, Ne.allT, Ne.allV]
      split at h
      · omega
      · rename_i h0
        rw [if_neg h0]
        split at h
        · omega
        · rename_i h1
          rw [if_neg h1]
          have hr := ih (fun k t l' hm => hin k t l' (by simp [hm])) deep _ h
          split at h
          · rename_i h2
            rw [if_pos h2] at hr ⊢
            have hnext : 0 ≤ Ne.few (deep - 1) (left - 1) l := by omega
            have hf : Ne.few (deep - 1) (left - 1) l = Ne.fewL (deep - 1) (left - 1) l := by
              unfold Ne.few at hnext ⊢
              split at hnext
              · omega
              · rename_i h3; rw [if_neg h3]
            rw [hf] at hnext hr ⊢
            have hl := hin k t l (by simp) (deep - 1) (left - 1) hnext
            exact ⟨by omega, ⟨by omega, hl.2⟩, hr.2⟩
          · rename_i h2
            rw [if_neg h2] at hr ⊢
            have hn : 0 ≤ left - 1 := by omega
            have hl : l = [] := by
              cases l with
              | nil => rfl
              | cons a b => exact absurd ⟨hn, rfl⟩ h2
            subst hl
            rw [Ne.size, Ne.allT]
            exact ⟨by omega, ⟨by omega, trivial⟩, hr.2⟩
  exact ind_list (Q := fun l => ∀ (deep left : Int), 0 ≤ Ne.fewL deep left l → (Ne.size l : Int) ≤ left - Ne.fewL deep left l ∧ Ne.allT (fun t => t.text.length ≤ 100) l) (fun l hin => key l hin) l

theorem few_facts {l : List Val} {deep left : Int} (h : 0 ≤ Ne.few deep left l) : (Ne.size l : Int) ≤ left ∧ Ne.allT (fun t => t.text.length ≤ 100) l := by
  unfold Ne.few at h
  split at h
  · omega
  · have := fewL_facts l deep left h
    exact ⟨by omega, this.2⟩

theorem delim_ok (c : UInt8) : TokOk ⟨7, [c], 0⟩ := ⟨by simp [I64], by simp⟩

theorem flat_ok {l : List Val} (h1 : Ne.allT (fun t => I64 t.n) l) (h2 : Ne.allT (fun t => t.text.length ≤ 100) l) : ∀ t ∈ Ne.flat l, TokOk t :=
  Ne.flat_all delim_ok l (by
    have h := Ne.allT_and l h1 h2
    have key : ∀ l : List Val, Ne.allT (fun t => I64 t.n ∧ t.text.length ≤ 100) l → Ne.allT TokOk l := by
      intro l
      refine ind_list (Q := fun l => Ne.allT (fun t => I64 t.n ∧ t.text.length ≤ 100) l → Ne.allT TokOk l) (fun l hin => ?_) l
      induction l with
      | nil => intro _; rw [Ne.allT]; trivial
      | cons v r ih =>
        obtain ⟨k, t, l'⟩ := v
        intro h
        rw [Ne.allT, Ne.allV] at h ⊢
        exact ⟨⟨⟨h.1.1.1, by have := h.1.1.2; omega⟩, hin k t l' (by simp) h.1.2⟩, ih (fun k t l' hm => hin k t l' (by simp [hm])) h.2⟩
    exact key l h)

theorem smallT_lens {l : List Tok} {m : Int} (h : smallT l m = true) : (l.length : Int) ≤ m ∧ ∀ t ∈ l, t.text.length ≤ 100 := by
  unfold smallT at h
  simp only [Bool.and_eq_true, decide_eq_true_eq, List.all_eq_true] at h
  exact ⟨h.2, h.1⟩

theorem same_refl (l : List Val) : Ne.same l l = true := (Ne.same_iff l l).2 rfl

/-- what both parsers answer -/
theorem parse_cases (deep : Int) (l : List Tok) (hl : l.length ≤ 1000000) :
    (∃ vs, Ne.parse deep.toNat l = some vs ∧ 1 ≤ deep ∧ deep ≤ 60 ∧ Ne.size vs ≤ l.length ∧ parseR deep l = .tup [.c (.pv (.sl (encL vs))), .c (.pv (.int .i64 0))] ∧ parseR2 deep l = .tup [.c (.pv (.sl (encL vs))), .c (.pv (.int .i64 0))]) ∨
    (∃ e : Int, (1 ≤ deep ∧ deep ≤ 60 → Ne.parse deep.toNat l = none ∧ e = 20) ∧ e ≠ 0 ∧ parseR deep l = .tup [.c (.pv (.sl [])), .c (.pv (.int .i64 e))] ∧ parseR2 deep l = .tup [.c .nils, .c (.pv (.int .i64 e))]) := by
  unfold parseR parseR2
  by_cases hd : deep < 1 ∨ 60 < deep
  · right
    rw [if_pos hd, if_pos hd]
    exact ⟨1, fun h => by omega, by decide, rfl, rfl⟩
  · rw [if_neg hd, if_neg hd]
    cases hu : Ne.until_ 0 deep.toNat l with
    | some x =>
      left
      exact ⟨x.1, by unfold Ne.parse; rw [hu]; rfl, by omega, by omega, parse_len hu, rfl, rfl⟩
    | none =>
      right
      exact ⟨20, fun _ => ⟨by unfold Ne.parse; rw [hu]; rfl, rfl⟩, by decide, rfl, rfl⟩

theorem same2_nil : den K 13 [.c (.pv (.sl [])), .c .nils] [] = some (.ret (B true) []) := den_iff.2 ⟨50, by kernel_rfl⟩

theorem parse_some {deep : Int} {l : List Tok} {vs : List Val} (h1 : 1 ≤ deep) (h2 : deep ≤ 60) (h : Ne.parse deep.toNat l = some vs) : parseR deep l = .tup [.c (.pv (.sl (encL vs))), .c (.pv (.int .i64 0))] := by
  unfold parseR
  rw [if_neg (by omega)]
  unfold Ne.parse at h
  cases hu : Ne.until_ 0 deep.toNat l with
  | some x => rw [hu] at h; cases h; rfl
  | none => rw [hu] at h; cases h
theorem parse_none {deep : Int} {l : List Tok} (h1 : 1 ≤ deep) (h2 : deep ≤ 60) (h : Ne.parse deep.toNat l = none) : parseR deep l = .tup [.c (.pv (.sl [])), .c (.pv (.int .i64 20))] := by
  unfold parseR
  rw [if_neg (by omega)]
  unfold Ne.parse at h
  cases hu : Ne.until_ 0 deep.toNat l with
  | some x => rw [hu] at h; cases h
  | none => rfl

theorem may_close (k : Int) : Tk.may (Ne.closeT k) = true := by
  have h1 : Tk.may ⟨7, [41], 0⟩ = true := by kernel_rfl
  have h2 : Tk.may ⟨7, [93], 0⟩ = true := by kernel_rfl
  have h3 : Tk.may ⟨7, [125], 0⟩ = true := by kernel_rfl
  unfold Ne.closeT Ne.closeC
  split
  · exact h2
  · split
    · exact h3
    · exact h1
theorem may_open (k : Int) : Tk.may (Ne.openT k) = true := by
  have h1 : Tk.may ⟨7, [40], 0⟩ = true := by kernel_rfl
  have h2 : Tk.may ⟨7, [91], 0⟩ = true := by kernel_rfl
  have h3 : Tk.may ⟨7, [123], 0⟩ = true := by kernel_rfl
  unfold Ne.openT Ne.openC
  split
  · exact h1
  · split
    · exact h2
    · exact h3
theorem may_f : Tk.may ⟨2, [102], 0⟩ = true := by kernel_rfl
end Go.Abs
