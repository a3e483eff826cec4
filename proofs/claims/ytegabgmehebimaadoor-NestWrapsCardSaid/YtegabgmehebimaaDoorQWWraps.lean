/-
  NestWraps, as the interpreter answers it: true, whatever the values and the kind are.
  WHAT READS AS THE ARGUMENTS: the statement NestWraps.
-/
import Derived.Test.YtegabgmehebimaaDoorQU
import Derived.Test.YtegabgmehebimaaDoorQV
set_option linter.unusedSimpArgs false
set_option linter.unusedVariables false
namespace Go.Abs
open Go Go.Proofs
set_option maxRecDepth 10000
attribute [local go_sem] exL_seq exL_region exL_cond exL_block exL_scope exL_ret exL_skip exL_exit runRegion runOps stepOp guardA absOp takeOver opd avOf cvOf St.degAt St.put okPV okVal okAV absBin intBin strBin boolBin setBoxes if_true Bool.false_eq_true if_false Option.map_some Option.map_none Option.bind_some Option.bind_none thenO outOf upd List.toList_toArray isOwn steal appArgs inApps AV.deg CV.deg AV.gv AV.isIter absNext some_bne List.length_nil List.length_cons List.filterMap_cons List.filterMap_nil beq_iff_eq List.getElem?_cons_zero List.getElem?_cons_succ Option.getD_some K_hook hookB Bool.false_and Bool.and_false Bool.and_self K_P K_own absCall doCall getBoxes lend back idx dedup AV.ren CV.ren TV.ren AV.ptrs CV.ptrs zipBox AV.flat CV.flat absLoad absStore cellsOfAV setAt newBox markB bldTypes absFieldAddr absField absExtract absAssert noAssert absMkIface ifcOf CV.pv? content pushHead ownT fillCells reps pvs chunks enterSt leave resOf resVars resVar outBoxes lentOnly TV.deg TV.av LK CV.plain CV.noBld nilBin absUn bound List.map_cons List.map_nil List.all_cons List.all_nil List.any_cons List.any_nil List.contains_cons List.contains_nil List.elem_cons List.elem_nil List.cons_append List.nil_append List.append_nil List.flatMap_cons List.flatMap_nil List.zip_cons_cons List.zip_nil_left List.zip_nil_right List.take_succ_cons List.take_zero List.take_nil List.drop_succ_cons List.drop_zero List.drop_nil List.isEmpty_nil List.isEmpty_cons Bool.and_true Bool.true_and Bool.or_true Bool.true_or Bool.or_false Bool.false_or Bool.not_true Bool.not_false Nat.add_zero Nat.zero_add Option.isNone_none Option.isNone_some Option.getD_none true_and and_true not_true_eq_false not_false_eq_true decide_true decide_false Nat.le_refl and_self Bool.not_eq_true Nat.sub_self or_true true_or Option.some.injEq List.length_map List.nil_eq and_false false_and AV.live CV.live CV.liveIn K_keep firstReg Option.orElse_some Option.orElse_none head keepSlots keepBoxes Int.lt_irrefl List.length_append ite_self memOK logOps opKey lentBoxes Key.clash Key.sees Key.writes Nat.lt_irrefl gt_iff_lt nobox_at bot_at false_or or_false beq_self_eq_true Bool.true_beq Bool.false_beq

/-- does a value end the kind? -/
def anyEnds (kind : Int) (l : List Val) : Bool := l.any fun v => Ne.ends v kind

abbrev wrapH (l : List Val) (kind : Int) (x : List (List PV)) (n : Int) (b : Bool) (i : Nat) : St :=
  { sl := upd (upd (upd (upd (upd (upd bot 9 (I i)) 8 (B b)) 7 (I n)) 6 (.c (.own 40 x))) 1 (I kind)) 0 (L (encL l)), bx := nobox, nt := 82 }

theorem wrap_loop (l : List Val) (hl : l.length ≤ 1000) (kind : Int) (x : List (List PV)) (n : Int) : ∀ (rest : List Val) (i : Nat) (b : Bool), l.drop i = rest → i ≤ l.length →
    Ends (exL K 6 (.loop (loopAt Tryd.f6 10)) (wrapH l kind x n b i)) fun o S => o = .exit 0 ∧ S.nt = 82 ∧ S.sl 8 = B (b || anyEnds kind rest) ∧ S.sl 0 = L (encL l) ∧ S.sl 6 = .c (.own 40 x) ∧ S.sl 7 = I n
  | [], i, b, hd, hi => by
    have hin : i = l.length := by
      have := List.drop_eq_nil_iff.1 hd
      omega
    subst hin
    have hv : (b || anyEnds kind []) = b := by simp [anyEnds]
    rw [hv]
    conv in loopAt _ _ => whnf
    rw [exL_loop]
    simp only [go_sem, Nat.reduceLT, reduceIte, reduceCtorEq, Nat.reduceEqDiff, apply_ite (Option.map (outOf _)), Nat.reduceBEq, Nat.reduceAdd, Nat.reduceSub, Nat.reduceLeDiff, Nat.reduceMul, good_10, good_9, good_20, ev_build ty_zeroCells_40 ty_placesOf_40, ty_zeroCells_40, ty_szOf_40, ev_build ty_zeroCells_38 ty_placesOf_38, ty_fieldOff_40_1, ty_szOf_38, ty_shapeT_40, ev_buildSlice (len := 1) ty_descOf_23 ty_szOf_40 ty_zeroCells_40 ⟨rfl, by decide, by decide⟩, good_17, ev_len_sl ty_descOf_23, ev_indexAddr ty_descOf_23, good_23, good_19, ty_isBoolT_4, good_15, ev_len_sl ty_descOf_22, keep_6_10, ends_some, encL_len]
  | .mk k t l' :: rest, i, b, hd, hi => by
    obtain ⟨g1, g2, g3⟩ := drop_cons hd
    have hlt : decide ((i : Int) < (l.length : Int)) = true := decide_eq_true (by omega)
    have hget := val_at l i k t l' g1
    have he := ends_den k t l' kind
    have ih := wrap_loop l hl kind x n rest (i + 1) (b || Ne.ends (.mk k t l') kind) g2 (by omega)
    have hv : (b || Ne.ends (.mk k t l') kind || anyEnds kind rest) = (b || anyEnds kind (.mk k t l' :: rest)) := by
      unfold anyEnds
      rw [List.any_cons, Bool.or_assoc]
    rw [hv] at ih
    conv at ih in loopAt _ _ => whnf
    conv in loopAt _ _ => whnf
    rw [exL_loop]
    cases b with
    | true =>
      rw [Bool.true_or] at ih
      simp only [go_sem, Nat.reduceLT, reduceIte, reduceCtorEq, Nat.reduceEqDiff, apply_ite (Option.map (outOf _)), Nat.reduceBEq, Nat.reduceAdd, Nat.reduceSub, Nat.reduceLeDiff, Nat.reduceMul, good_10, good_9, good_20, ev_build ty_zeroCells_40 ty_placesOf_40, ty_zeroCells_40, ty_szOf_40, ev_build ty_zeroCells_38 ty_placesOf_38, ty_fieldOff_40_1, ty_szOf_38, ty_shapeT_40, ev_buildSlice (len := 1) ty_descOf_23 ty_szOf_40 ty_zeroCells_40 ⟨rfl, by decide, by decide⟩, good_17, ev_len_sl ty_descOf_23, ev_indexAddr ty_descOf_23, good_23, good_19, ty_isBoolT_4, good_15, ev_len_sl ty_descOf_22, keep_6_10, encL_len, hlt, hget, Int.natCast_nonneg, wrap_nat i (by omega)]
      rw [exL_head]
      simp only [go_sem, Nat.reduceLT, reduceIte, reduceCtorEq, Nat.reduceEqDiff, apply_ite (Option.map (outOf _)), Nat.reduceBEq, Nat.reduceAdd, Nat.reduceSub, Nat.reduceLeDiff, Nat.reduceMul, good_10, good_9, good_20, ev_build ty_zeroCells_40 ty_placesOf_40, ty_zeroCells_40, ty_szOf_40, ev_build ty_zeroCells_38 ty_placesOf_38, ty_fieldOff_40_1, ty_szOf_38, ty_shapeT_40, ev_buildSlice (len := 1) ty_descOf_23 ty_szOf_40 ty_zeroCells_40 ⟨rfl, by decide, by decide⟩, good_17, ev_len_sl ty_descOf_23, ev_indexAddr ty_descOf_23, good_23, good_19, ty_isBoolT_4, good_15, ev_len_sl ty_descOf_22, keep_6_10]
      exact ih
    | false =>
      rw [Bool.false_or] at ih
      simp only [go_sem, Nat.reduceLT, reduceIte, reduceCtorEq, Nat.reduceEqDiff, apply_ite (Option.map (outOf _)), Nat.reduceBEq, Nat.reduceAdd, Nat.reduceSub, Nat.reduceLeDiff, Nat.reduceMul, good_10, good_9, good_20, ev_build ty_zeroCells_40 ty_placesOf_40, ty_zeroCells_40, ty_szOf_40, ev_build ty_zeroCells_38 ty_placesOf_38, ty_fieldOff_40_1, ty_szOf_38, ty_shapeT_40, ev_buildSlice (len := 1) ty_descOf_23 ty_szOf_40 ty_zeroCells_40 ⟨rfl, by decide, by decide⟩, good_17, ev_len_sl ty_descOf_23, ev_indexAddr ty_descOf_23, good_23, good_19, ty_isBoolT_4, good_15, ev_len_sl ty_descOf_22, keep_6_10, encL_len, hlt, hget, Int.natCast_nonneg, he, wrap_nat i (by omega)]
      rw [exL_head]
      simp only [go_sem, Nat.reduceLT, reduceIte, reduceCtorEq, Nat.reduceEqDiff, apply_ite (Option.map (outOf _)), Nat.reduceBEq, Nat.reduceAdd, Nat.reduceSub, Nat.reduceLeDiff, Nat.reduceMul, good_10, good_9, good_20, ev_build ty_zeroCells_40 ty_placesOf_40, ty_zeroCells_40, ty_szOf_40, ev_build ty_zeroCells_38 ty_placesOf_38, ty_fieldOff_40_1, ty_szOf_38, ty_shapeT_40, ev_buildSlice (len := 1) ty_descOf_23 ty_szOf_40 ty_zeroCells_40 ⟨rfl, by decide, by decide⟩, good_17, ev_len_sl ty_descOf_23, ev_indexAddr ty_descOf_23, good_23, good_19, ty_isBoolT_4, good_15, ev_len_sl ty_descOf_22, keep_6_10]
      exact ih

/-! ### the plain law -/

/-- the token of the value that wraps -/
def wrapT (kind : Int) : Tok := if kind = 5 then ⟨2, [102], 0⟩ else Ne.tok0

theorem wrap_depth {l : List Val} {kind : Int} (hk : 2 ≤ kind ∧ kind ≤ 5) : Ne.depth [.mk kind (wrapT kind) l] = Ne.depth l + 1 := by
  rw [Ne.depth, Ne.depth, Ne.depthV, if_pos hk]; omega

theorem wrap_flat {l : List Val} {kind : Int} (hk : 2 ≤ kind ∧ kind ≤ 5) : ∃ t, Tk.may t = true ∧ TokOk t ∧ Ne.flat [.mk kind (wrapT kind) l] = t :: (Ne.flat l ++ [Ne.closeT kind]) := by
  rw [Ne.flat, Ne.flat, Ne.flatV, if_neg (by omega), List.append_nil]
  by_cases h5 : kind = 5
  · subst h5
    rw [if_pos rfl]
    exact ⟨_, may_f, ⟨by simp [I64, wrapT], by simp [wrapT]⟩, rfl⟩
  · rw [if_neg h5, if_pos (by omega)]
    exact ⟨_, may_open kind, delim_ok _, rfl⟩

theorem wrap_may {l : List Val} {kind : Int} (hk : 2 ≤ kind ∧ kind ≤ 5) (hm : Ne.may 60 Tk.may l = true) (he : anyEnds kind l = false) : Ne.may 60 Tk.may [.mk kind (wrapT kind) l] = decide (Ne.depth l < 60) := by
  obtain ⟨m1, m2, m3⟩ := Ne.may_iff.1 hm
  obtain ⟨t, ht, _, hfl⟩ := wrap_flat (l := l) hk
  have hgood : Ne.good 0 [.mk kind (wrapT kind) l] = true := by
    have hg : Ne.good kind l = true := Ne.good_kind l kind m2 fun v hv t m e => by
      subst e
      have h1 : Ne.ends (.mk 1 t m) kind = false := by
        cases hx : Ne.ends (.mk 1 t m) kind with
        | false => rfl
        | true =>
          have : anyEnds kind l = true := List.any_eq_true.2 ⟨_, hv, hx⟩
          rw [he] at this; cases this
      unfold Ne.isLast
      rw [Bool.and_eq_false_iff]
      right
      rw [decide_eq_false_iff_not]
      intro e
      subst e
      unfold Ne.ends at h1
      simp [Ne.closeT] at h1
    rw [Ne.good, Ne.good, Bool.and_true, Ne.goodV]
    by_cases h5 : kind = 5
    · subst h5
      simp [wrapT, hg]
    · have h4 : 2 ≤ kind ∧ kind ≤ 4 := by omega
      simp [wrapT, h5, h4, hg]
  rw [Bool.eq_iff_iff, Ne.may_iff, decide_eq_true_eq, wrap_depth hk]
  constructor
  · rintro ⟨_, _, h⟩; omega
  · intro h
    refine ⟨fun x hx => ?_, hgood, by omega⟩
    rw [hfl] at hx
    simp only [List.mem_cons, List.mem_append, List.not_mem_nil, or_false] at hx
    rcases hx with rfl | hx | rfl
    · exact ht
    · exact m1 x hx
    · exact may_close kind

theorem beq_same (b : Bool) : (b == b) = true := by cases b <;> rfl

set_option maxHeartbeats 8000000 in
theorem NestWraps_den (l : List Val) (kind : Int) (hv : Ne.allT (fun t => I64 t.n) l) :
    den K 6 [L (encL l), I kind] [] = some (.ret (B true) []) := by
  have hf := fixed2_den
  have m1 := SmallV_den l 150 (by decide) (by decide)
  refine den_run rfl Tryd.func6 rfl Tryd.ntmps6 ⟨by simp, by simp [LK]⟩ ?_
  have hr : Tryd.f6.results = #[.tmp 4] := rfl
  cases h1 : decide (0 ≤ Ne.few 100 150 l)
  · rw [h1] at m1
    simp only [go_sem, Nat.reduceLT, reduceIte, reduceCtorEq, Nat.reduceEqDiff, apply_ite (Option.map (outOf _)), Nat.reduceBEq, Nat.reduceAdd, Nat.reduceSub, Nat.reduceLeDiff, Nat.reduceMul, good_10, good_9, good_20, ev_build ty_zeroCells_40 ty_placesOf_40, ty_zeroCells_40, ty_szOf_40, ev_build ty_zeroCells_38 ty_placesOf_38, ty_fieldOff_40_1, ty_szOf_38, ty_shapeT_40, ev_buildSlice (len := 1) ty_descOf_23 ty_szOf_40 ty_zeroCells_40 ⟨rfl, by decide, by decide⟩, good_17, ev_len_sl ty_descOf_23, ev_indexAddr ty_descOf_23, good_23, good_19, ty_isBoolT_4, good_15, ev_len_sl ty_descOf_22, keep_6_10, hr, hf, m1]
  rw [h1] at m1
  cases c1 : decide (kind < 2)
  case true => simp only [go_sem, Nat.reduceLT, reduceIte, reduceCtorEq, Nat.reduceEqDiff, apply_ite (Option.map (outOf _)), Nat.reduceBEq, Nat.reduceAdd, Nat.reduceSub, Nat.reduceLeDiff, Nat.reduceMul, good_10, good_9, good_20, ev_build ty_zeroCells_40 ty_placesOf_40, ty_zeroCells_40, ty_szOf_40, ev_build ty_zeroCells_38 ty_placesOf_38, ty_fieldOff_40_1, ty_szOf_38, ty_shapeT_40, ev_buildSlice (len := 1) ty_descOf_23 ty_szOf_40 ty_zeroCells_40 ⟨rfl, by decide, by decide⟩, good_17, ev_len_sl ty_descOf_23, ev_indexAddr ty_descOf_23, good_23, good_19, ty_isBoolT_4, good_15, ev_len_sl ty_descOf_22, keep_6_10, hr, hf, m1, c1]
  cases c2 : decide (5 < kind)
  case true => simp only [go_sem, Nat.reduceLT, reduceIte, reduceCtorEq, Nat.reduceEqDiff, apply_ite (Option.map (outOf _)), Nat.reduceBEq, Nat.reduceAdd, Nat.reduceSub, Nat.reduceLeDiff, Nat.reduceMul, good_10, good_9, good_20, ev_build ty_zeroCells_40 ty_placesOf_40, ty_zeroCells_40, ty_szOf_40, ev_build ty_zeroCells_38 ty_placesOf_38, ty_fieldOff_40_1, ty_szOf_38, ty_shapeT_40, ev_buildSlice (len := 1) ty_descOf_23 ty_szOf_40 ty_zeroCells_40 ⟨rfl, by decide, by decide⟩, good_17, ev_len_sl ty_descOf_23, ev_indexAddr ty_descOf_23, good_23, good_19, ty_isBoolT_4, good_15, ev_len_sl ty_descOf_22, keep_6_10, hr, hf, m1, c1, c2]
  have hk : 2 ≤ kind ∧ kind ≤ 5 := by
    have a := of_decide_eq_false c1
    have b := of_decide_eq_false c2
    omega
  obtain ⟨n1, n2⟩ := few_facts (of_decide_eq_true h1)
  have hfo := flat_ok hv n2
  have k1 := May2_den l (by omega) hfo
  cases h2 : Ne.may 60 Tk.may l
  · rw [h2] at k1
    simp only [go_sem, Nat.reduceLT, reduceIte, reduceCtorEq, Nat.reduceEqDiff, apply_ite (Option.map (outOf _)), Nat.reduceBEq, Nat.reduceAdd, Nat.reduceSub, Nat.reduceLeDiff, Nat.reduceMul, good_10, good_9, good_20, ev_build ty_zeroCells_40 ty_placesOf_40, ty_zeroCells_40, ty_szOf_40, ev_build ty_zeroCells_38 ty_placesOf_38, ty_fieldOff_40_1, ty_szOf_38, ty_shapeT_40, ev_buildSlice (len := 1) ty_descOf_23 ty_szOf_40 ty_zeroCells_40 ⟨rfl, by decide, by decide⟩, good_17, ev_len_sl ty_descOf_23, ev_indexAddr ty_descOf_23, good_23, good_19, ty_isBoolT_4, good_15, ev_len_sl ty_descOf_22, keep_6_10, hr, hf, m1, c1, c2, k1]
  rw [h2] at k1
  have fl := Ne.flat_size l
  have fd := Ne.depth_size l
  have ll := Ne.length_size l
  have hsz : Ne.size [.mk kind (wrapT kind) l] = Ne.size l + 1 := by rw [Ne.size, Ne.size, Ne.sizeV]
  obtain ⟨t, ht, hto, hfl⟩ := wrap_flat (l := l) hk
  have hlen : (Ne.flat [.mk kind (wrapT kind) l]).length = (Ne.flat l).length + 2 := by rw [hfl]; simp
  have d1 := Depth_den l (by omega)
  have d2 := Depth_den [.mk kind (wrapT kind) l] (by omega)
  rw [wrap_depth hk] at d2
  have d3 := Flat_den l (by omega)
  have d4 := Flat_den [.mk kind (wrapT kind) l] (by omega)
  have d5 := MayV_den [.mk kind (wrapT kind) l] (by omega) (fun x hx => by
    rw [hfl] at hx
    simp only [List.mem_cons, List.mem_append, List.not_mem_nil, or_false] at hx
    rcases hx with rfl | hx | rfl
    · exact hto
    · exact hfo x hx
    · exact delim_ok _)
  have wr1 : IntKind.i64.wrap ((Ne.depth l : Int) + 1) = ((Ne.depth l + 1 : Nat) : Int) := wrap_nat _ (by omega)
  have wr2 : IntKind.i64.wrap (((Ne.flat l).length : Int) + 2) = (((Ne.flat l).length + 2 : Nat) : Int) := by rw [IntWalk.i64_in _ (by omega)]; rfl
  have hlp := wrap_loop l (by omega) kind (encL [.mk kind (wrapT kind) l]) (Ne.depth l) l 0 false rfl (Nat.zero_le _)
  conv at hlp in loopAt _ _ => whnf
  obtain ⟨o, S', w, rfl, hnt, q8, q0, q6, q7⟩ := hlp
  rw [Bool.false_or] at q8
  have d5' : anyEnds kind l = true ∨ Ne.may 60 Tk.may [.mk kind (wrapT kind) l] = decide (Ne.depth l < 60) := by
    cases he : anyEnds kind l with
    | true => exact .inl rfl
    | false => exact .inr (wrap_may hk h2 he)
  have e60 : decide ((Ne.depth l : Int) < 60) = decide (Ne.depth l < 60) := by
    rw [Bool.eq_iff_iff, decide_eq_true_eq, decide_eq_true_eq]; omega
  by_cases h5 : kind = 5
  · have e5 : (kind == 5) = true := by rw [beq_iff_eq]; exact h5
    have hx : [[PV.int .i64 kind, .int .i64 2, .str [102], .int .i64 0, .sl (encL l)]] = encL [.mk kind (wrapT kind) l] := by
      unfold wrapT; rw [if_pos h5]; rfl
    simp only [go_sem, Nat.reduceLT, reduceIte, reduceCtorEq, Nat.reduceEqDiff, apply_ite (Option.map (outOf _)), Nat.reduceBEq, Nat.reduceAdd, Nat.reduceSub, Nat.reduceLeDiff, Nat.reduceMul, good_10, good_9, good_20, ev_build ty_zeroCells_40 ty_placesOf_40, ty_zeroCells_40, ty_szOf_40, ev_build ty_zeroCells_38 ty_placesOf_38, ty_fieldOff_40_1, ty_szOf_38, ty_shapeT_40, ev_buildSlice (len := 1) ty_descOf_23 ty_szOf_40 ty_zeroCells_40 ⟨rfl, by decide, by decide⟩, good_17, ev_len_sl ty_descOf_23, ev_indexAddr ty_descOf_23, good_23, good_19, ty_isBoolT_4, good_15, ev_len_sl ty_descOf_22, keep_6_10, hr, hf, m1, c1, c2, k1, e5, d1, hx]
    rw [exL_head]
    simp only [go_sem, Nat.reduceLT, reduceIte, reduceCtorEq, Nat.reduceEqDiff, apply_ite (Option.map (outOf _)), Nat.reduceBEq, Nat.reduceAdd, Nat.reduceSub, Nat.reduceLeDiff, Nat.reduceMul, good_10, good_9, good_20, ev_build ty_zeroCells_40 ty_placesOf_40, ty_zeroCells_40, ty_szOf_40, ev_build ty_zeroCells_38 ty_placesOf_38, ty_fieldOff_40_1, ty_szOf_38, ty_shapeT_40, ev_buildSlice (len := 1) ty_descOf_23 ty_szOf_40 ty_zeroCells_40 ⟨rfl, by decide, by decide⟩, good_17, ev_len_sl ty_descOf_23, ev_indexAddr ty_descOf_23, good_23, good_19, ty_isBoolT_4, good_15, ev_len_sl ty_descOf_22, keep_6_10]
    erw [w]
    rcases d5' with he | he
    · rw [he] at q8
      simp only [go_sem, Nat.reduceLT, reduceIte, reduceCtorEq, Nat.reduceEqDiff, apply_ite (Option.map (outOf _)), Nat.reduceBEq, Nat.reduceAdd, Nat.reduceSub, Nat.reduceLeDiff, Nat.reduceMul, good_10, good_9, good_20, ev_build ty_zeroCells_40 ty_placesOf_40, ty_zeroCells_40, ty_szOf_40, ev_build ty_zeroCells_38 ty_placesOf_38, ty_fieldOff_40_1, ty_szOf_38, ty_shapeT_40, ev_buildSlice (len := 1) ty_descOf_23 ty_szOf_40 ty_zeroCells_40 ⟨rfl, by decide, by decide⟩, good_17, ev_len_sl ty_descOf_23, ev_indexAddr ty_descOf_23, good_23, good_19, ty_isBoolT_4, good_15, ev_len_sl ty_descOf_22, keep_6_10, hr, hnt, q8, q0, q6, q7, d1, d2, d3, d4, d5, wr1, wr2, hlen]
    · rw [he] at d5
      cases he2 : anyEnds kind l <;> rw [he2] at q8 <;> simp only [go_sem, Nat.reduceLT, reduceIte, reduceCtorEq, Nat.reduceEqDiff, apply_ite (Option.map (outOf _)), Nat.reduceBEq, Nat.reduceAdd, Nat.reduceSub, Nat.reduceLeDiff, Nat.reduceMul, good_10, good_9, good_20, ev_build ty_zeroCells_40 ty_placesOf_40, ty_zeroCells_40, ty_szOf_40, ev_build ty_zeroCells_38 ty_placesOf_38, ty_fieldOff_40_1, ty_szOf_38, ty_shapeT_40, ev_buildSlice (len := 1) ty_descOf_23 ty_szOf_40 ty_zeroCells_40 ⟨rfl, by decide, by decide⟩, good_17, ev_len_sl ty_descOf_23, ev_indexAddr ty_descOf_23, good_23, good_19, ty_isBoolT_4, good_15, ev_len_sl ty_descOf_22, keep_6_10, hr, hnt, q8, q0, q6, q7, d1, d2, d3, d4, d5, wr1, wr2, hlen, e60, beq_same]
  · have e5 : (kind == 5) = false := by rw [beq_eq_false_iff_ne]; exact h5
    have hx : [[PV.int .i64 kind, .int .i64 0, .str [], .int .i64 0, .sl (encL l)]] = encL [.mk kind (wrapT kind) l] := by
      unfold wrapT; rw [if_neg h5]; rfl
    simp only [go_sem, Nat.reduceLT, reduceIte, reduceCtorEq, Nat.reduceEqDiff, apply_ite (Option.map (outOf _)), Nat.reduceBEq, Nat.reduceAdd, Nat.reduceSub, Nat.reduceLeDiff, Nat.reduceMul, good_10, good_9, good_20, ev_build ty_zeroCells_40 ty_placesOf_40, ty_zeroCells_40, ty_szOf_40, ev_build ty_zeroCells_38 ty_placesOf_38, ty_fieldOff_40_1, ty_szOf_38, ty_shapeT_40, ev_buildSlice (len := 1) ty_descOf_23 ty_szOf_40 ty_zeroCells_40 ⟨rfl, by decide, by decide⟩, good_17, ev_len_sl ty_descOf_23, ev_indexAddr ty_descOf_23, good_23, good_19, ty_isBoolT_4, good_15, ev_len_sl ty_descOf_22, keep_6_10, hr, hf, m1, c1, c2, k1, e5, d1, hx]
    rw [exL_head]
    simp only [go_sem, Nat.reduceLT, reduceIte, reduceCtorEq, Nat.reduceEqDiff, apply_ite (Option.map (outOf _)), Nat.reduceBEq, Nat.reduceAdd, Nat.reduceSub, Nat.reduceLeDiff, Nat.reduceMul, good_10, good_9, good_20, ev_build ty_zeroCells_40 ty_placesOf_40, ty_zeroCells_40, ty_szOf_40, ev_build ty_zeroCells_38 ty_placesOf_38, ty_fieldOff_40_1, ty_szOf_38, ty_shapeT_40, ev_buildSlice (len := 1) ty_descOf_23 ty_szOf_40 ty_zeroCells_40 ⟨rfl, by decide, by decide⟩, good_17, ev_len_sl ty_descOf_23, ev_indexAddr ty_descOf_23, good_23, good_19, ty_isBoolT_4, good_15, ev_len_sl ty_descOf_22, keep_6_10]
    erw [w]
    rcases d5' with he | he
    · rw [he] at q8
      simp only [go_sem, Nat.reduceLT, reduceIte, reduceCtorEq, Nat.reduceEqDiff, apply_ite (Option.map (outOf _)), Nat.reduceBEq, Nat.reduceAdd, Nat.reduceSub, Nat.reduceLeDiff, Nat.reduceMul, good_10, good_9, good_20, ev_build ty_zeroCells_40 ty_placesOf_40, ty_zeroCells_40, ty_szOf_40, ev_build ty_zeroCells_38 ty_placesOf_38, ty_fieldOff_40_1, ty_szOf_38, ty_shapeT_40, ev_buildSlice (len := 1) ty_descOf_23 ty_szOf_40 ty_zeroCells_40 ⟨rfl, by decide, by decide⟩, good_17, ev_len_sl ty_descOf_23, ev_indexAddr ty_descOf_23, good_23, good_19, ty_isBoolT_4, good_15, ev_len_sl ty_descOf_22, keep_6_10, hr, hnt, q8, q0, q6, q7, d1, d2, d3, d4, d5, wr1, wr2, hlen]
    · rw [he] at d5
      cases he2 : anyEnds kind l <;> rw [he2] at q8 <;> simp only [go_sem, Nat.reduceLT, reduceIte, reduceCtorEq, Nat.reduceEqDiff, apply_ite (Option.map (outOf _)), Nat.reduceBEq, Nat.reduceAdd, Nat.reduceSub, Nat.reduceLeDiff, Nat.reduceMul, good_10, good_9, good_20, ev_build ty_zeroCells_40 ty_placesOf_40, ty_zeroCells_40, ty_szOf_40, ev_build ty_zeroCells_38 ty_placesOf_38, ty_fieldOff_40_1, ty_szOf_38, ty_shapeT_40, ev_buildSlice (len := 1) ty_descOf_23 ty_szOf_40 ty_zeroCells_40 ⟨rfl, by decide, by decide⟩, good_17, ev_len_sl ty_descOf_23, ev_indexAddr ty_descOf_23, good_23, good_19, ty_isBoolT_4, good_15, ev_len_sl ty_descOf_22, keep_6_10, hr, hnt, q8, q0, q6, q7, d1, d2, d3, d4, d5, wr1, wr2, hlen, e60, beq_same]
end Go.Abs

namespace Go.Abs
open Go Go.Proofs
set_option maxRecDepth 100000
theorem NestWraps_args (pss : List (List PV)) (h : All2 (fun t p => ∃ n, TyP Tryd.prog n t p) Tryd.f6.params.toList pss) :
    den K 6 (List.zipWith (argOf Tryd.prog) Tryd.f6.params.toList pss) [] = some (.ret (.c (.pv (.bool true))) []) := by
  have hp : Tryd.f6.params.toList = [23, 3] := rfl
  rw [hp] at h ⊢
  refine args2 h fun n m p q h1 h2 e => ?_
  subst e
  obtain ⟨l, rfl, hl⟩ := ty_vals h1
  obtain ⟨d, rfl, hd⟩ := TyP_int ty_descOf_3 h2
  simp only [List.zipWith_cons_cons, List.zipWith_nil_left, argOf_num, argOf_vals]
  exact NestWraps_den l d hl
end Go.Abs
