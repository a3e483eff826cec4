/-
  WHAT THE FUNCTIONS COMPUTE, layer 4, the document's reader of selectors: tokens, signs, names, values, blanks, combinators.
-/
import Derived.Test.YtmcjabhnmealgaaDoorQSpecL1
set_option linter.unusedSimpArgs false
set_option linter.unusedVariables false
namespace Go.Abs
open Go Go.Proofs
set_option maxRecDepth 10000
attribute [local go_sem] exL_seq exL_region exL_cond exL_block exL_scope exL_ret exL_skip exL_exit runRegion runOps stepOp guardA absOp takeOver opd avOf cvOf St.degAt St.put okPV okVal okAV absBin intBin strBin boolBin setBoxes if_true Bool.false_eq_true if_false Option.map_some Option.map_none Option.bind_some Option.bind_none thenO outOf upd List.toList_toArray isOwn steal appArgs inApps AV.deg CV.deg AV.gv AV.isIter absNext some_bne List.length_nil List.length_cons List.filterMap_cons List.filterMap_nil beq_iff_eq List.getElem?_cons_zero List.getElem?_cons_succ Option.getD_some K_hook hookB Bool.false_and Bool.and_false Bool.and_self K_P K_own absCall doCall getBoxes lend back idx dedup AV.ren CV.ren TV.ren AV.ptrs CV.ptrs zipBox AV.flat CV.flat absLoad absStore cellsOfAV setAt newBox markB bldTypes absFieldAddr absField absExtract absAssert noAssert absMkIface ifcOf CV.pv? content pushHead ownT fillCells reps pvs chunks enterSt leave resOf resVars resVar outBoxes lentOnly TV.deg TV.av LK CV.plain CV.noBld nilBin absUn bound List.map_cons List.map_nil List.all_cons List.all_nil List.any_cons List.any_nil List.contains_cons List.contains_nil List.elem_cons List.elem_nil List.cons_append List.nil_append List.append_nil List.flatMap_cons List.flatMap_nil List.zip_cons_cons List.zip_nil_left List.zip_nil_right List.take_succ_cons List.take_zero List.take_nil List.drop_succ_cons List.drop_zero List.drop_nil List.isEmpty_nil List.isEmpty_cons Bool.and_true Bool.true_and Bool.or_true Bool.true_or Bool.or_false Bool.false_or Bool.not_true Bool.not_false Nat.add_zero Nat.zero_add Option.isNone_none Option.isNone_some Option.getD_none true_and and_true not_true_eq_false not_false_eq_true decide_true decide_false Nat.le_refl and_self Bool.not_eq_true Nat.sub_self or_true true_or Option.some.injEq List.length_map List.nil_eq and_false false_and AV.live CV.live CV.liveIn K_keep firstReg Option.orElse_some Option.orElse_none head keepSlots keepBoxes Int.lt_irrefl List.length_append ite_self memOK logOps opKey lentBoxes Key.clash Key.sees Key.writes Nat.lt_irrefl gt_iff_lt nobox_at bot_at false_or or_false beq_self_eq_true Bool.true_beq Bool.false_beq

abbrev tokCvL (t : Tok) : List CV := [.pv (.int .i64 t.kind), .pv (.str t.text), .pv (.int .i64 t.n)]

/-- the values of a reader: as they were given, or as they were appended -/
def rl (w : Option Nat) (l : List Val) : CV := match w with | none => .pv (.sl (encL l)) | some e => .own e (encL l)
theorem rl_none (l : List Val) : rl none l = .pv (.sl (encL l)) := rfl
theorem rl_some (e : Nat) (l : List Val) : rl (some e) l = .own e (encL l) := rfl
/-- a reader's cells -/
abbrev rb (w : Option Nat) (l : List Val) (i : Nat) (bad : Bool) : List CV := [rl w l, .pv (.int .i64 i), .pv (.bool bad)]

abbrev rb0 (l : List Val) (i : Nat) (bad : Bool) : List CV := [.pv (.sl (encL l)), .pv (.int .i64 i), .pv (.bool bad)]
theorem drop_val {l : List Val} {i : Nat} {v : Val} {r : List Val} (h : l.drop i = v :: r) : l[i]? = some v ∧ l.drop (i + 1) = r ∧ i < l.length := drop_cons h

/-- the token that comes, or none -/
def tk0 (kind : Int) (l : List Val) : Tok := (Sl.tokK kind l).getD Ne.tok0

theorem tk0_no {kind k : Int} {t : Tok} {c r : List Val} (h : ¬(k = 1 ∧ t.kind = kind)) : tk0 kind (Val.mk k t c :: r) = Ne.tok0 := by
  have : Sl.tokK kind (Val.mk k t c :: r) = none := if_neg h
  unfold tk0; rw [this]; rfl
theorem tk0_yes {kind k : Int} {t : Tok} {c r : List Val} (h : k = 1 ∧ t.kind = kind) : tk0 kind (Val.mk k t c :: r) = t := by
  have : Sl.tokK kind (Val.mk k t c :: r) = some t := if_pos h
  unfold tk0; rw [this]; rfl

set_option maxHeartbeats 4000000 in
theorem tok_den (w : Option Nat) (l : List Val) (i : Nat) (bad : Bool) (kind : Int) (hl : l.length ≤ 100000000) :
    den K 52 [P0, I kind] [rb w l i bad] = some (.ret (.agg (tokCvL (tk0 kind (l.drop i)))) [rb w l i bad]) := by
  have hr : Tryd.f52.results = #[.cell 4 83] := rfl
  cases hd : l.drop i with
  | nil =>
    have hle : l.length ≤ i := List.drop_eq_nil_iff.1 hd
    have hlt : decide ((i : Int) < (l.length : Int)) = false := decide_eq_false (by omega)
    have hv : tk0 kind [] = Ne.tok0 := rfl
    rw [hv]
    cases w
    all_goals
      simp only [rb, rl_none, rl_some]
      refine den_run rfl Tryd.func52 rfl Tryd.ntmps52 ⟨by simp, by simp [LK]⟩ ?_
      simp only [go_sem, Nat.reduceLT, reduceIte, reduceCtorEq, Nat.reduceEqDiff, apply_ite (Option.map (outOf _)), Nat.reduceBEq, Nat.reduceAdd, Nat.reduceSub, Nat.reduceLeDiff, Nat.reduceMul, ty_shapeT_83, ty_zeroCells_83, ty_fieldOff_92_1, ty_szOf_3, ty_shapeT_3, ty_fieldOff_92_0, ty_szOf_39, ty_shapeT_39, ev_len_sl ty_descOf_39, ev_indexAddr ty_descOf_39, ty_szOf_88, ty_fieldOff_88_0, ty_fieldOff_88_1, ty_szOf_83, ty_fieldOff_83_0, ev_build ty_zeroCells_83 ty_placesOf_83, hr, hlt, encL_len, Ne.tok0]
  | cons v r =>
    obtain ⟨k, t, c⟩ := v
    obtain ⟨g1, g2, g3⟩ := drop_val hd
    have hlt : decide ((i : Int) < (l.length : Int)) = true := decide_eq_true (by omega)
    have hget := val_at l i k t c g1
    cases e1 : (k == 1)
    · have hv : tk0 kind (Val.mk k t c :: r) = Ne.tok0 := by
        have : k ≠ 1 := by simpa using e1
        exact tk0_no fun h => this h.1
      rw [hv]
      cases w
      all_goals
        simp only [rb, rl_none, rl_some]
        refine den_run rfl Tryd.func52 rfl Tryd.ntmps52 ⟨by simp, by simp [LK]⟩ ?_
        simp only [go_sem, Nat.reduceLT, reduceIte, reduceCtorEq, Nat.reduceEqDiff, apply_ite (Option.map (outOf _)), Nat.reduceBEq, Nat.reduceAdd, Nat.reduceSub, Nat.reduceLeDiff, Nat.reduceMul, ty_shapeT_83, ty_zeroCells_83, ty_fieldOff_92_1, ty_szOf_3, ty_shapeT_3, ty_fieldOff_92_0, ty_szOf_39, ty_shapeT_39, ev_len_sl ty_descOf_39, ev_indexAddr ty_descOf_39, ty_szOf_88, ty_fieldOff_88_0, ty_fieldOff_88_1, ty_szOf_83, ty_fieldOff_83_0, ev_build ty_zeroCells_83 ty_placesOf_83, hr, hlt, hget, Int.natCast_nonneg, e1, encL_len, Ne.tok0]
    · cases e2 : (t.kind == kind)
      · have hv : tk0 kind (Val.mk k t c :: r) = Ne.tok0 := by
          have : t.kind ≠ kind := by simpa using e2
          exact tk0_no fun h => this h.2
        rw [hv]
        cases w
        all_goals
          simp only [rb, rl_none, rl_some]
          refine den_run rfl Tryd.func52 rfl Tryd.ntmps52 ⟨by simp, by simp [LK]⟩ ?_
          simp only [go_sem, Nat.reduceLT, reduceIte, reduceCtorEq, Nat.reduceEqDiff, apply_ite (Option.map (outOf _)), Nat.reduceBEq, Nat.reduceAdd, Nat.reduceSub, Nat.reduceLeDiff, Nat.reduceMul, ty_shapeT_83, ty_zeroCells_83, ty_fieldOff_92_1, ty_szOf_3, ty_shapeT_3, ty_fieldOff_92_0, ty_szOf_39, ty_shapeT_39, ev_len_sl ty_descOf_39, ev_indexAddr ty_descOf_39, ty_szOf_88, ty_fieldOff_88_0, ty_fieldOff_88_1, ty_szOf_83, ty_fieldOff_83_0, ev_build ty_zeroCells_83 ty_placesOf_83, hr, hlt, hget, Int.natCast_nonneg, e1, e2, encL_len, Ne.tok0]
      · have hv : tk0 kind (Val.mk k t c :: r) = t := by
          have h1 : k = 1 := by simpa using e1
          have h2 : t.kind = kind := by simpa using e2
          exact tk0_yes ⟨h1, h2⟩
        rw [hv]
        cases w
        all_goals
          simp only [rb, rl_none, rl_some]
          refine den_run rfl Tryd.func52 rfl Tryd.ntmps52 ⟨by simp, by simp [LK]⟩ ?_
          simp only [go_sem, Nat.reduceLT, reduceIte, reduceCtorEq, Nat.reduceEqDiff, apply_ite (Option.map (outOf _)), Nat.reduceBEq, Nat.reduceAdd, Nat.reduceSub, Nat.reduceLeDiff, Nat.reduceMul, ty_shapeT_83, ty_zeroCells_83, ty_fieldOff_92_1, ty_szOf_3, ty_shapeT_3, ty_fieldOff_92_0, ty_szOf_39, ty_shapeT_39, ev_len_sl ty_descOf_39, ev_indexAddr ty_descOf_39, ty_szOf_88, ty_fieldOff_88_0, ty_fieldOff_88_1, ty_szOf_83, ty_fieldOff_83_0, ev_build ty_zeroCells_83 ty_placesOf_83, hr, hlt, hget, Int.natCast_nonneg, e1, e2, encL_len]

theorem sign_yes (w : Option Nat) (l : List Val) (i : Nat) (bad : Bool) (s : List UInt8) (hl : l.length ≤ 100000000) (r : List Val) (h : Sl.sign s (l.drop i) = some r) :
    den K 54 [P0, T s] [rb w l i bad] = some (.ret (B true) [rb w l (i + 1) bad]) ∧ l.drop (i + 1) = r ∧ i < l.length := by
  have hr : Tryd.f54.results = #[.tmp 4] := rfl
  cases hd : l.drop i with
  | nil => rw [hd] at h; cases h
  | cons v r' =>
    rw [hd] at h
    obtain ⟨k, t, c⟩ := v
    obtain ⟨g1, g2, g3⟩ := drop_val hd
    have hb : Sl.isSign s (Val.mk k t c) = true := by
      cases hb : Sl.isSign s (Val.mk k t c) with
      | true => rfl
      | false => unfold Sl.sign at h; simp only at h; rw [hb, if_neg (by simp)] at h; cases h
    have hrr : r' = r := by unfold Sl.sign at h; simp only at h; rw [hb, if_pos rfl] at h; cases h; rfl
    refine ⟨?_, by rw [g2, hrr], g3⟩
    have hlt : decide ((i : Int) < (l.length : Int)) = true := decide_eq_true (by omega)
    have hget := val_at l i k t c g1
    have hw : IntKind.i64.wrap ((i : Int) + 1) = ((i + 1 : Nat) : Int) := wrap_nat i (by omega)
    have hs := sign3_den k t c s
    rw [hb] at hs
    cases w
    all_goals
      simp only [rb, rl_none, rl_some]
      refine den_run rfl Tryd.func54 rfl Tryd.ntmps54 ⟨by simp, by simp [LK]⟩ ?_
      simp only [go_sem, Nat.reduceLT, reduceIte, reduceCtorEq, Nat.reduceEqDiff, apply_ite (Option.map (outOf _)), Nat.reduceBEq, Nat.reduceAdd, Nat.reduceSub, Nat.reduceLeDiff, Nat.reduceMul, ty_fieldOff_92_1, ty_szOf_3, ty_shapeT_3, ty_fieldOff_92_0, ty_szOf_39, ty_shapeT_39, ev_len_sl ty_descOf_39, ev_indexAddr ty_descOf_39, ty_szOf_88, ty_shapeT_88, good_33, hr, hlt, hget, Int.natCast_nonneg, encL_len, hs, hw]

theorem sign_no (w : Option Nat) (l : List Val) (i : Nat) (bad : Bool) (s : List UInt8) (hl : l.length ≤ 100000000) (h : Sl.sign s (l.drop i) = none) :
    den K 54 [P0, T s] [rb w l i bad] = some (.ret (B false) [rb w l i bad]) := by
  have hr : Tryd.f54.results = #[.tmp 4] := rfl
  cases hd : l.drop i with
  | nil =>
    have hle : l.length ≤ i := List.drop_eq_nil_iff.1 hd
    have hlt : decide ((i : Int) < (l.length : Int)) = false := decide_eq_false (by omega)
    cases w
    all_goals
      simp only [rb, rl_none, rl_some]
      refine den_run rfl Tryd.func54 rfl Tryd.ntmps54 ⟨by simp, by simp [LK]⟩ ?_
      simp only [go_sem, Nat.reduceLT, reduceIte, reduceCtorEq, Nat.reduceEqDiff, apply_ite (Option.map (outOf _)), Nat.reduceBEq, Nat.reduceAdd, Nat.reduceSub, Nat.reduceLeDiff, Nat.reduceMul, ty_fieldOff_92_1, ty_szOf_3, ty_shapeT_3, ty_fieldOff_92_0, ty_szOf_39, ty_shapeT_39, ev_len_sl ty_descOf_39, ev_indexAddr ty_descOf_39, ty_szOf_88, ty_shapeT_88, good_33, hr, hlt, encL_len]
  | cons v r' =>
    rw [hd] at h
    obtain ⟨k, t, c⟩ := v
    obtain ⟨g1, g2, g3⟩ := drop_val hd
    have hb : Sl.isSign s (Val.mk k t c) = false := by
      cases hb : Sl.isSign s (Val.mk k t c) with
      | false => rfl
      | true => unfold Sl.sign at h; simp only at h; rw [hb, if_pos rfl] at h; cases h
    have hlt : decide ((i : Int) < (l.length : Int)) = true := decide_eq_true (by omega)
    have hget := val_at l i k t c g1
    have hs := sign3_den k t c s
    rw [hb] at hs
    cases w
    all_goals
      simp only [rb, rl_none, rl_some]
      refine den_run rfl Tryd.func54 rfl Tryd.ntmps54 ⟨by simp, by simp [LK]⟩ ?_
      simp only [go_sem, Nat.reduceLT, reduceIte, reduceCtorEq, Nat.reduceEqDiff, apply_ite (Option.map (outOf _)), Nat.reduceBEq, Nat.reduceAdd, Nat.reduceSub, Nat.reduceLeDiff, Nat.reduceMul, ty_fieldOff_92_1, ty_szOf_3, ty_shapeT_3, ty_fieldOff_92_0, ty_szOf_39, ty_shapeT_39, ev_len_sl ty_descOf_39, ev_indexAddr ty_descOf_39, ty_szOf_88, ty_shapeT_88, good_33, hr, hlt, hget, Int.natCast_nonneg, encL_len, hs]

theorem tk0_some {kind : Int} {l : List Val} {t : Tok} (h : Sl.tokK kind l = some t) : tk0 kind l = t ∧ t.kind = kind := by
  refine ⟨by unfold tk0; rw [h]; rfl, ?_⟩
  cases l with
  | nil => cases h
  | cons v r =>
    obtain ⟨k, u, c⟩ := v
    unfold Sl.tokK at h
    simp only at h
    split at h
    · rename_i hh; cases h; exact hh.2
    · cases h
theorem tk0_none {kind : Int} {l : List Val} (h : Sl.tokK kind l = none) : tk0 kind l = Ne.tok0 := by unfold tk0; rw [h]; rfl
theorem tokK_lt {kind : Int} {l : List Val} {i : Nat} {t : Tok} (h : Sl.tokK kind (l.drop i) = some t) : i < l.length := by
  cases hd : l.drop i with
  | nil => rw [hd] at h; cases h
  | cons v r => exact (drop_val hd).2.2

theorem name_yes (w : Option Nat) (l : List Val) (i : Nat) (bad : Bool) (hl : l.length ≤ 100000000) (s : List UInt8) (r : List Val) (h : Sl.name (l.drop i) = some (s, r)) :
    den K 37 [P0] [rb w l i bad] = some (.ret (T s) [rb w l (i + 1) bad]) ∧ l.drop (i + 1) = r ∧ i < l.length := by
  have hr : Tryd.f37.results = #[.tmp 2] := rfl
  have ht := tok_den w l i bad 1 hl
  unfold Sl.name at h
  cases hk : Sl.tokK 1 (l.drop i) with
  | none => rw [hk] at h; cases h
  | some t =>
    rw [hk] at h
    cases h
    obtain ⟨h1, h2⟩ := tk0_some hk
    have hi := tokK_lt hk
    refine ⟨?_, by rw [List.tail_drop], hi⟩
    rw [h1] at ht
    have hw : IntKind.i64.wrap ((i : Int) + 1) = ((i + 1 : Nat) : Int) := wrap_nat i (by omega)
    have e0 : (t.kind == 0) = false := by rw [h2]; rfl
    cases w
    all_goals
      simp only [rb, rl_none, rl_some] at ht ⊢
      refine den_run rfl Tryd.func37 rfl Tryd.ntmps37 ⟨by simp, by simp [LK]⟩ ?_
      simp only [go_sem, Nat.reduceLT, reduceIte, reduceCtorEq, Nat.reduceEqDiff, apply_ite (Option.map (outOf _)), Nat.reduceBEq, Nat.reduceAdd, Nat.reduceSub, Nat.reduceLeDiff, Nat.reduceMul, good_52, ty_zeroCells_83, ty_szOf_83, ty_fieldOff_83_0, ty_szOf_3, ty_shapeT_3, ty_fieldOff_92_2, ty_szOf_4, ty_fieldOff_92_1, ty_fieldOff_83_1, ty_szOf_9, ty_shapeT_9, hr, ht, hw, e0]

theorem name_no (w : Option Nat) (l : List Val) (i : Nat) (bad : Bool) (hl : l.length ≤ 100000000) (h : Sl.name (l.drop i) = none) :
    den K 37 [P0] [rb w l i bad] = some (.ret (T []) [rb w l i true]) := by
  have hr : Tryd.f37.results = #[.tmp 2] := rfl
  have ht := tok_den w l i bad 1 hl
  unfold Sl.name at h
  cases hk : Sl.tokK 1 (l.drop i) with
  | some t => rw [hk] at h; cases h
  | none =>
    rw [tk0_none hk] at ht
    simp only [Ne.tok0] at ht
    cases w
    all_goals
      simp only [rb, rl_none, rl_some] at ht ⊢
      refine den_run rfl Tryd.func37 rfl Tryd.ntmps37 ⟨by simp, by simp [LK]⟩ ?_
      simp only [go_sem, Nat.reduceLT, reduceIte, reduceCtorEq, Nat.reduceEqDiff, apply_ite (Option.map (outOf _)), Nat.reduceBEq, Nat.reduceAdd, Nat.reduceSub, Nat.reduceLeDiff, Nat.reduceMul, good_52, ty_zeroCells_83, ty_szOf_83, ty_fieldOff_83_0, ty_szOf_3, ty_shapeT_3, ty_fieldOff_92_2, ty_szOf_4, ty_fieldOff_92_1, ty_fieldOff_83_1, ty_szOf_9, ty_shapeT_9, hr, ht]

theorem tok0_den (l : List Val) (i : Nat) (bad : Bool) (kind : Int) (hl : l.length ≤ 100000000) :
    den K 52 [P0, I kind] [rb0 l i bad] = some (.ret (.agg (tokCvL (tk0 kind (l.drop i)))) [rb0 l i bad]) := tok_den none l i bad kind hl
theorem sign0_yes (l : List Val) (i : Nat) (bad : Bool) (s : List UInt8) (hl : l.length ≤ 100000000) (r : List Val) (h : Sl.sign s (l.drop i) = some r) :
    den K 54 [P0, T s] [rb0 l i bad] = some (.ret (B true) [rb0 l (i + 1) bad]) ∧ l.drop (i + 1) = r ∧ i < l.length := sign_yes none l i bad s hl r h
theorem sign0_no (l : List Val) (i : Nat) (bad : Bool) (s : List UInt8) (hl : l.length ≤ 100000000) (h : Sl.sign s (l.drop i) = none) :
    den K 54 [P0, T s] [rb0 l i bad] = some (.ret (B false) [rb0 l i bad]) := sign_no none l i bad s hl h
theorem name0_yes (l : List Val) (i : Nat) (bad : Bool) (hl : l.length ≤ 100000000) (s : List UInt8) (r : List Val) (h : Sl.name (l.drop i) = some (s, r)) :
    den K 37 [P0] [rb0 l i bad] = some (.ret (T s) [rb0 l (i + 1) bad]) ∧ l.drop (i + 1) = r ∧ i < l.length := name_yes none l i bad hl s r h
theorem name0_no (l : List Val) (i : Nat) (bad : Bool) (hl : l.length ≤ 100000000) (h : Sl.name (l.drop i) = none) :
    den K 37 [P0] [rb0 l i bad] = some (.ret (T []) [rb0 l i true]) := name_no none l i bad hl h

theorem value_yes (l : List Val) (i : Nat) (bad : Bool) (kind : Int) (hl : l.length ≤ 100000000) (t : Tok) (c r : List Val) (h : Sl.valueK kind (l.drop i) = some ((t, c), r)) :
    den K 56 [P0, I kind] [rb0 l i bad] = some (.ret (.agg (valCv kind t c)) [rb0 l (i + 1) bad]) ∧ l.drop (i + 1) = r ∧ l[i]? = some (.mk kind t c) := by
  have hr : Tryd.f56.results = #[.cell 4 88] := rfl
  cases hd : l.drop i with
  | nil => rw [hd] at h; cases h
  | cons v r' =>
    rw [hd] at h
    obtain ⟨k, t', c'⟩ := v
    obtain ⟨g1, g2, g3⟩ := drop_val hd
    have hk : k = kind ∧ t' = t ∧ c' = c ∧ r' = r := by
      unfold Sl.valueK at h
      simp only at h
      split at h
      · rename_i hh; cases h; exact ⟨hh, rfl, rfl, rfl⟩
      · cases h
    obtain ⟨rfl, rfl, rfl, rfl⟩ := hk
    refine ⟨?_, g2, g1⟩
    have hlt : decide ((i : Int) < (l.length : Int)) = true := decide_eq_true (by omega)
    have hget := val_at l i k t' c' g1
    have hw : IntKind.i64.wrap ((i : Int) + 1) = ((i + 1 : Nat) : Int) := wrap_nat i (by omega)
    have hw2 : IntKind.i64.wrap (((i + 1 : Nat) : Int) - 1) = (i : Int) := by rw [IntWalk.i64_in _ (by omega)]; omega
    refine den_run rfl Tryd.func56 rfl Tryd.ntmps56 ⟨by simp, by simp [LK]⟩ ?_
    simp only [go_sem, Nat.reduceLT, reduceIte, reduceCtorEq, Nat.reduceEqDiff, apply_ite (Option.map (outOf _)), Nat.reduceBEq, Nat.reduceAdd, Nat.reduceSub, Nat.reduceLeDiff, Nat.reduceMul, ty_shapeT_88, ty_zeroCells_88, ty_fieldOff_92_1, ty_szOf_3, ty_shapeT_3, ty_fieldOff_92_0, ty_szOf_39, ty_shapeT_39, ev_len_sl ty_descOf_39, ev_indexAddr ty_descOf_39, ty_szOf_88, ty_fieldOff_88_0, ev_build ty_zeroCells_88 ty_placesOf_88, hr, hlt, hget, Int.natCast_nonneg, encL_len, hw, hw2]

theorem value_no (l : List Val) (i : Nat) (bad : Bool) (kind : Int) (hl : l.length ≤ 100000000) (h : Sl.valueK kind (l.drop i) = none) :
    den K 56 [P0, I kind] [rb0 l i bad] = some (.ret (.agg [.pv (.int .i64 0), .pv (.int .i64 0), .pv (.str []), .pv (.int .i64 0), .nils]) [rb0 l i bad]) := by
  have hr : Tryd.f56.results = #[.cell 4 88] := rfl
  cases hd : l.drop i with
  | nil =>
    have hle : l.length ≤ i := List.drop_eq_nil_iff.1 hd
    have hlt : decide ((i : Int) < (l.length : Int)) = false := decide_eq_false (by omega)
    refine den_run rfl Tryd.func56 rfl Tryd.ntmps56 ⟨by simp, by simp [LK]⟩ ?_
    simp only [go_sem, Nat.reduceLT, reduceIte, reduceCtorEq, Nat.reduceEqDiff, apply_ite (Option.map (outOf _)), Nat.reduceBEq, Nat.reduceAdd, Nat.reduceSub, Nat.reduceLeDiff, Nat.reduceMul, ty_shapeT_88, ty_zeroCells_88, ty_fieldOff_92_1, ty_szOf_3, ty_shapeT_3, ty_fieldOff_92_0, ty_szOf_39, ty_shapeT_39, ev_len_sl ty_descOf_39, ev_indexAddr ty_descOf_39, ty_szOf_88, ty_fieldOff_88_0, ev_build ty_zeroCells_88 ty_placesOf_88, hr, hlt, encL_len]
  | cons v r' =>
    rw [hd] at h
    obtain ⟨k, t', c'⟩ := v
    obtain ⟨g1, g2, g3⟩ := drop_val hd
    have hk : (k == kind) = false := by
      rw [beq_eq_false_iff_ne]
      intro hh
      unfold Sl.valueK at h
      simp only at h
      rw [if_pos hh] at h; cases h
    have hlt : decide ((i : Int) < (l.length : Int)) = true := decide_eq_true (by omega)
    have hget := val_at l i k t' c' g1
    refine den_run rfl Tryd.func56 rfl Tryd.ntmps56 ⟨by simp, by simp [LK]⟩ ?_
    simp only [go_sem, Nat.reduceLT, reduceIte, reduceCtorEq, Nat.reduceEqDiff, apply_ite (Option.map (outOf _)), Nat.reduceBEq, Nat.reduceAdd, Nat.reduceSub, Nat.reduceLeDiff, Nat.reduceMul, ty_shapeT_88, ty_zeroCells_88, ty_fieldOff_92_1, ty_szOf_3, ty_shapeT_3, ty_fieldOff_92_0, ty_szOf_39, ty_shapeT_39, ev_len_sl ty_descOf_39, ev_indexAddr ty_descOf_39, ty_szOf_88, ty_fieldOff_88_0, ev_build ty_zeroCells_88 ty_placesOf_88, hr, hlt, hget, Int.natCast_nonneg, encL_len, hk]

/-! ### blanks -/

theorem isBlank_tok (l : List Val) : (tk0 8 l).kind = 8 ↔ ∃ v r, l = v :: r ∧ Sl.isBlank v = true := by
  cases l with
  | nil => simp [tk0, Sl.tokK, Ne.tok0]
  | cons v r =>
    obtain ⟨k, t, c⟩ := v
    constructor
    · intro h
      refine ⟨_, _, rfl, ?_⟩
      by_cases hh : k = 1 ∧ t.kind = 8
      · obtain ⟨rfl, h2⟩ := hh
        simp [Sl.isBlank, h2]
      · rw [tk0_no hh] at h; cases h
    · rintro ⟨v', r', h, hb⟩
      cases h
      simp [Sl.isBlank] at hb
      rw [tk0_yes hb]; exact hb.2

abbrev blanksH (l : List Val) (i0 i : Nat) (bad : Bool) : St :=
  { sl := upd (upd bot 3 (I i0)) 0 P0, bx := upd nobox 100000 (some (rb0 l i bad)), nt := 25 }
noncomputable def bllp : Code := .loop (loopAt Tryd.f58 2)

theorem blanks_yes (l : List Val) (i0 i : Nat) (bad : Bool) (hl : l.length ≤ 100000000) (hi : i < l.length) (hb : (tk0 8 (l.drop i)).kind = 8) :
    exL K 58 bllp (blanksH l i0 i bad) = exL K 58 bllp (blanksH l i0 (i + 1) bad) := by
  have ht := tok0_den l i bad 8 hl
  have e8 : ((tk0 8 (l.drop i)).kind == 8) = true := by rw [hb]; rfl
  have hw : IntKind.i64.wrap ((i : Int) + 1) = ((i + 1 : Nat) : Int) := wrap_nat i (by omega)
  unfold bllp
  conv in loopAt _ _ => whnf
  conv in loopAt _ _ => whnf
  conv in exL _ _ _ (blanksH l i0 i bad) => rw [exL_loop]
  simp only [go_sem, Nat.reduceLT, reduceIte, reduceCtorEq, Nat.reduceEqDiff, apply_ite (Option.map (outOf _)), Nat.reduceBEq, Nat.reduceAdd, Nat.reduceSub, Nat.reduceLeDiff, Nat.reduceMul, ty_fieldOff_92_1, ty_szOf_3, ty_shapeT_3, good_52, ty_fieldOff_83_0, keep_58_2, ht, e8, hw]
  rw [exL_head]
  simp only [go_sem, Nat.reduceLT, reduceIte, reduceCtorEq, Nat.reduceEqDiff, apply_ite (Option.map (outOf _)), Nat.reduceBEq, Nat.reduceAdd, Nat.reduceSub, Nat.reduceLeDiff, Nat.reduceMul, ty_fieldOff_92_1, ty_szOf_3, ty_shapeT_3, good_52, ty_fieldOff_83_0, keep_58_2]

theorem blanks_no (l : List Val) (i0 i : Nat) (bad : Bool) (hl : l.length ≤ 100000000) (hb : (tk0 8 (l.drop i)).kind ≠ 8) :
    Ends (exL K 58 bllp (blanksH l i0 i bad)) fun o S => o = .exit 0 ∧ S.nt = 25 ∧ S.sl 0 = P0 ∧ S.sl 3 = I i0 ∧ S.bx 100000 = some (rb0 l i bad) := by
  have ht := tok0_den l i bad 8 hl
  have e8 : ((tk0 8 (l.drop i)).kind == 8) = false := by rw [beq_eq_false_iff_ne]; exact hb
  unfold bllp
  conv in loopAt _ _ => whnf
  rw [exL_loop]
  simp only [go_sem, Nat.reduceLT, reduceIte, reduceCtorEq, Nat.reduceEqDiff, apply_ite (Option.map (outOf _)), Nat.reduceBEq, Nat.reduceAdd, Nat.reduceSub, Nat.reduceLeDiff, Nat.reduceMul, ty_fieldOff_92_1, ty_szOf_3, ty_shapeT_3, good_52, ty_fieldOff_83_0, keep_58_2, ht, e8, ends_some]

theorem blanks_loop (l : List Val) (i0 : Nat) (bad : Bool) (hl : l.length ≤ 100000000) : ∀ (rest : List Val) (i : Nat), l.drop i = rest → i ≤ l.length →
    Ends (exL K 58 bllp (blanksH l i0 i bad)) fun o S => o = .exit 0 ∧ S.nt = 25 ∧ ∃ j : Nat, l.drop j = rest.dropWhile Sl.isBlank ∧ i ≤ j ∧ j ≤ l.length ∧ S.sl 0 = P0 ∧ S.sl 3 = I i0 ∧ S.bx 100000 = some (rb0 l j bad)
  | [], i, hd, hi => by
    have hb : (tk0 8 (l.drop i)).kind ≠ 8 := by rw [hd]; decide
    refine ends_imp (blanks_no l i0 i bad hl hb) fun o S q => ⟨q.1, q.2.1, i, by rw [hd]; rfl, Nat.le_refl _, hi, q.2.2⟩
  | v :: rest, i, hd, hi => by
    obtain ⟨g1, g2, g3⟩ := drop_val hd
    cases hb : Sl.isBlank v with
    | true =>
      have h8 : (tk0 8 (l.drop i)).kind = 8 := by rw [hd]; exact (isBlank_tok _).2 ⟨v, rest, rfl, hb⟩
      rw [blanks_yes l i0 i bad hl g3 h8, List.dropWhile_cons, if_pos hb]
      refine ends_imp (blanks_loop l i0 bad hl rest (i + 1) g2 g3) fun o S q => ?_
      obtain ⟨q1, q2, j, q3, q4, q5⟩ := q
      exact ⟨q1, q2, j, q3, by omega, q5⟩
    | false =>
      have h8 : (tk0 8 (l.drop i)).kind ≠ 8 := by
        rw [hd]
        intro h
        obtain ⟨v', r', h1, h2⟩ := (isBlank_tok _).1 h
        cases h1
        rw [hb] at h2; cases h2
      refine ends_imp (blanks_no l i0 i bad hl h8) fun o S q => ⟨q.1, q.2.1, i, ?_, Nat.le_refl _, hi, q.2.2⟩
      rw [hd, List.dropWhile_cons, if_neg (by rw [hb]; simp)]

theorem blanks_den (l : List Val) (i : Nat) (bad : Bool) (hl : l.length ≤ 100000000) (hi : i ≤ l.length) : ∃ (b : Bool) (j : Nat), l.drop j = (l.drop i).dropWhile Sl.isBlank ∧ i ≤ j ∧ j ≤ l.length ∧
    den K 58 [P0] [rb0 l i bad] = some (.ret (B b) [rb0 l j bad]) := by
  have h := blanks_loop l i bad hl (l.drop i) i rfl hi
  unfold bllp at h
  conv at h in loopAt _ _ => whnf
  obtain ⟨o, S, w, rfl, hn, j, hj1, hj2, hj3, s0, s3, b1⟩ := h
  refine ⟨decide ((i : Int) < (j : Int)), j, hj1, hj2, hj3, ?_⟩
  refine den_run rfl Tryd.func58 rfl Tryd.ntmps58 ⟨by simp, by simp [LK]⟩ ?_
  have hr : Tryd.f58.results = #[.tmp 2] := rfl
  simp only [go_sem, Nat.reduceLT, reduceIte, reduceCtorEq, Nat.reduceEqDiff, apply_ite (Option.map (outOf _)), Nat.reduceBEq, Nat.reduceAdd, Nat.reduceSub, Nat.reduceLeDiff, Nat.reduceMul, ty_fieldOff_92_1, ty_szOf_3, ty_shapeT_3, good_52, ty_fieldOff_83_0, keep_58_2]
  rw [exL_head]
  simp only [go_sem, Nat.reduceLT, reduceIte, reduceCtorEq, Nat.reduceEqDiff, apply_ite (Option.map (outOf _)), Nat.reduceBEq, Nat.reduceAdd, Nat.reduceSub, Nat.reduceLeDiff, Nat.reduceMul, ty_fieldOff_92_1, ty_szOf_3, ty_shapeT_3, good_52, ty_fieldOff_83_0, keep_58_2]
  erw [w]
  simp only [go_sem, Nat.reduceLT, reduceIte, reduceCtorEq, Nat.reduceEqDiff, apply_ite (Option.map (outOf _)), Nat.reduceBEq, Nat.reduceAdd, Nat.reduceSub, Nat.reduceLeDiff, Nat.reduceMul, ty_fieldOff_92_1, ty_szOf_3, ty_shapeT_3, good_52, ty_fieldOff_83_0, keep_58_2, hr, hn, s0, s3, b1]
end Go.Abs
