/-
  WHAT THE FUNCTIONS COMPUTE, layer 7: a declaration read; the declarations of values.
  WHAT THE FUNCTIONS COMPUTE, layer 2: the document's reader of values.
  WHAT THE FUNCTIONS COMPUTE, layer 1: the scanner's number.
  WHAT THE FUNCTIONS COMPUTE, layer 1: the scanner's next token.
  WHAT THE FUNCTIONS COMPUTE, layer 1: the tokens of a text.
  WHAT THE FUNCTIONS COMPUTE, layer 1: whether a token may be; whether something has to stand between two; the text of tokens.
  WHAT THE DOCUMENT'S ANSWER COMPUTES, layer 1: classes of bytes, names, comments, strings.
  WHAT THE DOCUMENT'S ANSWER COMPUTES, layer 1: digits, a token's text.
  WHAT THE FUNCTIONS COMPUTE, layer 2: nest.May.
  WHAT THE FUNCTIONS COMPUTE, layer 7: the values of declarations; whether declarations may be; whether they are the same.
  WHAT THE FUNCTIONS COMPUTE, layer 2: how many values there are; whether values may be.
  WHAT THE FUNCTIONS COMPUTE, layer 7, the document's answer: the values of declarations; whether they are the same, and few.
  THE FIXED CALLS OF LAYER 7 answer as the document says: the interpreter's run, by the kernel.
  Layer 7: bounds on the declarations that the laws meet.
  DeclsApart, as the interpreter answers it: true, whatever the values are.
  FROM A ROW's READING TO THE INTERPRETER's VALUES: an argument that reads as data is data without memory; a law whose answer the interpreter gives as 'true' meets its row.
  DATA OF A TYPE: what reads as a value of a struct, of a slice; what reads as tokens, and as values.
  DATA OF A TYPE: what reads as declarations.
  WHAT READS AS THE ARGUMENTS: the statement DeclsApart.
-/
import Derived.Test.YtjjeloinclmopaaGreatDoorRows
import Derived.ReadAgain
import Derived.ChangeBears
import Derived.RowKit
import Derived.OpenShut
import Derived.SizedLaws
import Derived.Deep.DeepHandedRow
import Derived.Lib.LaidTab
import Derived.Test.YtjjeloinclmopaaGreatDoorDA4
set_option linter.unusedSimpArgs false
set_option linter.unusedVariables false
namespace Go.Abs
open Go Go.Proofs
set_option maxRecDepth 10000
attribute [local go_sem] exL_seq exL_region exL_cond exL_block exL_scope exL_ret exL_skip exL_exit runRegion runOps stepOp guardA absOp takeOver opd avOf cvOf St.degAt St.put okPV okVal okAV absBin intBin strBin boolBin setBoxes if_true Bool.false_eq_true if_false Option.map_some Option.map_none Option.bind_some Option.bind_none thenO outOf upd List.toList_toArray isOwn steal appArgs mvB inApps AV.deg CV.deg AV.gv AV.isIter absNext some_bne some_beqN List.length_nil List.length_cons List.filterMap_cons List.filterMap_nil beq_iff_eq List.getElem?_cons_zero List.getElem?_cons_succ Option.getD_some K_hook hookB Bool.false_and Bool.and_false Bool.and_self K_P K_own absCall doCall getBoxes lend back idx dedup AV.ren CV.ren TV.ren AV.ptrs CV.ptrs zipBox AV.flat CV.flat absLoad absStore cellsOfAV setAt newBox markB bldTypes absFieldAddr absField absExtract absAssert noAssert absMkIface ifcOf CV.pv? content pushHead ownT fillCells reps pvs chunks enterSt leave resOf resVars resVar outBoxes lentOnly TV.deg TV.av LK CV.plain CV.noBld nilBin absUn bound List.map_cons List.map_nil List.all_cons List.all_nil List.any_cons List.any_nil List.contains_cons List.contains_nil List.elem_cons List.elem_nil List.cons_append List.nil_append List.append_nil List.flatMap_cons List.flatMap_nil List.zip_cons_cons List.zip_nil_left List.zip_nil_right List.take_succ_cons List.take_zero List.take_nil List.drop_succ_cons List.drop_zero List.drop_nil List.isEmpty_nil List.isEmpty_cons Bool.and_true Bool.true_and Bool.or_true Bool.true_or Bool.or_false Bool.false_or Bool.not_true Bool.not_false Nat.add_zero Nat.zero_add Option.isNone_none Option.isNone_some Option.getD_none true_and and_true not_true_eq_false not_false_eq_true decide_true decide_false Nat.le_refl and_self Bool.not_eq_true Nat.sub_self or_true true_or Option.some.injEq List.length_map List.nil_eq and_false false_and AV.live CV.live CV.liveIn K_keep firstReg Option.orElse_some Option.orElse_none head keepSlots keepBoxes Int.lt_irrefl List.length_append ite_self memOK logOps opKey lentBoxes Key.clash Key.sees Key.writes Nat.lt_irrefl gt_iff_lt nobox_at bot_at false_or or_false beq_self_eq_true Bool.true_beq Bool.false_beq
theorem strong_pre {l y : List Val} (h : Sl.strong l = some y) : ∃ q, l = y ++ q := by
  unfold Sl.strong at h
  cases hl : l.reverse with
  | nil => rw [hl] at h; cases h
  | cons v r =>
    rw [hl, Sl.strongR] at h
    split at h
    case isFalse => cases h
    split at h
    case h_2 => cases h
    rename_i w r2 hr
    split at h
    case isFalse => cases h
    cases h
    obtain ⟨pre, hp⟩ := List.dropWhile_suffix Sl.isBlank (l := r)
    obtain ⟨pre2, hp2⟩ := List.dropWhile_suffix Sl.isBlank (l := r2)
    have := congrArg List.reverse hl
    rw [List.reverse_reverse, ← hp, hr, ← hp2] at this
    exact ⟨pre2.reverse ++ ([w] ++ (pre.reverse ++ [v])), by rw [this]; simp⟩
theorem declOf_size (n : List UInt8) (b : List Val) : Ne.size (Sl.declOf n b).l ≤ Ne.size b := by
  unfold Sl.declOf
  cases h : Sl.strong b with
  | none => exact Nat.le_refl _
  | some y =>
    obtain ⟨q, e⟩ := strong_pre h
    show Ne.size y ≤ _
    rw [e, size_app]
    omega
theorem trim_of_rev {l : List Val} (h : Sl.Fr l.reverse) : Sl.trim l = l.dropWhile Sl.isBlank := by
  obtain ⟨p, hp⟩ := List.dropWhile_suffix Sl.isBlank (l := l)
  have h2 := Sl.fr_suffix h hp.symm
  unfold Sl.trim
  rw [h2.drop, List.reverse_reverse]
abbrev dclCv (d : Dcl) : List CV := [.pv (.str d.name), .pv (.sl (encL d.l)), .pv (.bool d.imp)]
def ReadOut (o : Option Dcl) (r : Option Res) : Prop := match o with
  | some d => r = some (.ret (.tup [.agg (dclCv d), .c (.pv (.bool true))]) [])
  | none => r = some (.ret (.tup [.agg [.pv (.str []), .nils, .pv (.bool false)], .c (.pv (.bool false))]) []) ∨ ∃ d : Dcl, r = some (.ret (.tup [.agg (dclCv d), .c (.pv (.bool false))]) [])
set_option maxHeartbeats 8000000 in
theorem readD_den (l : List Val) (hs : Ne.size l ≤ 1000000) (ht : TxtOk l) : ReadOut (Sl.readD l) (den K 53 [L (encL l)] []) := by
  have hr : Tryz.f53.results = #[.cell 2 44, .tmp 3] := rfl
  have hll := Ne.length_size l
  have hT := TrimS_den l (by omega)
  have htl := Sl.trim_length l
  unfold Sl.readD
  cases e0 : Sl.trim l with
  | nil =>
    rw [e0] at hT
    have q0 : (((0 : Nat) : Int) == 0) = true := rfl
    refine .inl ?_
    refine den_run rfl rfl Tryz.func53 rfl Tryz.ntmps53 ⟨by simp, by simp [LK]⟩ ?_
    simp only [go_sem, Nat.reduceLT, reduceCtorEq, Nat.reduceEqDiff, Nat.reduceBEq, Nat.reduceAdd, Nat.reduceSub, Nat.reduceLeDiff, ty_shapeT_44, ty_zeroCells_44, good_104, ev_len_sl ty_descOf_22, ev_build ty_zeroCells_44 ty_placesOf_44, ty_szOf_44, hr, hT, encL_len, List.length_nil, q0]
  | cons v r =>
    rw [e0] at hT htl
    rw [List.length_cons] at htl
    obtain ⟨k, t, c⟩ := v
    have hm : ∀ w ∈ (.mk k t c :: r : List Val), w ∈ l := fun w hw => Sl.mem_trimR (by rw [e0]; exact hw)
    have hn0 : (((r.length + 1 : Nat) : Int) == 0) = false := by rw [beq_eq_false_iff_ne]; omega
    have hget := head_val k t c r
    have hd := namedD_den k t c
    simp only
    cases e1 : Sl.isNamed (.mk k t c)
    · rw [e1] at hd
      refine .inl ?_
      refine den_run rfl rfl Tryz.func53 rfl Tryz.ntmps53 ⟨by simp, by simp [LK]⟩ ?_
      simp only [go_sem, Nat.reduceLT, reduceCtorEq, Nat.reduceEqDiff, Nat.reduceBEq, Nat.reduceAdd, Nat.reduceSub, Nat.reduceLeDiff, ty_shapeT_44, ty_zeroCells_44, good_104, ev_len_sl ty_descOf_22, ev_indexAddr ty_descOf_22, ty_szOf_49, ty_shapeT_49, good_105, ev_build ty_zeroCells_44 ty_placesOf_44, ty_szOf_44, hr, hT, encL_len, List.length_cons, hn0, le00, hget, hd]
    rw [e1] at hd
    rw [if_pos rfl]
    have hp := proper_den t.text (ht (.mk k t c) (hm _ (by simp)) e1)
    have hcut := cut_head (.mk k t c) r (r.length + 1) rfl
    have hb1 : ((0 : Int) ≤ 1 ∧ (1 : Int) ≤ ((r.length + 1 : Nat) : Int)) = True := by rw [eq_iff_iff]; simp; omega
    have hlv := lens_valsK (.mk k t c :: r)
    have hT1 := TrimS_den r (by omega)
    have hfr : Sl.Fr r.reverse := Sl.fr_suffix (p := [.mk k t c]) (l := Sl.trim l) (Sl.fr_trim_rev l) e0
    have htr := trim_of_rev hfr
    have htl1 := Sl.trim_length r
    rw [← htr]
    cases e2 : Sl.trim r with
    | nil =>
      rw [e2] at hT1
      have q0 : (((0 : Nat) : Int) == 0) = true := rfl
      refine .inl ?_
      refine den_run rfl rfl Tryz.func53 rfl Tryz.ntmps53 ⟨by simp, by simp [LK]⟩ ?_
      simp only [go_sem, Nat.reduceLT, reduceCtorEq, Nat.reduceEqDiff, Nat.reduceBEq, Nat.reduceAdd, Nat.reduceSub, Nat.reduceLeDiff, ty_shapeT_44, ty_zeroCells_44, good_104, ev_len_sl ty_descOf_22, ev_indexAddr ty_descOf_22, ty_szOf_49, ty_shapeT_49, good_105, ev_build ty_zeroCells_44 ty_placesOf_44, ty_szOf_44, ty_fieldOff_49_1, ty_szOf_47, ty_fieldOff_47_1, ty_szOf_9, ty_shapeT_9, good_106, ev_slice_sl ty_descOf_22 ty_szOf_49, hr, hT, encL_len, List.length_cons, hn0, le00, hget, hd, hp, hcut, hb1, hlv, hT1, List.length_nil, q0]
    | cons w r2 =>
      rw [e2] at hT1 htl1
      rw [List.length_cons] at htl1
      obtain ⟨k2, t2, c2⟩ := w
      have hn2 : (((r2.length + 1 : Nat) : Int) == 0) = false := by rw [beq_eq_false_iff_ne]; omega
      have hget2 := head_val k2 t2 c2 r2
      have hsg := signD_den [58]
      have his := isD_den k2 t2 c2 [58]
      simp only
      cases e3 : Sl.isSign [58] (.mk k2 t2 c2)
      · rw [e3] at his
        refine .inl ?_
        refine den_run rfl rfl Tryz.func53 rfl Tryz.ntmps53 ⟨by simp, by simp [LK]⟩ ?_
        simp only [go_sem, Nat.reduceLT, reduceCtorEq, Nat.reduceEqDiff, Nat.reduceBEq, Nat.reduceAdd, Nat.reduceSub, Nat.reduceLeDiff, ty_shapeT_44, ty_zeroCells_44, good_104, ev_len_sl ty_descOf_22, ev_indexAddr ty_descOf_22, ty_szOf_49, ty_shapeT_49, good_105, ev_build ty_zeroCells_44 ty_placesOf_44, ty_szOf_44, ty_fieldOff_49_1, ty_szOf_47, ty_fieldOff_47_1, ty_szOf_9, ty_shapeT_9, good_106, ev_slice_sl ty_descOf_22 ty_szOf_49, good_57, good_107, hr, hT, encL_len, List.length_cons, hn0, le00, hget, hd, hp, hcut, hb1, hlv, hT1, hn2, hget2, hsg, his]
      rw [e3] at his
      rw [if_pos rfl]
      have hcut2 := cut_head (.mk k2 t2 c2) r2 (r2.length + 1) rfl
      have hb2 : ((0 : Int) ≤ 1 ∧ (1 : Int) ≤ ((r2.length + 1 : Nat) : Int)) = True := by rw [eq_iff_iff]; simp; omega
      have hlv2 := lens_valsK (.mk k2 t2 c2 :: r2)
      have hT2 := TrimS_den r2 (by omega)
      have htl2 := Sl.trim_length r2
      have hm2 : ∀ x ∈ Sl.trim r2, x ∈ l := fun x hx => hm x (by
        have h1 := Sl.mem_trimR hx
        have h2 : x ∈ Sl.trim r := by rw [e2]; simp [h1]
        simp [Sl.mem_trimR h2])
      have hst := strong_den (Sl.trim r2) (by omega) (ht.sub hm2)
      unfold strA at hst
      rw [Sl.strongP_eq (Sl.fr_trim r2)] at hst
      have z0 := size_trim l
      have z1 := size_trim r
      have z2 := size_trim r2
      rw [e0, Ne.size] at z0
      rw [e2, Ne.size] at z1
      have z3 := declOf_size t.text (Sl.trim r2)
      have hf := fits_den (Sl.declOf t.text (Sl.trim r2)).l (by omega)
      have e5 : Sl.nameT (.mk k t c) = t.text := rfl
      rw [e5]
      cases e4 : Sl.strong (Sl.trim r2) with
      | none =>
        have e6 : Sl.declOf t.text (Sl.trim r2) = ⟨Sl.proper t.text, Sl.trim r2, false⟩ := by unfold Sl.declOf; rw [e4]
        rw [e4] at hst
        rw [e6] at hf ⊢
        cases e7 : Sl.fits (Sl.trim r2)
        · rw [e7] at hf
          refine .inr ⟨⟨Sl.proper t.text, Sl.trim r2, false⟩, ?_⟩
          refine den_run rfl rfl Tryz.func53 rfl Tryz.ntmps53 ⟨by simp, by simp [LK]⟩ ?_
          simp only [go_sem, Nat.reduceLT, reduceCtorEq, Nat.reduceEqDiff, Nat.reduceBEq, Nat.reduceAdd, Nat.reduceSub, Nat.reduceLeDiff, ty_shapeT_44, ty_zeroCells_44, good_104, ev_len_sl ty_descOf_22, ev_indexAddr ty_descOf_22, ty_szOf_49, ty_shapeT_49, good_105, ev_build ty_zeroCells_44 ty_placesOf_44, ty_szOf_44, ty_fieldOff_49_1, ty_szOf_47, ty_fieldOff_47_1, ty_szOf_9, ty_shapeT_9, good_106, ev_slice_sl ty_descOf_22 ty_szOf_49, good_57, good_107, good_108, ty_fieldOff_44_1, ty_szOf_22, ty_fieldOff_44_2, ty_szOf_4, ty_shapeT_22, good_109, hr, hT, encL_len, List.length_cons, hn0, le00, hget, hd, hp, hcut, hb1, hlv, hT1, hn2, hget2, hsg, his, hcut2, hb2, hlv2, hT2, hst, hf, TV.flat]
        · rw [e7] at hf
          show den K 53 [L (encL l)] [] = some (.ret (.tup [.agg (dclCv ⟨Sl.proper t.text, Sl.trim r2, false⟩), .c (.pv (.bool true))]) [])
          refine den_run rfl rfl Tryz.func53 rfl Tryz.ntmps53 ⟨by simp, by simp [LK]⟩ ?_
          simp only [go_sem, Nat.reduceLT, reduceCtorEq, Nat.reduceEqDiff, Nat.reduceBEq, Nat.reduceAdd, Nat.reduceSub, Nat.reduceLeDiff, ty_shapeT_44, ty_zeroCells_44, good_104, ev_len_sl ty_descOf_22, ev_indexAddr ty_descOf_22, ty_szOf_49, ty_shapeT_49, good_105, ev_build ty_zeroCells_44 ty_placesOf_44, ty_szOf_44, ty_fieldOff_49_1, ty_szOf_47, ty_fieldOff_47_1, ty_szOf_9, ty_shapeT_9, good_106, ev_slice_sl ty_descOf_22 ty_szOf_49, good_57, good_107, good_108, ty_fieldOff_44_1, ty_szOf_22, ty_fieldOff_44_2, ty_szOf_4, ty_shapeT_22, good_109, hr, hT, encL_len, List.length_cons, hn0, le00, hget, hd, hp, hcut, hb1, hlv, hT1, hn2, hget2, hsg, his, hcut2, hb2, hlv2, hT2, hst, hf, TV.flat]
      | some y =>
        have e6 : Sl.declOf t.text (Sl.trim r2) = ⟨Sl.proper t.text, y, true⟩ := by unfold Sl.declOf; rw [e4]
        rw [e4] at hst
        rw [e6] at hf ⊢
        cases e7 : Sl.fits y
        · rw [e7] at hf
          refine .inr ⟨⟨Sl.proper t.text, y, true⟩, ?_⟩
          refine den_run rfl rfl Tryz.func53 rfl Tryz.ntmps53 ⟨by simp, by simp [LK]⟩ ?_
          simp only [go_sem, Nat.reduceLT, reduceCtorEq, Nat.reduceEqDiff, Nat.reduceBEq, Nat.reduceAdd, Nat.reduceSub, Nat.reduceLeDiff, ty_shapeT_44, ty_zeroCells_44, good_104, ev_len_sl ty_descOf_22, ev_indexAddr ty_descOf_22, ty_szOf_49, ty_shapeT_49, good_105, ev_build ty_zeroCells_44 ty_placesOf_44, ty_szOf_44, ty_fieldOff_49_1, ty_szOf_47, ty_fieldOff_47_1, ty_szOf_9, ty_shapeT_9, good_106, ev_slice_sl ty_descOf_22 ty_szOf_49, good_57, good_107, good_108, ty_fieldOff_44_1, ty_szOf_22, ty_fieldOff_44_2, ty_szOf_4, ty_shapeT_22, good_109, hr, hT, encL_len, List.length_cons, hn0, le00, hget, hd, hp, hcut, hb1, hlv, hT1, hn2, hget2, hsg, his, hcut2, hb2, hlv2, hT2, hst, hf, TV.flat]
        · rw [e7] at hf
          show den K 53 [L (encL l)] [] = some (.ret (.tup [.agg (dclCv ⟨Sl.proper t.text, y, true⟩), .c (.pv (.bool true))]) [])
          refine den_run rfl rfl Tryz.func53 rfl Tryz.ntmps53 ⟨by simp, by simp [LK]⟩ ?_
          simp only [go_sem, Nat.reduceLT, reduceCtorEq, Nat.reduceEqDiff, Nat.reduceBEq, Nat.reduceAdd, Nat.reduceSub, Nat.reduceLeDiff, ty_shapeT_44, ty_zeroCells_44, good_104, ev_len_sl ty_descOf_22, ev_indexAddr ty_descOf_22, ty_szOf_49, ty_shapeT_49, good_105, ev_build ty_zeroCells_44 ty_placesOf_44, ty_szOf_44, ty_fieldOff_49_1, ty_szOf_47, ty_fieldOff_47_1, ty_szOf_9, ty_shapeT_9, good_106, ev_slice_sl ty_descOf_22 ty_szOf_49, good_57, good_107, good_108, ty_fieldOff_44_1, ty_szOf_22, ty_fieldOff_44_2, ty_szOf_4, ty_shapeT_22, good_109, hr, hT, encL_len, List.length_cons, hn0, le00, hget, hd, hp, hcut, hb1, hlv, hT1, hn2, hget2, hsg, his, hcut2, hb2, hlv2, hT2, hst, hf, TV.flat]
abbrev dpH (ps : List (List Val)) (e : Nat) (out : List Dcl) (i : Nat) : St :=
  { sl := upd (upd (upd (upd bot 11 (I i)) 10 (I ps.length)) 9 (L (encP ps))) 3 (.c (.own e (encD out))), bx := nobox, nt := 27 }
noncomputable def dplp : Code := .loop (loopAt Tryz.f19 3)
theorem dp_step (ps : List (List Val)) (e : Nat) (out : List Dcl) (p : List Val) (i : Nat) (hi : ps[i]? = some p) (hl : ps.length ≤ 100000000) (ho : out.length ≤ i) (he : e = 44 ∨ out = []) (hs : Ne.size p ≤ 1000000) (ht : TxtOk p) :
    ∃ e', (e' = 44 ∨ out ++ (Sl.readD p).toList = []) ∧ exL K 19 dplp (dpH ps e out i) = exL K 19 dplp (dpH ps e' (out ++ (Sl.readD p).toList) (i + 1)) := by
  have hil : i < ps.length := (List.getElem?_eq_some_iff.1 hi).1
  have hlt : decide ((i : Int) < (ps.length : Int)) = true := decide_eq_true (by omega)
  have hget := part_at ps i p hi
  have hws : IntKind.i64.wrap ((i : Int) + 1) = ((i + 1 : Nat) : Int) := wrap_nat i (by omega)
  have hown : e = 44 ∨ (encD out).isEmpty = true := by
    rcases he with rfl | rfl
    · exact .inl rfl
    · exact .inr rfl
  have hlim : out.length + 1 < appLim := by unfold appLim; omega
  have hlv := lens_dcl out
  have hrd := readD_den p hs ht
  unfold dplp
  conv in loopAt _ _ => whnf
  conv in loopAt _ _ => whnf
  cases hq : Sl.readD p with
  | some d =>
    rw [hq] at hrd
    have hrd : den K 53 [L (encL p)] [] = some (.ret (.tup [.agg (dclCv d), .c (.pv (.bool true))]) []) := hrd
    refine ⟨44, .inl rfl, ?_⟩
    conv in exL _ _ _ (dpH ps e out i) => rw [exL_loop]
    simp only [go_sem, Nat.reduceLT, reduceCtorEq, Nat.reduceEqDiff, Nat.reduceBEq, Nat.reduceAdd, Nat.reduceMul, ev_indexAddr ty_descOf_41, ty_szOf_22, ty_shapeT_22, good_53, ty_zeroCells_44, ty_szOf_44, ty_shapeT_44, ev_buildSlice (len := 1) ty_descOf_23 ty_szOf_44 ty_zeroCells_44 ⟨rfl, by decide, by decide⟩, ev_append ty_appInfo_23, ev_appNew_sl ty_descOf_23, keep_19_3, hlt, hget, Int.natCast_nonneg, hws, hrd, hown, hlim, hlv, encD_len, snoc_dcl, lens_dcl1, Option.toList_some, TV.flat]
    rw [exL_head]
    simp only [go_sem, Nat.reduceEqDiff, keep_19_3]
  | none =>
    rw [hq] at hrd
    refine ⟨e, by simpa using he, ?_⟩
    rcases hrd with hrd | ⟨d, hrd⟩
    · conv in exL _ _ _ (dpH ps e out i) => rw [exL_loop]
      simp only [go_sem, Nat.reduceLT, reduceCtorEq, Nat.reduceEqDiff, Nat.reduceBEq, Nat.reduceAdd, Nat.reduceMul, ev_indexAddr ty_descOf_41, ty_szOf_22, ty_shapeT_22, good_53, ty_zeroCells_44, ty_szOf_44, ty_shapeT_44, ev_buildSlice (len := 1) ty_descOf_23 ty_szOf_44 ty_zeroCells_44 ⟨rfl, by decide, by decide⟩, ev_append ty_appInfo_23, ev_appNew_sl ty_descOf_23, keep_19_3, hlt, hget, Int.natCast_nonneg, hws, hrd, Option.toList_none, TV.flat]
      rw [exL_head]
      simp only [go_sem, Nat.reduceEqDiff, keep_19_3]
    · conv in exL _ _ _ (dpH ps e out i) => rw [exL_loop]
      simp only [go_sem, Nat.reduceLT, reduceCtorEq, Nat.reduceEqDiff, Nat.reduceBEq, Nat.reduceAdd, Nat.reduceMul, ev_indexAddr ty_descOf_41, ty_szOf_22, ty_shapeT_22, good_53, ty_zeroCells_44, ty_szOf_44, ty_shapeT_44, ev_buildSlice (len := 1) ty_descOf_23 ty_szOf_44 ty_zeroCells_44 ⟨rfl, by decide, by decide⟩, ev_append ty_appInfo_23, ev_appNew_sl ty_descOf_23, keep_19_3, hlt, hget, Int.natCast_nonneg, hws, hrd, Option.toList_none, TV.flat]
      rw [exL_head]
      simp only [go_sem, Nat.reduceEqDiff, keep_19_3]
theorem dp_loop (ps : List (List Val)) (hl : ps.length ≤ 100000000) (hs : ∀ p ∈ ps, Ne.size p ≤ 1000000 ∧ TxtOk p) : ∀ (rest : List (List Val)) (i e : Nat) (out : List Dcl), ps.drop i = rest → i ≤ ps.length → out.length ≤ i → (e = 44 ∨ out = []) →
    Ends (exL K 19 dplp (dpH ps e out i)) fun o S => o = .exit 0 ∧ S.nt = 27 ∧ ∃ f, S.sl 3 = .c (.own f (encD (out ++ rest.filterMap Sl.readD)))
  | [], i, e, out, hd, hi, ho, he => by
    have hin : i = ps.length := by
      have := List.drop_eq_nil_iff.1 hd
      omega
    subst hin
    have hlt : decide ((ps.length : Int) < (ps.length : Int)) = false := decide_eq_false (by omega)
    rw [List.filterMap_nil, List.append_nil]
    unfold dplp
    conv in loopAt _ _ => whnf
    rw [exL_loop]
    simp only [go_sem, Nat.reduceLT, Nat.reduceEqDiff, Nat.reduceBEq, keep_19_3, ends_some]
    exact ⟨e, rfl⟩
  | p :: rest, i, e, out, hd, hi, ho, he => by
    obtain ⟨g1, g2, g3⟩ := drop_cons hd
    obtain ⟨h1, h2⟩ := hs p (List.mem_of_getElem? g1)
    obtain ⟨e', he', hstep⟩ := dp_step ps e out p i g1 hl ho he h1 h2
    rw [hstep]
    have hol : (out ++ (Sl.readD p).toList).length ≤ i + 1 := by
      rw [List.length_append]
      cases Sl.readD p with
      | none => simp; omega
      | some d => simp; omega
    have := dp_loop ps hl hs rest (i + 1) e' _ g2 (by omega) hol he'
    refine ends_imp this fun o S q => ⟨q.1, q.2.1, ?_⟩
    obtain ⟨f, hf⟩ := q.2.2
    refine ⟨f, hf.trans ?_⟩
    rw [List.filterMap_cons, List.append_assoc]
    cases Sl.readD p with
    | none => rfl
    | some d => rfl
theorem ParseD_den (l : List Val) (hs : Ne.size l ≤ 1000000) (ht : TxtOk l) : den K 19 [L (encL l)] [] = some (.ret (L (encD (Sl.parseD l))) []) := by
  have ha := AtS_den l [59] (by omega)
  have hal := at_length [59] l
  have hls := Ne.length_size l
  have h := dp_loop (Sl.at_ [59] l) (by omega) (fun p hp => ⟨by have := at_sizes [59] l p hp; omega, ht.sub (Sl.at_free [59] l p hp).1⟩) (Sl.at_ [59] l) 0 0 [] rfl (Nat.zero_le _) (Nat.le_refl _) (.inr rfl)
  rw [List.nil_append] at h
  unfold dplp at h
  conv at h in loopAt _ _ => whnf
  obtain ⟨o, S, w, rfl, hn, f, s3⟩ := h
  have e0 : encD [] = [] := rfl
  have z0 : ((0 : Nat) : Int) = 0 := rfl
  simp only [dpH, e0, z0] at w
  refine den_run rfl rfl Tryz.func19 rfl Tryz.ntmps19 ⟨by simp, by simp [LK]⟩ ?_
  have hr : Tryz.f19.results = #[.tmp 2] := rfl
  simp only [go_sem, Nat.reduceLT, reduceCtorEq, Nat.reduceEqDiff, Nat.reduceBEq, Nat.reduceAdd, good_52, ev_len_sl ty_descOf_41, ha, encP_len]
  rw [exL_head]
  simp only [go_sem, Nat.reduceEqDiff, keep_19_3]
  erw [w]
  simp only [go_sem, Nat.reduceLT, Nat.reduceEqDiff, Nat.reduceBEq, Nat.reduceAdd, hr, hn, s3]
  rfl
end Go.Abs
namespace Go.Abs
open Go Go.Proofs
set_option maxRecDepth 10000
attribute [local go_sem] exL_seq exL_region exL_cond exL_block exL_scope exL_ret exL_skip exL_exit runRegion runOps stepOp guardA absOp takeOver opd avOf cvOf St.degAt St.put okPV okVal okAV absBin intBin strBin boolBin setBoxes if_true Bool.false_eq_true if_false Option.map_some Option.map_none Option.bind_some Option.bind_none thenO outOf upd List.toList_toArray isOwn steal appArgs mvB inApps AV.deg CV.deg AV.gv AV.isIter absNext some_bne some_beqN List.length_nil List.length_cons List.filterMap_cons List.filterMap_nil beq_iff_eq List.getElem?_cons_zero List.getElem?_cons_succ Option.getD_some K_hook hookB Bool.false_and Bool.and_false Bool.and_self K_P K_own absCall doCall getBoxes lend back idx dedup AV.ren CV.ren TV.ren AV.ptrs CV.ptrs zipBox AV.flat CV.flat absLoad absStore cellsOfAV setAt newBox markB bldTypes absFieldAddr absField absExtract absAssert noAssert absMkIface ifcOf CV.pv? content pushHead ownT fillCells reps pvs chunks enterSt leave resOf resVars resVar outBoxes lentOnly TV.deg TV.av LK CV.plain CV.noBld nilBin absUn bound List.map_cons List.map_nil List.all_cons List.all_nil List.any_cons List.any_nil List.contains_cons List.contains_nil List.elem_cons List.elem_nil List.cons_append List.nil_append List.append_nil List.flatMap_cons List.flatMap_nil List.zip_cons_cons List.zip_nil_left List.zip_nil_right List.take_succ_cons List.take_zero List.take_nil List.drop_succ_cons List.drop_zero List.drop_nil List.isEmpty_nil List.isEmpty_cons Bool.and_true Bool.true_and Bool.or_true Bool.true_or Bool.or_false Bool.false_or Bool.not_true Bool.not_false Nat.add_zero Nat.zero_add Option.isNone_none Option.isNone_some Option.getD_none true_and and_true not_true_eq_false not_false_eq_true decide_true decide_false Nat.le_refl and_self Bool.not_eq_true Nat.sub_self or_true true_or Option.some.injEq List.length_map List.nil_eq and_false false_and AV.live CV.live CV.liveIn K_keep firstReg Option.orElse_some Option.orElse_none head keepSlots keepBoxes Int.lt_irrefl List.length_append ite_self memOK logOps opKey lentBoxes Key.clash Key.sees Key.writes Nat.lt_irrefl gt_iff_lt nobox_at bot_at false_or or_false beq_self_eq_true Bool.true_beq Bool.false_beq
abbrev tokCv (t : Tok) : List CV := [.pv (.int .i64 t.kind), .pv (.str t.text), .pv (.int .i64 t.n)]
theorem tok_at (l : List Tok) (i : Nat) (t : Tok) (h : l[i]? = some t) : (l.map Tok.enc)[(i : Int).toNat]? = some [.int .i64 t.kind, .str t.text, .int .i64 t.n] := by
  simp [h, Tok.enc]
end Go.Abs
namespace Go.Abs
open Go Go.Proofs
set_option maxRecDepth 10000
attribute [local go_sem] exL_seq exL_region exL_cond exL_block exL_scope exL_ret exL_skip exL_exit runRegion runOps stepOp guardA absOp takeOver opd avOf cvOf St.degAt St.put okPV okVal okAV absBin intBin strBin boolBin setBoxes if_true Bool.false_eq_true if_false Option.map_some Option.map_none Option.bind_some Option.bind_none thenO outOf upd List.toList_toArray isOwn steal appArgs mvB inApps AV.deg CV.deg AV.gv AV.isIter absNext some_bne some_beqN List.length_nil List.length_cons List.filterMap_cons List.filterMap_nil beq_iff_eq List.getElem?_cons_zero List.getElem?_cons_succ Option.getD_some K_hook hookB Bool.false_and Bool.and_false Bool.and_self K_P K_own absCall doCall getBoxes lend back idx dedup AV.ren CV.ren TV.ren AV.ptrs CV.ptrs zipBox AV.flat CV.flat absLoad absStore cellsOfAV setAt newBox markB bldTypes absFieldAddr absField absExtract absAssert noAssert absMkIface ifcOf CV.pv? content pushHead ownT fillCells reps pvs chunks enterSt leave resOf resVars resVar outBoxes lentOnly TV.deg TV.av LK CV.plain CV.noBld nilBin absUn bound List.map_cons List.map_nil List.all_cons List.all_nil List.any_cons List.any_nil List.contains_cons List.contains_nil List.elem_cons List.elem_nil List.cons_append List.nil_append List.append_nil List.flatMap_cons List.flatMap_nil List.zip_cons_cons List.zip_nil_left List.zip_nil_right List.take_succ_cons List.take_zero List.take_nil List.drop_succ_cons List.drop_zero List.drop_nil List.isEmpty_nil List.isEmpty_cons Bool.and_true Bool.true_and Bool.or_true Bool.true_or Bool.or_false Bool.false_or Bool.not_true Bool.not_false Nat.add_zero Nat.zero_add Option.isNone_none Option.isNone_some Option.getD_none true_and and_true not_true_eq_false not_false_eq_true decide_true decide_false Nat.le_refl and_self Bool.not_eq_true Nat.sub_self or_true true_or Option.some.injEq List.length_map List.nil_eq and_false false_and AV.live CV.live CV.liveIn K_keep firstReg Option.orElse_some Option.orElse_none head keepSlots keepBoxes Int.lt_irrefl List.length_append ite_self memOK logOps opKey lentBoxes Key.clash Key.sees Key.writes Nat.lt_irrefl gt_iff_lt nobox_at bot_at false_or or_false beq_self_eq_true Bool.true_beq Bool.false_beq
def TS.live' : TS → TS
  | .nils => .live
  | x => x
theorem TS.live_toks (x : TS) : x.live'.toks = x.toks := by cases x <;> rfl
abbrev numH (s : List UInt8) (et : Nat) (ct : List (List PV)) (from_ e : Nat) (d : List UInt8) (n : Int) (i : Nat) : St :=
  { sl := upd (upd (upd (upd (upd bot 29 (.c (.iter d i))) 4 (I n)) 3 (I e)) 2 (I from_)) 0 P0, bx := upd nobox 100000 (some [.pv (.str s), .own et ct]), nt := 72 }
theorem min_law (v : Int) : (if (999999999 : Int) < v then (999999999 : Int) else v) = min v 999999999 := by
  split <;> omega
theorem num_loop (s : List UInt8) (et : Nat) (ct : List (List PV)) (from_ e : Nat) (d : List UInt8) (hd : ∀ b ∈ d, Tk.digit b = true) : ∀ (rest : List UInt8) (i : Nat) (n : Int), d.drop i = rest → i ≤ d.length → 0 ≤ n → n ≤ 999999999 →
    Ends (exL K 251 (.loop (loopAt Tryz.f251 6)) (numH s et ct from_ e d n i)) fun o S => o = .exit 0 ∧ S.sl 0 = P0 ∧ S.sl 2 = I from_ ∧ S.sl 3 = I e ∧ S.sl 4 = I (Tk.num n rest) ∧ S.nt = 72 ∧ S.bx = upd nobox 100000 (some [.pv (.str s), .own et ct]) := by
  intro rest
  induction rest with
  | nil =>
    intro i n hr hi h0 h1
    have hin : i = d.length := by
      have := List.drop_eq_nil_iff.1 hr
      omega
    subst hin
    have hlt : (d.length < d.length) = False := by simp
    conv in loopAt _ _ => whnf
    rw [exL_loop]
    simp only [go_sem, Nat.reduceLT, reduceCtorEq, Nat.reduceEqDiff, Nat.reduceBEq, Nat.reduceAdd, keep_251_6, ends_some, hlt, Tk.num]
  | cons c rest ih =>
    intro i n hr hi h0 h1
    obtain ⟨g1, g2, g3⟩ := drop_cons hr
    have hc : Tk.digit c = true := hd c (List.mem_of_getElem? g1)
    have hcn : 48 ≤ c.toNat ∧ c.toNat ≤ 57 := by simpa [Tk.digit] using hc
    obtain ⟨r, wd, hdec, hw1, hw2, hr2, hcase⟩ := decode_at d i g3
    have hrc : r = c.toNat ∧ wd = 1 := by
      rcases hcase with ⟨_, hw, b, hb, hbr⟩ | ⟨_, hall⟩
      · rw [g1] at hb; cases hb; exact ⟨hbr.symm, hw⟩
      · have := hall i c (Nat.le_refl _) (by omega) g1; omega
    obtain ⟨rfl, rfl⟩ := hrc
    have hit : iterNext d i = i + 1 := by unfold iterNext; rw [hdec]
    have hlt : (i < d.length) = True := eq_true g3
    have w1 : IntKind.i64.wrap (10 * n) = 10 * n := IntWalk.i64_in _ (by omega)
    have w2 : IntKind.i32.wrap ((c.toNat : Int) - 48) = (c.toNat : Int) - 48 := IntWalk.i32_in _ (by omega)
    have w3 : IntKind.i64.wrap ((c.toNat : Int) - 48) = (c.toNat : Int) - 48 := IntWalk.i64_in _ (by omega)
    have w4 : IntKind.i64.wrap (10 * n + ((c.toNat : Int) - 48)) = 10 * n + ((c.toNat : Int) - 48) := IntWalk.i64_in _ (by omega)
    have hv : Tk.num n (c :: rest) = Tk.num (min (10 * n + ((c.toNat : Int) - 48)) 999999999) rest := by rw [Tk.num, if_pos hc]
    rw [hv]
    have ih' := ih (i + 1) (min (10 * n + ((c.toNat : Int) - 48)) 999999999) g2 (by omega) (by omega) (by omega)
    conv at ih' in loopAt _ _ => whnf
    conv in loopAt _ _ => whnf
    rw [exL_loop]
    simp only [go_sem, Nat.reduceLT, reduceCtorEq, Nat.reduceEqDiff, Nat.reduceBEq, Nat.reduceAdd, ev_conv_int ty_descOf_21 ty_descOf_3, keep_251_6, hlt, hdec, hit, w1, w2, w3, w4, absMin, allInts, List.foldl_cons, List.foldl_nil, min_law]
    rw [exL_head]
    simp only [go_sem, reduceCtorEq, Nat.reduceEqDiff, keep_251_6]
    exact ih'
set_option maxHeartbeats 8000000 in
theorem number_den (s : List UInt8) (x : TS) (neg : Bool) (from_ : Nat) (l : List UInt8) (hf : from_ = if neg then 1 else 0) (hl : s.drop from_ = l) (hle : from_ ≤ s.length) (h45 : (Tk.at0 s == 45) = neg) (hs : s.length < 4000000000) (hx : x.toks.length < 4000000000) :
    den K 251 [P0] [scan s x] = some (.ret (.tup []) [scan (s.drop (from_ + (Tk.number neg l).2)) (.wr (x.toks ++ [(Tk.number neg l).1]))]) := by
  have d0 := at_den s 0 (by omega)
  rw [List.drop_zero] at d0
  have e45 : (((Tk.at0 s).toNat : Int) == 45) = neg := by rw [← h45]; exact u8_beq _ 45
  have hrun := run_den s (by omega) Tk.digit 250 good_250 rfl digit_den from_ hle
  rw [hl] at hrun
  have hrl := Tk.run_le (p := Tk.digit) l
  have hll : l.length = s.length - from_ := by rw [← hl, List.length_drop]
  have hnum := Tk.num_bound (l := l) (n := 0) (by omega) (by omega)
  have hdig := Tk.run_take (p := Tk.digit) l
  generalize hk : Tk.run Tk.digit l = k at hrun hrl hdig
  have hle2 : from_ + k ≤ s.length := by omega
  have hde : s.drop (from_ + k) = l.drop k := by rw [← List.drop_drop, hl]
  have dn := name_den s (by omega) (from_ + k) hle2
  have da := at_den s (from_ + k) (by omega)
  rw [hde] at dn da
  have hul := Tk.unit_le (l.drop k)
  rw [List.length_drop] at hul
  have e37 : (((Tk.at0 (l.drop k)).toNat : Int) == 37) = (Tk.at0 (l.drop k) == 37) := u8_beq _ 37
  have hnn : Tk.num 0 (l.take k) = Tk.num 0 l := by
    have : l = l.take k ++ l.drop k := (List.take_append_drop k l).symm
    conv => rhs; rw [this]
    rw [Tk.num_app hdig]
    exact (Tk.num_stop (n := Tk.num 0 (l.take k)) (by rw [← hk]; exact Tk.run_stop Tk.digit_zero l)).symm
  have hin := fun et ct => num_loop s et ct from_ (from_ + k) (l.take k) hdig (l.take k) 0 0 rfl (Nat.zero_le _) (by omega) (by omega)
  rw [hnn] at hin
  conv at hin in loopAt _ _ => whnf
  have hsub : (s.take (from_ + k)).drop from_ = l.take k := by rw [List.drop_take, hl]; congr 1; omega
  unfold Tk.number
  simp only [hk]
  rw [← Nat.add_assoc]
  generalize hu : Tk.unit (l.drop k) = u at hul
  have hput := fun v => put_den s x.live' (from_ + k + u) 5 ((l.drop k).take u) v (by omega) (by rw [TS.live_toks]; exact hx)
  rw [TS.live_toks] at hput
  have hsub2 : (s.take (from_ + k + u)).drop (from_ + k) = (l.drop k).take u := by rw [List.drop_take, hde]; congr 1; omega
  have b1 : ((0 : Int) ≤ ((from_ + k : Nat) : Int) ∧ ((from_ + k : Nat) : Int) ≤ (s.length : Int)) = True := eq_true (by omega)
  have b2 : ((0 : Int) ≤ (from_ : Int) ∧ (from_ : Int) ≤ ((from_ + k : Nat) : Int)) = True := eq_true (by omega)
  have b3 : ((0 : Int) ≤ ((from_ + k + u : Nat) : Int) ∧ ((from_ + k + u : Nat) : Int) ≤ (s.length : Int)) = True := eq_true (by omega)
  have b4 : ((0 : Int) ≤ ((from_ + k : Nat) : Int) ∧ ((from_ + k : Nat) : Int) ≤ ((from_ + k + u : Nat) : Int)) = True := eq_true (by omega)
  have w1 : IntKind.i64.wrap ((from_ : Int) + (k : Int)) = ((from_ + k : Nat) : Int) := by rw [IntWalk.i64_in _ (by omega)]; rfl
  have w2 : IntKind.i64.wrap (((from_ + k : Nat) : Int) + (u : Int)) = ((from_ + k + u : Nat) : Int) := by rw [IntWalk.i64_in _ (by omega)]; rfl
  have w3 : IntKind.i64.wrap (0 - Tk.num 0 l) = -Tk.num 0 l := by rw [IntWalk.i64_in _ (by omega)]; omega
  have t0 : Int.toNat 0 = 0 := rfl
  have t1 : Int.toNat 1 = 1 := rfl
  have z01 : ((0 : Int) = 1) = False := by simp
  have z0 : ((0 : Nat) : Int) = 0 := rfl
  have z1 : ((1 : Nat) : Int) = 1 := rfl
  have hu37 : (Tk.at0 (l.drop k) == 37) = false → Tk.name (l.drop k) = u := fun h => by
    rw [← hu, Tk.unit, if_neg (by simpa using h)]
  have hu1 : (Tk.at0 (l.drop k) == 37) = true → u = 1 := fun h => by
    rw [← hu, Tk.unit, if_pos (by simpa using h)]
  refine den_run rfl rfl Tryz.func251 rfl Tryz.ntmps251 ⟨by simp, by simp [LK]⟩ ?_
  have hr : Tryz.f251.results = #[] := rfl
  cases neg
  all_goals (
    simp only [Bool.false_eq_true, if_true, if_false] at hf
    subst hf
    simp only [z0, z1, Nat.zero_add] at d0 hrun w1 b1 b2 b3 b4 w2 hin hsub hsub2 hput dn da hu37 hu1 e45
    first | (rw [List.drop_zero] at hl; subst hl) | skip
    cases x)
  · obtain ⟨o, S', e, rfl, f0, f2, f3, f4, fn, fb⟩ := hin 0 []
    simp only [TS.cell, TS.live', TS.toks, scan, List.map_cons, List.map_nil, Tok.enc, List.nil_append] at hput ⊢
    simp only [go_sem, Nat.reduceLT, reduceCtorEq, Nat.reduceEqDiff, Nat.reduceBEq, Nat.reduceAdd, ty_fieldOff_219_0, ty_szOf_217, ty_shapeT_217, good_241, good_247, ev_slice_str ty_descOf_217, ev_range ty_descOf_217, d0, e45, hrun, w1, b1, b2, Int.toNat_natCast, hsub, t0]
    rw [exL_head]
    simp only [go_sem, reduceCtorEq, Nat.reduceEqDiff, keep_251_6]
    erw [e]
    cases h37 : (Tk.at0 (s.drop k) == 37)
    · rw [h37] at e37
      rw [hu37 h37] at dn
      simp only [go_sem, Nat.reduceLT, reduceCtorEq, Nat.reduceEqDiff, Nat.reduceBEq, Nat.reduceAdd, ty_fieldOff_219_0, ty_szOf_217, ty_shapeT_217, good_241, ev_slice_str ty_descOf_217, good_242, good_246, hr, z01, f0, f2, f3, f4, fn, fb, dn, da, e37, w2, w3, b3, b4, Int.toNat_natCast, hsub2, hput]
    · rw [h37] at e37
      rw [hu1 h37] at w2 b3 b4 hput hsub2 ⊢
      simp only [z1] at w2
      simp only [go_sem, Nat.reduceLT, reduceCtorEq, Nat.reduceEqDiff, Nat.reduceBEq, Nat.reduceAdd, ty_fieldOff_219_0, ty_szOf_217, ty_shapeT_217, good_241, ev_slice_str ty_descOf_217, good_242, good_246, hr, z01, f0, f2, f3, f4, fn, fb, dn, da, e37, w2, w3, b3, b4, Int.toNat_natCast, hsub2, hput]

  · obtain ⟨o, S', e, rfl, f0, f2, f3, f4, fn, fb⟩ := hin 0 []
    simp only [TS.cell, TS.live', TS.toks, scan, List.map_cons, List.map_nil, Tok.enc, List.nil_append] at hput ⊢
    simp only [go_sem, Nat.reduceLT, reduceCtorEq, Nat.reduceEqDiff, Nat.reduceBEq, Nat.reduceAdd, ty_fieldOff_219_0, ty_szOf_217, ty_shapeT_217, good_241, good_247, ev_slice_str ty_descOf_217, ev_range ty_descOf_217, d0, e45, hrun, w1, b1, b2, Int.toNat_natCast, hsub, t0]
    rw [exL_head]
    simp only [go_sem, reduceCtorEq, Nat.reduceEqDiff, keep_251_6]
    erw [e]
    cases h37 : (Tk.at0 (s.drop k) == 37)
    · rw [h37] at e37
      rw [hu37 h37] at dn
      simp only [go_sem, Nat.reduceLT, reduceCtorEq, Nat.reduceEqDiff, Nat.reduceBEq, Nat.reduceAdd, ty_fieldOff_219_0, ty_szOf_217, ty_shapeT_217, good_241, ev_slice_str ty_descOf_217, good_242, good_246, hr, z01, f0, f2, f3, f4, fn, fb, dn, da, e37, w2, w3, b3, b4, Int.toNat_natCast, hsub2, hput]
    · rw [h37] at e37
      rw [hu1 h37] at w2 b3 b4 hput hsub2 ⊢
      simp only [z1] at w2
      simp only [go_sem, Nat.reduceLT, reduceCtorEq, Nat.reduceEqDiff, Nat.reduceBEq, Nat.reduceAdd, ty_fieldOff_219_0, ty_szOf_217, ty_shapeT_217, good_241, ev_slice_str ty_descOf_217, good_242, good_246, hr, z01, f0, f2, f3, f4, fn, fb, dn, da, e37, w2, w3, b3, b4, Int.toNat_natCast, hsub2, hput]

  · rename_i lt
    obtain ⟨o, S', e, rfl, f0, f2, f3, f4, fn, fb⟩ := hin 47 (lt.map Tok.enc)
    simp only [TS.cell, TS.live', TS.toks, scan, List.map_append, List.map_cons, List.map_nil, Tok.enc] at hput ⊢
    simp only [go_sem, Nat.reduceLT, reduceCtorEq, Nat.reduceEqDiff, Nat.reduceBEq, Nat.reduceAdd, ty_fieldOff_219_0, ty_szOf_217, ty_shapeT_217, good_241, good_247, ev_slice_str ty_descOf_217, ev_range ty_descOf_217, d0, e45, hrun, w1, b1, b2, Int.toNat_natCast, hsub, t0]
    rw [exL_head]
    simp only [go_sem, reduceCtorEq, Nat.reduceEqDiff, keep_251_6]
    erw [e]
    cases h37 : (Tk.at0 (s.drop k) == 37)
    · rw [h37] at e37
      rw [hu37 h37] at dn
      simp only [go_sem, Nat.reduceLT, reduceCtorEq, Nat.reduceEqDiff, Nat.reduceBEq, Nat.reduceAdd, ty_fieldOff_219_0, ty_szOf_217, ty_shapeT_217, good_241, ev_slice_str ty_descOf_217, good_242, good_246, hr, z01, f0, f2, f3, f4, fn, fb, dn, da, e37, w2, w3, b3, b4, Int.toNat_natCast, hsub2, hput]
    · rw [h37] at e37
      rw [hu1 h37] at w2 b3 b4 hput hsub2 ⊢
      simp only [z1] at w2
      simp only [go_sem, Nat.reduceLT, reduceCtorEq, Nat.reduceEqDiff, Nat.reduceBEq, Nat.reduceAdd, ty_fieldOff_219_0, ty_szOf_217, ty_shapeT_217, good_241, ev_slice_str ty_descOf_217, good_242, good_246, hr, z01, f0, f2, f3, f4, fn, fb, dn, da, e37, w2, w3, b3, b4, Int.toNat_natCast, hsub2, hput]

  · obtain ⟨o, S', e, rfl, f0, f2, f3, f4, fn, fb⟩ := hin 0 []
    simp only [TS.cell, TS.live', TS.toks, scan, List.map_cons, List.map_nil, Tok.enc, List.nil_append] at hput ⊢
    simp only [go_sem, Nat.reduceLT, reduceCtorEq, Nat.reduceEqDiff, Nat.reduceBEq, Nat.reduceAdd, ty_fieldOff_219_0, ty_szOf_217, ty_shapeT_217, good_241, good_247, ev_slice_str ty_descOf_217, ev_range ty_descOf_217, d0, e45, hrun, w1, b1, b2, Int.toNat_natCast, hsub, t1]
    rw [exL_head]
    simp only [go_sem, reduceCtorEq, Nat.reduceEqDiff, keep_251_6]
    erw [e]
    cases h37 : (Tk.at0 (l.drop k) == 37)
    · rw [h37] at e37
      rw [hu37 h37] at dn
      simp only [go_sem, Nat.reduceLT, reduceCtorEq, Nat.reduceEqDiff, Nat.reduceBEq, Nat.reduceAdd, ty_fieldOff_219_0, ty_szOf_217, ty_shapeT_217, good_241, ev_slice_str ty_descOf_217, good_242, good_246, hr, f0, f2, f3, f4, fn, fb, dn, da, e37, w2, w3, b3, b4, Int.toNat_natCast, hsub2, hput]
    · rw [h37] at e37
      rw [hu1 h37] at w2 b3 b4 hput hsub2 ⊢
      simp only [z1] at w2
      simp only [go_sem, Nat.reduceLT, reduceCtorEq, Nat.reduceEqDiff, Nat.reduceBEq, Nat.reduceAdd, ty_fieldOff_219_0, ty_szOf_217, ty_shapeT_217, good_241, ev_slice_str ty_descOf_217, good_242, good_246, hr, f0, f2, f3, f4, fn, fb, dn, da, e37, w2, w3, b3, b4, Int.toNat_natCast, hsub2, hput]

  · obtain ⟨o, S', e, rfl, f0, f2, f3, f4, fn, fb⟩ := hin 0 []
    simp only [TS.cell, TS.live', TS.toks, scan, List.map_cons, List.map_nil, Tok.enc, List.nil_append] at hput ⊢
    simp only [go_sem, Nat.reduceLT, reduceCtorEq, Nat.reduceEqDiff, Nat.reduceBEq, Nat.reduceAdd, ty_fieldOff_219_0, ty_szOf_217, ty_shapeT_217, good_241, good_247, ev_slice_str ty_descOf_217, ev_range ty_descOf_217, d0, e45, hrun, w1, b1, b2, Int.toNat_natCast, hsub, t1]
    rw [exL_head]
    simp only [go_sem, reduceCtorEq, Nat.reduceEqDiff, keep_251_6]
    erw [e]
    cases h37 : (Tk.at0 (l.drop k) == 37)
    · rw [h37] at e37
      rw [hu37 h37] at dn
      simp only [go_sem, Nat.reduceLT, reduceCtorEq, Nat.reduceEqDiff, Nat.reduceBEq, Nat.reduceAdd, ty_fieldOff_219_0, ty_szOf_217, ty_shapeT_217, good_241, ev_slice_str ty_descOf_217, good_242, good_246, hr, f0, f2, f3, f4, fn, fb, dn, da, e37, w2, w3, b3, b4, Int.toNat_natCast, hsub2, hput]
    · rw [h37] at e37
      rw [hu1 h37] at w2 b3 b4 hput hsub2 ⊢
      simp only [z1] at w2
      simp only [go_sem, Nat.reduceLT, reduceCtorEq, Nat.reduceEqDiff, Nat.reduceBEq, Nat.reduceAdd, ty_fieldOff_219_0, ty_szOf_217, ty_shapeT_217, good_241, ev_slice_str ty_descOf_217, good_242, good_246, hr, f0, f2, f3, f4, fn, fb, dn, da, e37, w2, w3, b3, b4, Int.toNat_natCast, hsub2, hput]

  · rename_i lt
    obtain ⟨o, S', e, rfl, f0, f2, f3, f4, fn, fb⟩ := hin 47 (lt.map Tok.enc)
    simp only [TS.cell, TS.live', TS.toks, scan, List.map_append, List.map_cons, List.map_nil, Tok.enc] at hput ⊢
    simp only [go_sem, Nat.reduceLT, reduceCtorEq, Nat.reduceEqDiff, Nat.reduceBEq, Nat.reduceAdd, ty_fieldOff_219_0, ty_szOf_217, ty_shapeT_217, good_241, good_247, ev_slice_str ty_descOf_217, ev_range ty_descOf_217, d0, e45, hrun, w1, b1, b2, Int.toNat_natCast, hsub, t1]
    rw [exL_head]
    simp only [go_sem, reduceCtorEq, Nat.reduceEqDiff, keep_251_6]
    erw [e]
    cases h37 : (Tk.at0 (l.drop k) == 37)
    · rw [h37] at e37
      rw [hu37 h37] at dn
      simp only [go_sem, Nat.reduceLT, reduceCtorEq, Nat.reduceEqDiff, Nat.reduceBEq, Nat.reduceAdd, ty_fieldOff_219_0, ty_szOf_217, ty_shapeT_217, good_241, ev_slice_str ty_descOf_217, good_242, good_246, hr, f0, f2, f3, f4, fn, fb, dn, da, e37, w2, w3, b3, b4, Int.toNat_natCast, hsub2, hput]
    · rw [h37] at e37
      rw [hu1 h37] at w2 b3 b4 hput hsub2 ⊢
      simp only [z1] at w2
      simp only [go_sem, Nat.reduceLT, reduceCtorEq, Nat.reduceEqDiff, Nat.reduceBEq, Nat.reduceAdd, ty_fieldOff_219_0, ty_szOf_217, ty_shapeT_217, good_241, ev_slice_str ty_descOf_217, good_242, good_246, hr, f0, f2, f3, f4, fn, fb, dn, da, e37, w2, w3, b3, b4, Int.toNat_natCast, hsub2, hput]
end Go.Abs
namespace Go.Abs
open Go Go.Proofs
set_option maxRecDepth 10000
attribute [local go_sem] exL_seq exL_region exL_cond exL_block exL_scope exL_ret exL_skip exL_exit runRegion runOps stepOp guardA absOp takeOver opd avOf cvOf St.degAt St.put okPV okVal okAV absBin intBin strBin boolBin setBoxes if_true Bool.false_eq_true if_false Option.map_some Option.map_none Option.bind_some Option.bind_none thenO outOf upd List.toList_toArray isOwn steal appArgs mvB inApps AV.deg CV.deg AV.gv AV.isIter absNext some_bne some_beqN List.length_nil List.length_cons List.filterMap_cons List.filterMap_nil beq_iff_eq List.getElem?_cons_zero List.getElem?_cons_succ Option.getD_some K_hook hookB Bool.false_and Bool.and_false Bool.and_self K_P K_own absCall doCall getBoxes lend back idx dedup AV.ren CV.ren TV.ren AV.ptrs CV.ptrs zipBox AV.flat CV.flat absLoad absStore cellsOfAV setAt newBox markB bldTypes absFieldAddr absField absExtract absAssert noAssert absMkIface ifcOf CV.pv? content pushHead ownT fillCells reps pvs chunks enterSt leave resOf resVars resVar outBoxes lentOnly TV.deg TV.av LK CV.plain CV.noBld nilBin absUn bound List.map_cons List.map_nil List.all_cons List.all_nil List.any_cons List.any_nil List.contains_cons List.contains_nil List.elem_cons List.elem_nil List.cons_append List.nil_append List.append_nil List.flatMap_cons List.flatMap_nil List.zip_cons_cons List.zip_nil_left List.zip_nil_right List.take_succ_cons List.take_zero List.take_nil List.drop_succ_cons List.drop_zero List.drop_nil List.isEmpty_nil List.isEmpty_cons Bool.and_true Bool.true_and Bool.or_true Bool.true_or Bool.or_false Bool.false_or Bool.not_true Bool.not_false Nat.add_zero Nat.zero_add Option.isNone_none Option.isNone_some Option.getD_none true_and and_true not_true_eq_false not_false_eq_true decide_true decide_false Nat.le_refl and_self Bool.not_eq_true Nat.sub_self or_true true_or Option.some.injEq List.length_map List.nil_eq and_false false_and AV.live CV.live CV.liveIn K_keep firstReg Option.orElse_some Option.orElse_none head keepSlots keepBoxes Int.lt_irrefl List.length_append ite_self memOK logOps opKey lentBoxes Key.clash Key.sees Key.writes Nat.lt_irrefl gt_iff_lt nobox_at bot_at false_or or_false beq_self_eq_true Bool.true_beq Bool.false_beq
theorem prefix_eq (c : UInt8) (r : List UInt8) : Lib.hasPrefix (c :: r) [47, 42] = decide (c = 47 ∧ Tk.at0 r = 42) := by
  unfold Lib.hasPrefix
  cases r with
  | nil =>
    have : ¬ (c = 47 ∧ Tk.at0 [] = 42) := fun h => absurd h.2 (by decide)
    rw [decide_eq_false this]
    simp [List.isPrefixOf]
  | cons d l =>
    rw [Bool.eq_iff_iff, decide_eq_true_eq]
    simp only [List.isPrefixOf, Bool.and_true, Bool.and_eq_true, beq_iff_eq, Tk.at0]
    exact ⟨fun h => ⟨h.1.symm, h.2.symm⟩, fun h => ⟨h.1.symm, h.2.symm⟩⟩
theorem among (l : List UInt8) (c : UInt8) : decide (0 ≤ Lib.indexByte l c) = l.contains c := by
  rw [Lib.contains_iff_indexByte]
theorem blanks_eq (c : UInt8) : decide (0 ≤ Lib.indexByte [32, 10, 9, 12, 13] c) = Tk.blank c := by
  rw [among]
  unfold Tk.blank
  simp only [List.contains_cons, List.contains_nil, Bool.or_false, Bool.or_assoc]
theorem quotes_eq (c : UInt8) : decide (0 ≤ Lib.indexByte [34, 39] c) = decide (c = 34 ∨ c = 39) := by
  rw [among]
  simp only [List.contains_cons, List.contains_nil, Bool.or_false]
  by_cases h1 : c = 34
  · simp [h1]
  · by_cases h2 : c = 39 <;> simp [h1, h2]
theorem innerI_eq (c : UInt8) (r : List UInt8) : decide (0 ≤ innerI c r) = (Tk.inner c r).isSome := by
  unfold innerI
  cases Tk.inner c r with
  | none => rfl
  | some n => simp
theorem white_den (c : UInt8) : den K 245 [U c] [] = some (.ret (B (Tk.blank c)) []) := by
  have d := indexByte_den [32, 10, 9, 12, 13] c
  have e := blanks_eq c
  refine den_run rfl rfl Tryz.func245 rfl Tryz.ntmps245 ⟨by simp, by simp [LK]⟩ ?_
  have hr : Tryz.f245.results = #[.tmp 2] := rfl
  simp only [go_sem, Nat.reduceLT, reduceCtorEq, Nat.reduceEqDiff, Nat.reduceBEq, Nat.reduceAdd, good_244, hr, d, e]
def stepTS (x : TS) : Option Tok → TS
  | none => x
  | some t => .wr (x.toks ++ [t])
set_option maxHeartbeats 16000000 in
theorem next_den (s : List UInt8) (c : UInt8) (r : List UInt8) (x : TS) (et : Nat) (ct : List (List PV)) (hx : x.cell = .own et ct) (hsr : s = c :: r) (hs : s.length < 4000000000) (hxl : x.toks.length < 4000000000) :
    den K 214 [P0] [[.pv (.str s), .own et ct]] = some (.ret (.tup []) [scan (s.drop (Tk.step c r).2) (stepTS x (Tk.step c r).1)]) := by
  have hr : Tryz.f214.results = #[] := rfl
  have a0 := at_den s 0 (by omega)
  have a1 := at_den s 1 (by omega)
  have n0 := name_den s (by omega) 0 (by omega)
  have n1 := name_den s (by omega) 1 (by rw [hsr]; simp)
  have c0 : Tk.at0 (s.drop 0) = c := by rw [hsr]; rfl
  have cs : s.drop 0 = s := rfl
  have cr : s.drop 1 = r := by rw [hsr]; rfl
  rw [c0] at a0
  rw [cs] at n0
  rw [cr] at a1 n1
  have hpre := hasPrefix_den s [47, 42]
  rw [hsr, prefix_eq, ← hsr] at hpre
  have hbl := indexByte_den [32, 10, 9, 12, 13] c
  have ebl := blanks_eq c
  have hqu := indexByte_den [34, 39] c
  have equ := quotes_eq c
  have hin := inner_den s c r x hsr hs
  have ein := innerI_eq c r
  have hrw := run_den s (by omega) Tk.within 249 good_249 rfl within_den 1 (by rw [hsr]; simp)
  rw [cr] at hrw
  have e35 : ((c.toNat : Int) == 35) = (c == 35) := u8_beq c 35
  have e64 : ((c.toNat : Int) == 64) = (c == 64) := u8_beq c 64
  have e45 : ((c.toNat : Int) == 45) = (c == 45) := u8_beq c 45
  have hdc := digit_den c
  have hdr := digit_den (Tk.at0 r)
  have hput : ∀ n kind text v, n ≤ s.length → den K 246 [P0, I (n : Nat), I kind, T text, I v] [[.pv (.str s), .own et ct]] = some (.ret (.tup []) [scan (s.drop n) (.wr (x.toks ++ [⟨kind, text, v⟩]))]) := fun n kind text v h => by
    have := put_den s x n kind text v h hxl
    simp only [scan, hx] at this
    exact this
  simp only [scan, hx] at hin
  have z0 : ((0 : Nat) : Int) = 0 := rfl
  have z1 : ((1 : Nat) : Int) = 1 := rfl
  simp only [z0, z1] at a0 a1 n0 n1 hrw
  have hlen : s.length = r.length + 1 := by rw [hsr]; rfl
  by_cases h1 : c = 47 ∧ Tk.at0 r = 42
  · have e : Tk.step c r = (none, Tk.comment r.tail) := by unfold Tk.step; rw [if_pos h1]
    have h2 : 2 ≤ s.length := by
      cases r with
      | nil => exact absurd h1.2 (by decide)
      | cons d r => simp at hlen; omega
    have hcm := comment_den s x hs h2
    have cr2 : s.drop 2 = r.tail := by rw [hsr]; cases r <;> rfl
    rw [cr2] at hcm
    simp only [scan, hx] at hcm
    rw [decide_eq_true h1] at hpre
    rw [e]
    simp only [stepTS, scan, hx]
    refine den_run rfl rfl Tryz.func214 rfl Tryz.ntmps214 ⟨by simp, by simp [LK]⟩ ?_
    simp only [go_sem, Nat.reduceLT, reduceCtorEq, Nat.reduceEqDiff, Nat.reduceBEq, Nat.reduceAdd, ty_fieldOff_219_0, ty_szOf_217, ty_shapeT_217, good_241, good_242, good_67, good_243, good_244, hr, a0, n0, n1, hpre, hcm]
  rw [decide_eq_false h1] at hpre
  by_cases h2 : Tk.blank c = true
  · have e : Tk.step c r = (some ⟨8, [10], 0⟩, Tk.run Tk.blank s) := by unfold Tk.step; rw [if_neg h1, if_pos h2, hsr]
    have hrun := run_den s (by omega) Tk.blank 245 good_245 rfl white_den 0 (by omega)
    rw [cs, z0] at hrun
    have hp := hput (Tk.run Tk.blank s) 8 [10] 0 (Tk.run_le s)
    simp only [scan, TS.cell] at hp
    rw [h2] at ebl
    rw [e]
    simp only [stepTS, scan, TS.cell]
    refine den_run rfl rfl Tryz.func214 rfl Tryz.ntmps214 ⟨by simp, by simp [LK]⟩ ?_
    simp only [go_sem, Nat.reduceLT, reduceCtorEq, Nat.reduceEqDiff, Nat.reduceBEq, Nat.reduceAdd, ty_fieldOff_219_0, ty_szOf_217, ty_shapeT_217, good_241, good_242, good_67, good_243, good_244, good_247, good_246, good_248, hr, a0, n0, n1, hpre, hbl, ebl, hrun, hp]
  have h2' : Tk.blank c = false := by simpa using h2
  rw [h2'] at ebl
  have t0 : Int.toNat 0 = 0 := rfl
  have t1 : Int.toNat 1 = 1 := rfl
  have hs1 : (s.take 1).drop 0 = [c] := by rw [hsr]; rfl
  have hs1' : s.take 1 = [c] := by rw [hsr]; rfl
  have b1 : ((0 : Int) ≤ 1 ∧ (1 : Int) ≤ (s.length : Int)) = True := eq_true (by omega)
  have hp1 := hput 1 7 [c] 0 (by omega)
  simp only [scan, TS.cell, z1] at hp1
  have nz : ∀ d : UInt8, c = d → Tk.within d = false → Tk.name s = 0 := fun d h hw => by
    rw [Tk.name_zero]; rw [hsr]; exact Tk.nameB_head (c := d) (by rw [Tk.at0_cons]; exact h) hw
  by_cases h3 : (c = 34 ∨ c = 39) ∧ (Tk.inner c r).isSome = true
  · obtain ⟨n, hn⟩ := Option.isSome_iff_exists.1 h3.2
    have hnl := Tk.inner_le hn
    have e : Tk.step c r = (some ⟨6, r.take n, c.toNat⟩, n + 2) := by unfold Tk.step; rw [if_neg h1, if_neg h2, if_pos h3, hn]; rfl
    rw [decide_eq_true h3.1] at equ
    unfold innerI at hin ein
    rw [hn] at hin ein
    simp only [Option.isSome_some] at hin ein
    have hsl : (s.take (1 + n)).drop 1 = r.take n := by rw [List.drop_take, cr]; congr 1; omega
    have b2 : ((0 : Int) ≤ ((1 + n : Nat) : Int) ∧ ((1 + n : Nat) : Int) ≤ (s.length : Int)) = True := eq_true (by omega)
    have b3 : ((0 : Int) ≤ 1 ∧ (1 : Int) ≤ ((1 + n : Nat) : Int)) = True := eq_true (by omega)
    have w1 : IntKind.i64.wrap ((n : Int) + 2) = ((n + 2 : Nat) : Int) := by rw [IntWalk.i64_in _ (by omega)]; rfl
    have w2 : IntKind.i64.wrap (1 + (n : Int)) = ((1 + n : Nat) : Int) := by rw [IntWalk.i64_in _ (by omega)]; omega
    have w3 : IntKind.i64.wrap (c.toNat : Int) = (c.toNat : Int) := IntWalk.i64_in _ (by have := c.toNat_lt; omega)
    have hp := hput (n + 2) 6 (r.take n) c.toNat (by omega)
    simp only [scan, TS.cell] at hp
    rw [e]
    simp only [stepTS, scan, TS.cell]
    refine den_run rfl rfl Tryz.func214 rfl Tryz.ntmps214 ⟨by simp, by simp [LK]⟩ ?_
    simp only [go_sem, Nat.reduceLT, reduceCtorEq, Nat.reduceEqDiff, Nat.reduceBEq, Nat.reduceAdd, ty_fieldOff_219_0, ty_szOf_217, ty_shapeT_217, good_241, good_242, good_67, good_243, good_244, good_247, good_246, good_248, ev_slice_str ty_descOf_217, ev_conv_int ty_descOf_5 ty_descOf_3, hr, t1, Int.toNat_natCast, a0, n0, n1, hpre, hbl, ebl, hqu, equ, hin, ein, b2, b3, w1, w2, w3, hsl, hp]
  by_cases q : c = 34 ∨ c = 39
  · have hi : (Tk.inner c r).isSome = false := by cases hh : (Tk.inner c r).isSome; rfl; exact absurd ⟨q, hh⟩ h3
    rw [hi] at ein
    rw [decide_eq_true q] at equ
    have k35 : (c == 35) = false := by rcases q with rfl | rfl <;> decide
    have k64 : (c == 64) = false := by rcases q with rfl | rfl <;> decide
    have k45 : (c == 45) = false := by rcases q with rfl | rfl <;> decide
    have kd : Tk.digit c = false := by rcases q with rfl | rfl <;> decide
    have kn : Tk.name s = 0 := nz c rfl (by rcases q with rfl | rfl <;> decide)
    have e : Tk.step c r = (some ⟨7, [c], 0⟩, 1) := by
      unfold Tk.step
      rw [if_neg h1, if_neg h2, if_neg h3, if_neg (fun x => by simp [x.1] at k35), if_neg (fun x => by simp [x.1] at k64), if_neg (by simp [kd]), if_neg (fun x => by simp [x.1] at k45), ← hsr, if_neg (by omega)]
    rw [k35] at e35
    rw [k64] at e64
    rw [k45] at e45
    rw [kd] at hdc
    rw [kn, z0] at n0
    rw [e]
    simp only [stepTS, scan, TS.cell]
    refine den_run rfl rfl Tryz.func214 rfl Tryz.ntmps214 ⟨by simp, by simp [LK]⟩ ?_
    simp only [go_sem, Nat.reduceLT, reduceCtorEq, Nat.reduceEqDiff, Nat.reduceBEq, Nat.reduceAdd, ty_fieldOff_219_0, ty_szOf_217, ty_shapeT_217, good_241, good_242, good_67, good_243, good_244, good_247, good_246, good_248, ev_slice_str ty_descOf_217, ev_conv_int ty_descOf_5 ty_descOf_3, good_250, good_251, hr, Int.le_refl, t0, t1, a0, n0, n1, hpre, hbl, ebl, hqu, equ, hin, ein, e35, e64, e45, hdc, hs1, b1, hp1]

  rw [decide_eq_false q] at equ
  have hrl := Tk.run_le (p := Tk.within) r
  by_cases h4 : c = 35
  · have k64 : (c == 64) = false := by rw [h4]; decide
    have k45 : (c == 45) = false := by rw [h4]; decide
    have k35 : (c == 35) = true := by rw [h4]; decide
    have kd : Tk.digit c = false := by rw [h4]; decide
    have kn : Tk.name s = 0 := nz 35 h4 (by decide)
    rw [k35] at e35
    rw [k64] at e64
    rw [k45] at e45
    rw [kd] at hdc
    by_cases hpos : 0 < Tk.run Tk.within r
    · have e : Tk.step c r = (some ⟨4, r.take (Tk.run Tk.within r), 0⟩, Tk.run Tk.within r + 1) := by unfold Tk.step; rw [if_neg h1, if_neg h2, if_neg h3, if_pos ⟨h4, hpos⟩]
      rw [e]
      have hsl : (s.take (1 + Tk.run Tk.within r)).drop 1 = r.take (Tk.run Tk.within r) := by rw [List.drop_take, cr]; congr 1; omega
      have hp := hput (1 + Tk.run Tk.within r) 4 (r.take (Tk.run Tk.within r)) 0 (by omega)
      rw [Nat.add_comm (Tk.run Tk.within r) 1]
      generalize Tk.run Tk.within r = n at hrw hrl hpos hp hsl
      have b2 : ((0 : Int) ≤ ((1 + n : Nat) : Int) ∧ ((1 + n : Nat) : Int) ≤ (s.length : Int)) = True := eq_true (by omega)
      have b3 : ((0 : Int) ≤ 1 ∧ (1 : Int) ≤ ((1 + n : Nat) : Int)) = True := eq_true (by omega)
      have w2 : IntKind.i64.wrap (1 + (n : Int)) = ((1 + n : Nat) : Int) := by rw [IntWalk.i64_in _ (by omega)]; omega
      have hg : decide ((0 : Int) < (n : Int)) = true := decide_eq_true (by omega)
      simp only [scan, TS.cell] at hp
      simp only [stepTS, scan, TS.cell]
      refine den_run rfl rfl Tryz.func214 rfl Tryz.ntmps214 ⟨by simp, by simp [LK]⟩ ?_
      simp only [go_sem, Nat.reduceLT, reduceCtorEq, Nat.reduceEqDiff, Nat.reduceBEq, Nat.reduceAdd, ty_fieldOff_219_0, ty_szOf_217, ty_shapeT_217, good_241, good_242, good_67, good_243, good_244, good_247, good_246, good_248, ev_slice_str ty_descOf_217, hr, t1, Int.toNat_natCast, a0, n0, n1, hpre, hbl, ebl, hqu, equ, e35, hrw, hg, b2, b3, w2, hsl, hp]
    · have e : Tk.step c r = (some ⟨7, [c], 0⟩, 1) := by
        unfold Tk.step
        rw [if_neg h1, if_neg h2, if_neg h3, if_neg (fun x => hpos x.2), if_neg (fun x => by simp [x.1] at k64), if_neg (by simp [kd]), if_neg (fun x => by simp [x.1] at k45), ← hsr, if_neg (by omega)]
      have hr0 : Tk.run Tk.within r = 0 := by omega
      rw [hr0, z0] at hrw
      rw [kn, z0] at n0
      rw [e]
      simp only [stepTS, scan, TS.cell]
      refine den_run rfl rfl Tryz.func214 rfl Tryz.ntmps214 ⟨by simp, by simp [LK]⟩ ?_
      simp only [go_sem, Nat.reduceLT, reduceCtorEq, Nat.reduceEqDiff, Nat.reduceBEq, Nat.reduceAdd, ty_fieldOff_219_0, ty_szOf_217, ty_shapeT_217, good_241, good_242, good_67, good_243, good_244, good_247, good_246, good_248, ev_slice_str ty_descOf_217, good_250, good_251, hr, Int.le_refl, t0, t1, a0, n0, n1, hpre, hbl, ebl, hqu, equ, e35, hrw, e64, e45, hdc, Int.lt_irrefl, hs1, b1, hp1]

  have k35 : (c == 35) = false := by simpa using h4
  rw [k35] at e35
  have hnl := Tk.name_le r
  by_cases h5 : c = 64
  · have k45 : (c == 45) = false := by rw [h5]; decide
    have k64 : (c == 64) = true := by rw [h5]; decide
    have kd : Tk.digit c = false := by rw [h5]; decide
    have kn : Tk.name s = 0 := nz 64 h5 (by decide)
    rw [k64] at e64
    rw [k45] at e45
    rw [kd] at hdc
    by_cases hpos : 0 < Tk.name r
    · have e : Tk.step c r = (some ⟨3, r.take (Tk.name r), 0⟩, Tk.name r + 1) := by unfold Tk.step; rw [if_neg h1, if_neg h2, if_neg h3, if_neg (fun x => h4 x.1), if_pos ⟨h5, hpos⟩]
      rw [e]
      have hsl : (s.take (1 + Tk.name r)).drop 1 = r.take (Tk.name r) := by rw [List.drop_take, cr]; congr 1; omega
      have hp := hput (1 + Tk.name r) 3 (r.take (Tk.name r)) 0 (by omega)
      rw [Nat.add_comm (Tk.name r) 1]
      generalize Tk.name r = n at n1 hnl hpos hp hsl
      have b2 : ((0 : Int) ≤ ((1 + n : Nat) : Int) ∧ ((1 + n : Nat) : Int) ≤ (s.length : Int)) = True := eq_true (by omega)
      have b3 : ((0 : Int) ≤ 1 ∧ (1 : Int) ≤ ((1 + n : Nat) : Int)) = True := eq_true (by omega)
      have w2 : IntKind.i64.wrap (1 + (n : Int)) = ((1 + n : Nat) : Int) := by rw [IntWalk.i64_in _ (by omega)]; omega
      have hg : decide ((0 : Int) < (n : Int)) = true := decide_eq_true (by omega)
      simp only [scan, TS.cell] at hp
      simp only [stepTS, scan, TS.cell]
      refine den_run rfl rfl Tryz.func214 rfl Tryz.ntmps214 ⟨by simp, by simp [LK]⟩ ?_
      simp only [go_sem, Nat.reduceLT, reduceCtorEq, Nat.reduceEqDiff, Nat.reduceBEq, Nat.reduceAdd, ty_fieldOff_219_0, ty_szOf_217, ty_shapeT_217, good_241, good_242, good_67, good_243, good_244, good_247, good_246, good_248, ev_slice_str ty_descOf_217, good_250, hr, t1, Int.toNat_natCast, a0, n0, n1, hpre, hbl, ebl, hqu, equ, e35, e64, hg, b2, b3, w2, hsl, hp]
    · have e : Tk.step c r = (some ⟨7, [c], 0⟩, 1) := by
        unfold Tk.step
        rw [if_neg h1, if_neg h2, if_neg h3, if_neg (fun x => h4 x.1), if_neg (fun x => hpos x.2), if_neg (by simp [kd]), if_neg (fun x => by simp [x.1] at k45), ← hsr, if_neg (by omega)]
      have hr0 : Tk.name r = 0 := by omega
      rw [hr0, z0] at n1
      rw [kn, z0] at n0
      rw [e]
      simp only [stepTS, scan, TS.cell]
      refine den_run rfl rfl Tryz.func214 rfl Tryz.ntmps214 ⟨by simp, by simp [LK]⟩ ?_
      simp only [go_sem, Nat.reduceLT, reduceCtorEq, Nat.reduceEqDiff, Nat.reduceBEq, Nat.reduceAdd, ty_fieldOff_219_0, ty_szOf_217, ty_shapeT_217, good_241, good_242, good_67, good_243, good_244, good_247, good_246, good_248, ev_slice_str ty_descOf_217, good_250, good_251, hr, Int.le_refl, t0, t1, a0, n0, n1, hpre, hbl, ebl, hqu, equ, e35, e64, e45, hdc, Int.lt_irrefl, hs1, b1, hp1]

  have k64 : (c == 64) = false := by simpa using h5
  rw [k64] at e64
  by_cases h6 : Tk.digit c = true
  · have e : Tk.step c r = (some (Tk.number false (c :: r)).1, (Tk.number false (c :: r)).2) := Tk.step_number h6
    have k45 : (Tk.at0 s == 45) = false := by rw [hsr, Tk.at0_cons]; simpa using Tk.digit_ne h6 (d := 45) (by decide)
    have hnm := number_den s x false 0 s rfl cs (by omega) k45 hs hxl
    rw [Nat.zero_add] at hnm
    rw [h6] at hdc
    rw [e, ← hsr]
    simp only [scan, hx] at hnm
    simp only [stepTS, scan, TS.cell] at hnm ⊢
    refine den_run rfl rfl Tryz.func214 rfl Tryz.ntmps214 ⟨by simp, by simp [LK]⟩ ?_
    simp only [go_sem, Nat.reduceLT, reduceCtorEq, Nat.reduceEqDiff, Nat.reduceBEq, Nat.reduceAdd, ty_fieldOff_219_0, ty_szOf_217, ty_shapeT_217, good_241, good_242, good_67, good_243, good_244, good_247, good_246, good_248, ev_slice_str ty_descOf_217, good_250, good_251, hr, t1, a0, n0, n1, hpre, hbl, ebl, hqu, equ, e35, e64, hdc, hnm]
  have kd : Tk.digit c = false := by simpa using h6
  rw [kd] at hdc
  by_cases h7 : c = 45 ∧ Tk.digit (Tk.at0 r) = true
  · have e : Tk.step c r = (some (Tk.number true r).1, (Tk.number true r).2 + 1) := by rw [h7.1]; exact Tk.step_minus h7.2
    have k45 : (Tk.at0 s == 45) = true := by rw [hsr, Tk.at0_cons, h7.1]; rfl
    have hnm := number_den s x true 1 r rfl cr (by omega) k45 hs hxl
    have k45' : (c == 45) = true := by rw [h7.1]; rfl
    rw [k45'] at e45
    rw [h7.2] at hdr
    rw [e, Nat.add_comm _ 1]
    simp only [scan, hx] at hnm
    simp only [stepTS, scan, TS.cell] at hnm ⊢
    refine den_run rfl rfl Tryz.func214 rfl Tryz.ntmps214 ⟨by simp, by simp [LK]⟩ ?_
    simp only [go_sem, Nat.reduceLT, reduceCtorEq, Nat.reduceEqDiff, Nat.reduceBEq, Nat.reduceAdd, ty_fieldOff_219_0, ty_szOf_217, ty_shapeT_217, good_241, good_242, good_67, good_243, good_244, good_247, good_246, good_248, ev_slice_str ty_descOf_217, good_250, good_251, hr, t1, a0, n0, n1, hpre, hbl, ebl, hqu, equ, e35, e64, hdc, e45, a1, hdr, hnm]
  have e0 : Tk.step c r = if 0 < Tk.name s then if Tk.at0 (s.drop (Tk.name s)) = 40 then (some ⟨2, s.take (Tk.name s), 0⟩, Tk.name s + 1) else (some ⟨1, s.take (Tk.name s), 0⟩, Tk.name s) else (some ⟨7, [c], 0⟩, 1) := by
    unfold Tk.step
    rw [if_neg h1, if_neg h2, if_neg h3, if_neg (fun x => h4 x.1), if_neg (fun x => h5 x.1), if_neg h6, if_neg h7, ← hsr]
  have hnle := Tk.name_le s
  have an := at_den s (Tk.name s) (by omega)
  have e40 : (((Tk.at0 (s.drop (Tk.name s))).toNat : Int) == 40) = (Tk.at0 (s.drop (Tk.name s)) == 40) := u8_beq _ 40
  by_cases hpos : 0 < Tk.name s
  · rw [if_pos hpos] at e0
    have hg : decide ((0 : Int) < ((Tk.name s : Nat) : Int)) = true := decide_eq_true (by omega)
    have hsl : (s.take (Tk.name s)).drop 0 = s.take (Tk.name s) := rfl
    have b2 : ((0 : Int) ≤ ((Tk.name s : Nat) : Int) ∧ ((Tk.name s : Nat) : Int) ≤ (s.length : Int)) = True := eq_true (by omega)
    by_cases h40 : Tk.at0 (s.drop (Tk.name s)) = 40
    · have k40 : (Tk.at0 (s.drop (Tk.name s)) == 40) = true := by simpa using h40
      have hlt : Tk.name s ≠ s.length := fun x => by rw [x, List.drop_length] at h40; exact absurd h40 (by decide)
      rw [if_pos h40] at e0
      have hp := hput (Tk.name s + 1) 2 (s.take (Tk.name s)) 0 (by omega)
      rw [k40] at e40
      rw [e0]
      generalize Tk.name s = n at n0 an e40 hg b2 hp hnle hlt
      have w1 : IntKind.i64.wrap ((n : Int) + 1) = ((n + 1 : Nat) : Int) := wrap_nat n (by omega)
      simp only [scan, TS.cell] at hp
      simp only [stepTS, scan, TS.cell]
      cases k45 : (c == 45)
      · rw [k45] at e45
        refine den_run rfl rfl Tryz.func214 rfl Tryz.ntmps214 ⟨by simp, by simp [LK]⟩ ?_
        simp only [go_sem, Nat.reduceLT, reduceCtorEq, Nat.reduceEqDiff, Nat.reduceBEq, Nat.reduceAdd, ty_fieldOff_219_0, ty_szOf_217, ty_shapeT_217, good_241, good_242, good_67, good_243, good_244, good_247, good_246, good_248, ev_slice_str ty_descOf_217, good_250, good_251, hr, t1, Int.toNat_natCast, a0, n0, n1, hpre, hbl, ebl, hqu, equ, e35, e64, hdc, e45, hg, an, e40, b2, w1, hp]
      · rw [k45] at e45
        have kr : Tk.digit (Tk.at0 r) = false := by
          cases hh : Tk.digit (Tk.at0 r)
          · rfl
          · exact absurd ⟨by simpa using k45, hh⟩ h7
        rw [kr] at hdr
        refine den_run rfl rfl Tryz.func214 rfl Tryz.ntmps214 ⟨by simp, by simp [LK]⟩ ?_
        simp only [go_sem, Nat.reduceLT, reduceCtorEq, Nat.reduceEqDiff, Nat.reduceBEq, Nat.reduceAdd, ty_fieldOff_219_0, ty_szOf_217, ty_shapeT_217, good_241, good_242, good_67, good_243, good_244, good_247, good_246, good_248, ev_slice_str ty_descOf_217, good_250, good_251, hr, t1, Int.toNat_natCast, a0, n0, n1, hpre, hbl, ebl, hqu, equ, e35, e64, hdc, e45, a1, hdr, hg, an, e40, b2, w1, hp]
    · have k40 : (Tk.at0 (s.drop (Tk.name s)) == 40) = false := by simpa using h40
      rw [if_neg h40] at e0
      have hp := hput (Tk.name s) 1 (s.take (Tk.name s)) 0 (by omega)
      rw [k40] at e40
      rw [e0]
      generalize Tk.name s = n at n0 an e40 hg b2 hp hnle
      simp only [scan, TS.cell] at hp
      simp only [stepTS, scan, TS.cell]
      cases k45 : (c == 45)
      · rw [k45] at e45
        refine den_run rfl rfl Tryz.func214 rfl Tryz.ntmps214 ⟨by simp, by simp [LK]⟩ ?_
        simp only [go_sem, Nat.reduceLT, reduceCtorEq, Nat.reduceEqDiff, Nat.reduceBEq, Nat.reduceAdd, ty_fieldOff_219_0, ty_szOf_217, ty_shapeT_217, good_241, good_242, good_67, good_243, good_244, good_247, good_246, good_248, ev_slice_str ty_descOf_217, good_250, good_251, hr, t1, Int.toNat_natCast, a0, n0, n1, hpre, hbl, ebl, hqu, equ, e35, e64, hdc, e45, hg, an, e40, b2, hp]
      · rw [k45] at e45
        have kr : Tk.digit (Tk.at0 r) = false := by
          cases hh : Tk.digit (Tk.at0 r)
          · rfl
          · exact absurd ⟨by simpa using k45, hh⟩ h7
        rw [kr] at hdr
        refine den_run rfl rfl Tryz.func214 rfl Tryz.ntmps214 ⟨by simp, by simp [LK]⟩ ?_
        simp only [go_sem, Nat.reduceLT, reduceCtorEq, Nat.reduceEqDiff, Nat.reduceBEq, Nat.reduceAdd, ty_fieldOff_219_0, ty_szOf_217, ty_shapeT_217, good_241, good_242, good_67, good_243, good_244, good_247, good_246, good_248, ev_slice_str ty_descOf_217, good_250, good_251, hr, t1, Int.toNat_natCast, a0, n0, n1, hpre, hbl, ebl, hqu, equ, e35, e64, hdc, e45, a1, hdr, hg, an, e40, b2, hp]
  · rw [if_neg hpos] at e0
    have hr0 : Tk.name s = 0 := by omega
    rw [hr0, z0] at n0
    rw [e0]
    simp only [stepTS, scan, TS.cell]
    cases k45 : (c == 45)
    · rw [k45] at e45
      refine den_run rfl rfl Tryz.func214 rfl Tryz.ntmps214 ⟨by simp, by simp [LK]⟩ ?_
      simp only [go_sem, Nat.reduceLT, reduceCtorEq, Nat.reduceEqDiff, Nat.reduceBEq, Nat.reduceAdd, ty_fieldOff_219_0, ty_szOf_217, ty_shapeT_217, good_241, good_242, good_67, good_243, good_244, good_247, good_246, good_248, ev_slice_str ty_descOf_217, good_250, good_251, hr, Int.le_refl, t0, t1, a0, n0, n1, hpre, hbl, ebl, hqu, equ, e35, e64, hdc, e45, hs1, b1, hp1]
    · rw [k45] at e45
      have kr : Tk.digit (Tk.at0 r) = false := by
        cases hh : Tk.digit (Tk.at0 r)
        · rfl
        · exact absurd ⟨by simpa using k45, hh⟩ h7
      rw [kr] at hdr
      refine den_run rfl rfl Tryz.func214 rfl Tryz.ntmps214 ⟨by simp, by simp [LK]⟩ ?_
      simp only [go_sem, Nat.reduceLT, reduceCtorEq, Nat.reduceEqDiff, Nat.reduceBEq, Nat.reduceAdd, ty_fieldOff_219_0, ty_szOf_217, ty_shapeT_217, good_241, good_242, good_67, good_243, good_244, good_247, good_246, good_248, ev_slice_str ty_descOf_217, good_250, good_251, hr, Int.le_refl, t0, t1, a0, n0, n1, hpre, hbl, ebl, hqu, equ, e35, e64, hdc, e45, a1, hdr, hs1, b1, hp1]
end Go.Abs
namespace Go.Abs
open Go Go.Proofs
set_option maxRecDepth 10000
theorem step_own {x : TS} {et : Nat} {ct : List (List PV)} (hx : x.cell = .own et ct) (o : Option Tok) : ∃ et' ct', (stepTS x o).cell = .own et' ct' ∧ (stepTS x o).toks = x.toks ++ o.toList := by
  cases o with
  | none => exact ⟨et, ct, hx, by simp [stepTS]⟩
  | some t => exact ⟨_, _, rfl, rfl⟩
theorem own_toks {x : TS} {et : Nat} {ct : List (List PV)} (hx : x.cell = .own et ct) : ct = x.toks.map Tok.enc := by
  cases x with
  | nils => cases hx
  | live => cases hx; rfl
  | wr l => cases hx; rfl
abbrev allH (s : List UInt8) (et : Nat) (ct : List (List PV)) : St := { sl := upd bot 3 (.c (.loc 6 0)), bx := upd nobox 6 (some [.pv (.str s), .own et ct]), nt := 19 }
theorem all_loop : ∀ (s : List UInt8), s.length < 4000000000 → ∀ (x : TS) (et : Nat) (ct : List (List PV)), x.cell = .own et ct → x.toks.length + s.length < 4000000000 →
    Ends (exL K 156 (.loop (loopAt Tryz.f156 2)) (allH s et ct)) fun o S => o = .exit 0 ∧ S.nt = 19 ∧ S.sl 3 = .c (.loc 6 0) ∧ ∃ et', S.bx 6 = some [.pv (.str []), .own et' ((x.toks ++ Tk.all s).map Tok.enc)] := by
  refine Tk.all_ind (Q := fun s => s.length < 4000000000 → ∀ (x : TS) (et : Nat) (ct : List (List PV)), x.cell = .own et ct → x.toks.length + s.length < 4000000000 →
    Ends (exL K 156 (.loop (loopAt Tryz.f156 2)) (allH s et ct)) fun o S => o = .exit 0 ∧ S.nt = 19 ∧ S.sl 3 = .c (.loc 6 0) ∧ ∃ et', S.bx 6 = some [.pv (.str []), .own et' ((x.toks ++ Tk.all s).map Tok.enc)]) ?_ ?_
  · intro _ x et ct hx _
    have hct := own_toks hx
    have hlt : decide ((0 : Int) < ((0 : Nat) : Int)) = false := by decide
    rw [Tk.all_nil, List.append_nil, ← hct]
    conv in loopAt _ _ => whnf
    rw [exL_loop]
    simp only [exL_seq, exL_region, exL_cond, exL_skip, exL_exit, runRegion, runOps, stepOp, guardA, absOp, takeOver, opd, avOf, cvOf, St.degAt, St.put, okPV, okVal, okAV, absBin, intBin, setBoxes, if_true, Bool.false_eq_true, if_false, Option.map_some, Option.bind_some, thenO, upd, isOwn, steal, appArgs, mvB, inApps, AV.deg, CV.deg, AV.isIter, Nat.reduceLT, Nat.reduceEqDiff, List.length_nil, List.length_cons, List.filterMap_cons, List.filterMap_nil, List.getElem?_cons_zero, Option.getD_some, K_hook, hookB, Nat.reduceBEq, Bool.and_self, K_P, absCall, absLoad, setAt, absFieldAddr, CV.plain, List.map_cons, List.map_nil, List.all_cons, List.all_nil, List.any_cons, List.any_nil, List.contains_cons, List.contains_nil, List.cons_append, List.nil_append, List.take_zero, List.drop_succ_cons, List.drop_zero, Bool.and_true, Bool.or_true, Bool.true_or, Bool.or_false, Bool.not_true, Bool.not_false, Nat.reduceAdd, Nat.add_zero, Nat.zero_add, true_and, decide_false, Option.some.injEq, AV.live, CV.live, K_keep, firstReg, Option.orElse_some, Option.orElse_none, head, keepSlots, keepBoxes, ite_self, memOK, logOps, opKey, Key.clash, Key.sees, Key.writes, Nat.lt_irrefl, nobox_at, bot_at, beq_self_eq_true, ty_fieldOff_219_0, ty_szOf_217, ty_shapeT_217, ev_len_str ty_descOf_217, keep_156_2, ends_some, hlt]
    exact ⟨_, rfl⟩
  · intro c r ih hs x et ct hx hl
    have hp := Tk.step_pos c r
    have hle := Tk.step_le c r
    have hn := next_den (c :: r) c r x et ct hx rfl hs (by omega)
    obtain ⟨et2, ct2, h2, h3⟩ := step_own hx (Tk.step c r).1
    have ho : ((Tk.step c r).1.toList).length ≤ 1 := by cases (Tk.step c r).1 <;> simp
    have ih' := ih (by rw [List.length_drop]; omega) (stepTS x (Tk.step c r).1) et2 ct2 h2 (by rw [h3, List.length_append, List.length_drop]; omega)
    rw [h3, List.append_assoc, ← Tk.all_cons] at ih'
    have hlt : decide ((0 : Int) < ((c :: r).length : Int)) = true := decide_eq_true (by simp only [List.length_cons]; omega)
    simp only [scan, h2] at hn
    generalize c :: r = s at hn ih' hlt
    conv at ih' in loopAt _ _ => whnf
    conv in loopAt _ _ => whnf
    rw [exL_loop]
    simp only [exL_seq, exL_region, exL_cond, exL_block, exL_skip, exL_exit, runRegion, runOps, stepOp, guardA, absOp, takeOver, opd, avOf, cvOf, St.degAt, St.put, okPV, okVal, okAV, absBin, intBin, setBoxes, if_true, Bool.false_eq_true, if_false, Option.map_some, Option.map_none, Option.bind_some, thenO, outOf, upd, isOwn, steal, appArgs, mvB, inApps, AV.deg, CV.deg, AV.isIter, Nat.reduceLT, Nat.reduceEqDiff, List.length_nil, List.length_cons, List.filterMap_cons, List.filterMap_nil, List.getElem?_cons_zero, Option.getD_some, K_hook, hookB, Nat.reduceBEq, Bool.and_false, Bool.and_self, K_P, K_own, absCall, doCall, getBoxes, lend, idx, dedup, AV.ren, CV.ren, AV.ptrs, CV.ptrs, zipBox, AV.flat, CV.flat, absLoad, setAt, absFieldAddr, LK, CV.plain, List.map_cons, List.map_nil, List.all_cons, List.all_nil, List.any_cons, List.any_nil, List.contains_cons, List.contains_nil, List.cons_append, List.nil_append, List.append_nil, List.flatMap_cons, List.flatMap_nil, List.zip_cons_cons, List.zip_nil_right, List.take_zero, List.drop_succ_cons, List.drop_zero, List.isEmpty_nil, Bool.and_true, Bool.or_true, Bool.true_or, Bool.or_false, Bool.not_true, Bool.not_false, Nat.reduceAdd, Nat.add_zero, Nat.zero_add, decide_false, AV.live, CV.live, K_keep, firstReg, Option.orElse_some, Option.orElse_none, head, keepSlots, keepBoxes, ite_self, memOK, logOps, opKey, lentBoxes, Key.clash, Key.sees, Key.writes, Nat.lt_irrefl, nobox_at, bot_at, beq_self_eq_true, ty_fieldOff_219_0, ty_szOf_217, ty_shapeT_217, ev_len_str ty_descOf_217, good_214, keep_156_2, hlt, hn]
    rw [exL_head]
    simp only [if_true, if_false, Option.map_some, upd, Nat.reduceEqDiff, Option.getD_some, List.map_cons, List.map_nil, List.contains_cons, List.contains_nil, Bool.or_false, AV.live, CV.live, firstReg, Option.orElse_some, Option.orElse_none, head, keepSlots, keepBoxes, ite_self, nobox_at, bot_at, beq_self_eq_true, keep_156_2]
    exact ih'
theorem All_den (s : List UInt8) (hs : s.length < 4000000000) : den K 156 [T s] [] = some (.ret (L ((Tk.all s).map Tok.enc)) []) := by
  refine den_run rfl rfl Tryz.func156 rfl Tryz.ntmps156 ⟨by simp, by simp [LK]⟩ ?_
  have hr : Tryz.f156.results = #[.tmp 2] := rfl
  have hl := all_loop s hs .live 0 [] rfl (by simp [TS.toks]; omega)
  conv at hl in loopAt _ _ => whnf
  obtain ⟨o, S', e2, rfl, hn, h3, et', hb⟩ := hl
  simp only [TS.toks, List.nil_append] at hb
  simp only [exL_seq, exL_region, exL_block, runRegion, runOps, stepOp, guardA, absOp, takeOver, opd, avOf, cvOf, St.degAt, St.put, okAV, setBoxes, if_true, Bool.false_eq_true, if_false, Option.map_some, Option.bind_some, thenO, upd, isOwn, steal, appArgs, mvB, inApps, AV.deg, CV.deg, AV.isIter, some_beqN, Nat.reduceLT, reduceCtorEq, Nat.reduceEqDiff, List.length_nil, List.length_cons, List.filterMap_cons, List.filterMap_nil, List.getElem?_cons_zero, List.getElem?_cons_succ, Option.getD_some, K_hook, hookB, Nat.reduceBEq, Bool.and_self, K_P, K_own, AV.ren, CV.ren, cellsOfAV, setAt, newBox, fillCells, enterSt, leave, resOf, outBoxes, lentOnly, TV.deg, TV.av, LK, CV.plain, CV.noBld, List.map_cons, List.map_nil, List.all_cons, List.all_nil, List.any_cons, List.any_nil, List.contains_nil, List.cons_append, List.nil_append, List.take_zero, List.drop_succ_cons, List.drop_zero, Bool.and_true, Bool.or_true, Bool.true_or, Bool.or_false, Bool.not_true, Bool.not_false, Nat.reduceAdd, Nat.reduceSub, Nat.reduceLeDiff, Nat.zero_add, Option.isNone_none, decide_false, and_self, Option.some.injEq, ite_self, memOK, logOps, opKey, Key.clash, Key.sees, Key.writes, Nat.lt_irrefl, beq_self_eq_true, ev_build ty_zeroCells_219 ty_placesOf_219]
  rw [exL_head]
  simp only [if_true, if_false, Option.map_some, upd, Nat.reduceEqDiff, List.getElem?_cons_succ, Option.getD_some, List.map_cons, List.map_nil, List.contains_cons, List.contains_nil, Bool.or_false, Nat.reduceSub, Nat.reduceLeDiff, AV.live, CV.live, firstReg, Option.orElse_some, Option.orElse_none, head, keepSlots, keepBoxes, beq_self_eq_true, keep_156_2]
  erw [e2]
  simp only [exL_seq, exL_region, exL_ret, runRegion, runOps, stepOp, guardA, absOp, takeOver, opd, St.degAt, St.put, okVal, okAV, setBoxes, if_true, Bool.false_eq_true, if_false, Option.map_some, Option.bind_some, thenO, outOf, upd, List.toList_toArray, isOwn, steal, appArgs, mvB, inApps, AV.deg, CV.deg, AV.gv, AV.isIter, Nat.reduceLT, Nat.reduceEqDiff, List.length_nil, List.length_cons, List.filterMap_cons, List.filterMap_nil, List.getElem?_cons_zero, List.getElem?_cons_succ, K_hook, hookB, Nat.reduceBEq, Bool.and_self, K_P, absLoad, setAt, absFieldAddr, resVars, resVar, CV.plain, List.all_cons, List.all_nil, List.any_cons, List.any_nil, List.contains_cons, List.contains_nil, List.cons_append, List.nil_append, List.append_nil, List.take_succ_cons, List.take_zero, List.drop_succ_cons, List.drop_nil, Bool.and_true, Bool.or_true, Bool.true_or, Bool.or_false, Bool.not_true, Bool.not_false, Nat.reduceAdd, Nat.zero_add, decide_false, List.toList_toArray, Option.some.injEq, ite_self, memOK, logOps, opKey, Key.clash, Key.sees, Key.writes, Nat.lt_irrefl, beq_self_eq_true, ty_fieldOff_219_1, ty_szOf_90, ty_shapeT_90, hr, hn, h3, hb]
end Go.Abs
namespace Go.Abs
open Go Go.Proofs
set_option maxRecDepth 10000
attribute [local go_sem] exL_seq exL_region exL_cond exL_block exL_scope exL_ret exL_skip exL_exit runRegion runOps stepOp guardA absOp takeOver opd avOf cvOf St.degAt St.put okPV okVal okAV absBin intBin strBin boolBin setBoxes if_true Bool.false_eq_true if_false Option.map_some Option.map_none Option.bind_some Option.bind_none thenO outOf upd List.toList_toArray isOwn steal appArgs mvB inApps AV.deg CV.deg AV.gv AV.isIter absNext some_bne some_beqN List.length_nil List.length_cons List.filterMap_cons List.filterMap_nil beq_iff_eq List.getElem?_cons_zero List.getElem?_cons_succ Option.getD_some K_hook hookB Bool.false_and Bool.and_false Bool.and_self K_P K_own absCall doCall getBoxes lend back idx dedup AV.ren CV.ren TV.ren AV.ptrs CV.ptrs zipBox AV.flat CV.flat absLoad absStore cellsOfAV setAt newBox markB bldTypes absFieldAddr absField absExtract absAssert noAssert absMkIface ifcOf CV.pv? content pushHead ownT fillCells reps pvs chunks enterSt leave resOf resVars resVar outBoxes lentOnly TV.deg TV.av LK CV.plain CV.noBld nilBin absUn bound List.map_cons List.map_nil List.all_cons List.all_nil List.any_cons List.any_nil List.contains_cons List.contains_nil List.elem_cons List.elem_nil List.cons_append List.nil_append List.append_nil List.flatMap_cons List.flatMap_nil List.zip_cons_cons List.zip_nil_left List.zip_nil_right List.take_succ_cons List.take_zero List.take_nil List.drop_succ_cons List.drop_zero List.drop_nil List.isEmpty_nil List.isEmpty_cons Bool.and_true Bool.true_and Bool.or_true Bool.true_or Bool.or_false Bool.false_or Bool.not_true Bool.not_false Nat.add_zero Nat.zero_add Option.isNone_none Option.isNone_some Option.getD_none true_and and_true not_true_eq_false not_false_eq_true decide_true decide_false Nat.le_refl and_self Bool.not_eq_true Nat.sub_self or_true true_or Option.some.injEq List.length_map List.nil_eq and_false false_and AV.live CV.live CV.liveIn K_keep firstReg Option.orElse_some Option.orElse_none head keepSlots keepBoxes Int.lt_irrefl List.length_append ite_self memOK logOps opKey lentBoxes Key.clash Key.sees Key.writes Nat.lt_irrefl gt_iff_lt nobox_at bot_at false_or or_false beq_self_eq_true Bool.true_beq Bool.false_beq
abbrev theseH (a b : List Tok) (i : Nat) : St := { sl := upd (upd (upd (upd bot 17 (I i)) 16 (I b.length)) 15 (L (b.map Tok.enc))) 5 (L (a.map Tok.enc)), bx := nobox, nt := 29 }
theorem these_loop (a b : List Tok) (hab : a.length = b.length) (ha : lenOk a.length) : ∀ (ra rb : List Tok) (i : Nat), a.drop i = ra → b.drop i = rb → i ≤ a.length →
    Ends (exL K 174 (.loop (loopAt Tryz.f174 5)) (theseH a b i)) fun o S => (ra = rb ∧ o = .exit 0 ∧ S.nt = 29) ∨ (ra ≠ rb ∧ o = .ret ∧ S.sl 4 = B false) := by
  intro ra
  induction ra with
  | nil =>
    intro rb i hda hdb hi
    have hin : i = b.length := by
      have := List.drop_eq_nil_iff.1 hda
      omega
    obtain rfl : rb = [] := by rw [← hdb, hin, List.drop_length]
    subst hin
    conv in loopAt _ _ => whnf
    rw [exL_loop]
    simp only [go_sem, Nat.reduceLT, reduceCtorEq, Nat.reduceEqDiff, Nat.reduceBEq, keep_174_5, ends_some]
  | cons x ra ih =>
    intro rb i hda hdb hi
    obtain ⟨g1, g2, g3⟩ := drop_cons hda
    cases rb with
    | nil =>
      have := List.drop_eq_nil_iff.1 hdb
      omega
    | cons y rb =>
      obtain ⟨k1, k2, k3⟩ := drop_cons hdb
      have hlt : decide ((i : Int) < (b.length : Int)) = true := decide_eq_true (by omega)
      have ga := enc_at a i x g1
      have gb := enc_at b i y k1
      have hi2 : i < 9223372036854775807 := by unfold lenOk at ha; omega
      have heq := tok_eq x.kind y.kind x.n y.n x.text y.text
      rw [tok_beq] at heq
      have ih' := ih rb (i + 1) g2 k2 (by omega)
      conv at ih' in loopAt _ _ => whnf
      conv in loopAt _ _ => whnf
      rw [exL_loop]
      by_cases hxy : x = y
      · rw [decide_eq_true hxy] at heq
        have hv : (x :: ra = y :: rb) = (ra = rb) := by simp [hxy]
        have hv2 : (x :: ra ≠ y :: rb) = (ra ≠ rb) := by simp [hxy]
        rw [hv, hv2]
        simp only [go_sem, Nat.reduceLT, Nat.reduceEqDiff, Nat.reduceBEq, Nat.reduceAdd, ev_indexAddr ty_descOf_90, ty_szOf_47, ty_shapeT_47, ty_zeroCells_47, keep_174_5, hlt, ga, gb, heq, Int.natCast_nonneg, wrap_nat i hi2]
        rw [exL_head]
        simp only [go_sem, Nat.reduceEqDiff, keep_174_5]
        exact ih'
      · rw [decide_eq_false hxy] at heq
        have hv : (x :: ra = y :: rb) = False := by simp [hxy]
        have hv2 : (x :: ra ≠ y :: rb) = True := by simp [hxy]
        rw [hv, hv2]
        simp only [go_sem, Nat.reduceLT, Nat.reduceEqDiff, Nat.reduceBEq, Nat.reduceAdd, ev_indexAddr ty_descOf_90, ty_szOf_47, ty_shapeT_47, ty_zeroCells_47, keep_174_5, hlt, ga, gb, heq, Int.natCast_nonneg, ends_some]
theorem these_den (s : List UInt8) (b : List Tok) (hs : s.length < 4000000000) (hb : lenOk b.length) : den K 174 [T s, L (b.map Tok.enc)] [] = some (.ret (B (decide (Tk.all s = b))) []) := by
  have hall := All_den s hs
  have hlen : (Tk.all s).length ≤ s.length := Tk.all_len s
  generalize Tk.all s = a at hall hlen
  refine den_run rfl rfl Tryz.func174 rfl Tryz.ntmps174 ⟨by simp, by simp [LK]⟩ ?_
  have hr : Tryz.f174.results = #[.tmp 4] := rfl
  by_cases hab : a.length = b.length
  · have e : ((a.length : Int) != (b.length : Int)) = false := by rw [hab]; simp
    have hl := these_loop a b hab (by unfold lenOk; omega) a b 0 rfl rfl (by omega)
    conv at hl in loopAt _ _ => whnf
    obtain ⟨o, S', e2, h⟩ := hl
    simp only [go_sem, Nat.reduceLT, reduceCtorEq, Nat.reduceEqDiff, Nat.reduceBEq, Nat.reduceAdd, good_156, ev_len_sl ty_descOf_90, hall, e]
    rw [exL_head]
    simp only [go_sem, Nat.reduceEqDiff, keep_174_5]
    erw [e2]
    rcases h with ⟨h1, rfl, h2⟩ | ⟨h1, rfl, h2⟩
    · rw [decide_eq_true h1]
      simp only [go_sem, Nat.reduceLT, Nat.reduceBEq, hr, h2]
    · rw [decide_eq_false h1]
      simp only [go_sem, hr, h2]
  · have e : ((a.length : Int) != (b.length : Int)) = true := by rw [bne_iff_ne]; omega
    have hne : a ≠ b := fun h => hab (by rw [h])
    rw [decide_eq_false hne]
    simp only [go_sem, Nat.reduceLT, reduceCtorEq, Nat.reduceEqDiff, Nat.reduceBEq, Nat.reduceAdd, good_156, ev_len_sl ty_descOf_90, hr, hall, e]
theorem one_len (t : Tok) (hn : I64 t.n) : (oneS t).length ≤ t.text.length + 21 := by
  have h := itoa_len hn
  unfold oneS
  repeat' split
  all_goals simp
  all_goals omega
theorem May_den (t : Tok) (hn : I64 t.n) (hl : t.text.length < 1000000000) : den K 113 [.agg t.cells] [] = some (.ret (B (Tk.may t)) []) := by
  have h1 := One_den t hn (by omega)
  have h2 := these_den (oneS t) [t] (by have := one_len t hn; omega) (by simp [lenOk])
  unfold Tk.may
  simp only [List.map_cons, List.map_nil, Tok.enc, Tok.cells] at h1 h2
  simp only [Tok.cells]
  refine den_run rfl rfl Tryz.func113 rfl Tryz.ntmps113 ⟨by simp, by simp [LK]⟩ ?_
  have hr : Tryz.f113.results = #[.tmp 2] := rfl
  simp only [go_sem, Nat.reduceLT, Nat.reduceEqDiff, Nat.reduceBEq, Nat.reduceAdd, Nat.reduceSub, Nat.reduceLeDiff, Nat.reduceMul, ty_shapeT_47, good_175, ev_buildSlice (len := 1) ty_descOf_90 ty_szOf_47 ty_zeroCells_47 ⟨rfl, by decide, by decide⟩, good_174, hr, h1, h2]
end Go.Abs
namespace Go.Abs
open Go Go.Proofs
set_option maxRecDepth 10000
attribute [local go_sem] exL_seq exL_region exL_cond exL_block exL_scope exL_ret exL_skip exL_exit runRegion runOps stepOp guardA absOp takeOver opd avOf cvOf St.degAt St.put okPV okVal okAV absBin intBin strBin boolBin setBoxes if_true Bool.false_eq_true if_false Option.map_some Option.map_none Option.bind_some Option.bind_none thenO outOf upd List.toList_toArray isOwn steal appArgs mvB inApps AV.deg CV.deg AV.gv AV.isIter absNext some_bne some_beqN List.length_nil List.length_cons List.filterMap_cons List.filterMap_nil beq_iff_eq List.getElem?_cons_zero List.getElem?_cons_succ Option.getD_some K_hook hookB Bool.false_and Bool.and_false Bool.and_self K_P K_own absCall doCall getBoxes lend back idx dedup AV.ren CV.ren TV.ren AV.ptrs CV.ptrs zipBox AV.flat CV.flat absLoad absStore cellsOfAV setAt newBox markB bldTypes absFieldAddr absField absExtract absAssert noAssert absMkIface ifcOf CV.pv? content pushHead ownT fillCells reps pvs chunks enterSt leave resOf resVars resVar outBoxes lentOnly TV.deg TV.av LK CV.plain CV.noBld nilBin absUn bound List.map_cons List.map_nil List.all_cons List.all_nil List.any_cons List.any_nil List.contains_cons List.contains_nil List.elem_cons List.elem_nil List.cons_append List.nil_append List.append_nil List.flatMap_cons List.flatMap_nil List.zip_cons_cons List.zip_nil_left List.zip_nil_right List.take_succ_cons List.take_zero List.take_nil List.drop_succ_cons List.drop_zero List.drop_nil List.isEmpty_nil List.isEmpty_cons Bool.and_true Bool.true_and Bool.or_true Bool.true_or Bool.or_false Bool.false_or Bool.not_true Bool.not_false Nat.add_zero Nat.zero_add Option.isNone_none Option.isNone_some Option.getD_none true_and and_true not_true_eq_false not_false_eq_true decide_true decide_false Nat.le_refl and_self Bool.not_eq_true Nat.sub_self or_true true_or Option.some.injEq List.length_map List.nil_eq and_false false_and AV.live CV.live CV.liveIn K_keep firstReg Option.orElse_some Option.orElse_none head keepSlots keepBoxes Int.lt_irrefl List.length_append ite_self memOK logOps opKey lentBoxes Key.clash Key.sees Key.writes Nat.lt_irrefl gt_iff_lt nobox_at bot_at false_or or_false beq_self_eq_true Bool.true_beq Bool.false_beq
def classI (c : UInt8) : Int := if Tk.begins c then 1 else if Tk.digit c then 2 else if c == 45 then 3 else if Tk.blank c then 4 else 0
def isI (v : Int) : Option Res → Bool
  | some (.ret (.c (.pv (.int .i64 n))) []) => n == v
  | _ => false
theorem isI_iff {v : Int} {r : Option Res} (h : isI v r = true) : r = some (.ret (I v) []) := by
  unfold isI at h
  split at h
  · rename_i n
    have : n = v := by simpa using h
    rw [this]
  · cases h
theorem class_all : (List.range 256).all (fun n => isI (classI (UInt8.ofNat n)) (callN K 5 223 [.c (.pv (.int .u8 (n : Nat)))] [])) = true := by kernel_rfl
theorem class_den (c : UInt8) : den K 223 [U c] [] = some (.ret (I (classI c)) []) := by
  have h := List.all_eq_true.1 class_all c.toNat (List.mem_range.2 c.toNat_lt)
  have h2 := isI_iff h
  rw [UInt8.ofNat_toNat] at h2
  exact den_iff.2 ⟨5, h2⟩
def atC : List UInt8 → Int
  | [] => -1
  | c :: _ => classI c
theorem at1_den (s : List UInt8) (i : Nat) (hs : s.length < 4000000000) : den K 186 [T s, I i] [] = some (.ret (I (atC (s.drop i))) []) := by
  refine den_run rfl rfl Tryz.func186 rfl Tryz.ntmps186 ⟨by simp, by simp [LK]⟩ ?_
  have hr : Tryz.f186.results = #[.tmp 4] := rfl
  by_cases h : i < s.length
  · have hlt : decide ((i : Int) < (s.length : Int)) = true := decide_eq_true (by omega)
    have hd := List.drop_eq_getElem_cons h
    have hg : s[i]? = some (s[i]'h) := List.getElem?_eq_getElem h
    generalize s[i]'h = c at hd hg
    rw [hd, atC]
    have hc := class_den c
    simp only [go_sem, Nat.reduceLT, reduceCtorEq, Nat.reduceEqDiff, Nat.reduceBEq, Nat.reduceAdd, ev_len_str ty_descOf_9, ev_index ty_descOf_9, good_223, hr, hlt, Int.natCast_nonneg, Int.toNat_natCast, hg, hc]
  · have hlt : decide ((i : Int) < (s.length : Int)) = false := decide_eq_false (by omega)
    rw [List.drop_eq_nil_of_le (by omega), atC]
    simp only [go_sem, Nat.reduceLT, reduceCtorEq, Nat.reduceEqDiff, Nat.reduceBEq, Nat.reduceAdd, ev_len_str ty_descOf_9, ev_index ty_descOf_9, good_223, hr, hlt]
end Go.Abs
namespace Go.Abs
open Go Go.Proofs
set_option maxRecDepth 10000
attribute [local go_sem] exL_seq exL_region exL_cond exL_block exL_scope exL_ret exL_skip exL_exit runRegion runOps stepOp guardA absOp takeOver opd avOf cvOf St.degAt St.put okPV okVal okAV absBin intBin strBin boolBin setBoxes if_true Bool.false_eq_true if_false Option.map_some Option.map_none Option.bind_some Option.bind_none thenO outOf upd List.toList_toArray isOwn steal appArgs mvB inApps AV.deg CV.deg AV.gv AV.isIter absNext some_bne some_beqN List.length_nil List.length_cons List.filterMap_cons List.filterMap_nil beq_iff_eq List.getElem?_cons_zero List.getElem?_cons_succ Option.getD_some K_hook hookB Bool.false_and Bool.and_false Bool.and_self K_P K_own absCall doCall getBoxes lend back idx dedup AV.ren CV.ren TV.ren AV.ptrs CV.ptrs zipBox AV.flat CV.flat absLoad absStore cellsOfAV setAt newBox markB bldTypes absFieldAddr absField absExtract absAssert noAssert absMkIface ifcOf CV.pv? content pushHead ownT fillCells reps pvs chunks enterSt leave resOf resVars resVar outBoxes lentOnly TV.deg TV.av LK CV.plain CV.noBld nilBin absUn bound List.map_cons List.map_nil List.all_cons List.all_nil List.any_cons List.any_nil List.contains_cons List.contains_nil List.elem_cons List.elem_nil List.cons_append List.nil_append List.append_nil List.flatMap_cons List.flatMap_nil List.zip_cons_cons List.zip_nil_left List.zip_nil_right List.take_succ_cons List.take_zero List.take_nil List.drop_succ_cons List.drop_zero List.drop_nil List.isEmpty_nil List.isEmpty_cons Bool.and_true Bool.true_and Bool.or_true Bool.true_or Bool.or_false Bool.false_or Bool.not_true Bool.not_false Nat.add_zero Nat.zero_add Option.isNone_none Option.isNone_some Option.getD_none true_and and_true not_true_eq_false not_false_eq_true decide_true decide_false Nat.le_refl and_self Bool.not_eq_true Nat.sub_self or_true true_or Option.some.injEq List.length_map List.nil_eq and_false false_and AV.live CV.live CV.liveIn K_keep firstReg Option.orElse_some Option.orElse_none head keepSlots keepBoxes Int.lt_irrefl List.length_append ite_self memOK logOps opKey lentBoxes Key.clash Key.sees Key.writes Nat.lt_irrefl gt_iff_lt nobox_at bot_at false_or or_false beq_self_eq_true Bool.true_beq Bool.false_beq
theorem sl0 : (0 + 1 < strLim) = True := by simp [strLim]
end Go.Abs
namespace Go.Abs
open Go Go.Proofs
set_option maxRecDepth 10000
attribute [local go_sem] exL_seq exL_region exL_cond exL_block exL_scope exL_ret exL_skip exL_exit runRegion runOps stepOp guardA absOp takeOver opd avOf cvOf St.degAt St.put okPV okVal okAV absBin intBin strBin boolBin setBoxes if_true Bool.false_eq_true if_false Option.map_some Option.map_none Option.bind_some Option.bind_none thenO outOf upd List.toList_toArray isOwn steal appArgs mvB inApps AV.deg CV.deg AV.gv AV.isIter absNext some_bne some_beqN List.length_nil List.length_cons List.filterMap_cons List.filterMap_nil beq_iff_eq List.getElem?_cons_zero List.getElem?_cons_succ Option.getD_some K_hook hookB Bool.false_and Bool.and_false Bool.and_self K_P K_own absCall doCall getBoxes lend back idx dedup AV.ren CV.ren TV.ren AV.ptrs CV.ptrs zipBox AV.flat CV.flat absLoad absStore cellsOfAV setAt newBox markB bldTypes absFieldAddr absField absExtract absAssert noAssert absMkIface ifcOf CV.pv? content pushHead ownT fillCells reps pvs chunks enterSt leave resOf resVars resVar outBoxes lentOnly TV.deg TV.av LK CV.plain CV.noBld nilBin absUn bound List.map_cons List.map_nil List.all_cons List.all_nil List.any_cons List.any_nil List.contains_cons List.contains_nil List.elem_cons List.elem_nil List.cons_append List.nil_append List.append_nil List.flatMap_cons List.flatMap_nil List.zip_cons_cons List.zip_nil_left List.zip_nil_right List.take_succ_cons List.take_zero List.take_nil List.drop_succ_cons List.drop_zero List.drop_nil List.isEmpty_nil List.isEmpty_cons Bool.and_true Bool.true_and Bool.or_true Bool.true_or Bool.or_false Bool.false_or Bool.not_true Bool.not_false Nat.add_zero Nat.zero_add Option.isNone_none Option.isNone_some Option.getD_none true_and and_true not_true_eq_false not_false_eq_true decide_true decide_false Nat.le_refl and_self Bool.not_eq_true Nat.sub_self or_true true_or Option.some.injEq List.length_map List.nil_eq and_false false_and AV.live CV.live CV.liveIn K_keep firstReg Option.orElse_some Option.orElse_none head keepSlots keepBoxes Int.lt_irrefl List.length_append ite_self memOK logOps opKey lentBoxes Key.clash Key.sees Key.writes Nat.lt_irrefl gt_iff_lt nobox_at bot_at false_or or_false beq_self_eq_true Bool.true_beq Bool.false_beq
theorem may1_den (t : Tok) (ht : TokOk t) : den K 182 [.agg (tokCv t)] [] = some (.ret (B (!Tk.may t)) []) := by
  have h := May_den t ht.1 ht.2
  unfold Tok.cells at h
  refine den_run rfl rfl Tryz.func182 rfl Tryz.ntmps182 ⟨by simp, by simp [LK]⟩ ?_
  have hr : Tryz.f182.results = #[.tmp 2] := rfl
  cases hm : Tk.may t <;> rw [hm] at h <;> simp only [go_sem, Nat.reduceLT, Nat.reduceEqDiff, Nat.reduceBEq, Nat.reduceAdd, Nat.reduceSub, Nat.reduceLeDiff, ty_shapeT_47, good_113, hr, h]
abbrev ixH (l : List Tok) (i : Nat) : St :=
  { sl := upd (upd (upd (upd bot 8 (I i)) 7 (I l.length)) 1 (FV 182)) 0 (L (l.map Tok.enc)), bx := upd nobox 100000 none, nt := 19 }
theorem ix_loop (l : List Tok) (hl : l.length ≤ 3000000) (hok : ∀ t ∈ l, TokOk t) : ∀ (rest : List Tok) (i : Nat), l.drop i = rest → i ≤ l.length →
    Ends (exL K 222 (.loop (loopAt Tryz.f222 2)) (ixH l i)) fun o S => (rest.all Tk.may = true ∧ o = .exit 0 ∧ S.nt = 19) ∨ (rest.all Tk.may = false ∧ o = .ret ∧ ∃ j : Nat, S.sl 4 = I (j : Int))
  | [], i, hd, hi => by
    have hin : i = l.length := by
      have := List.drop_eq_nil_iff.1 hd
      omega
    subst hin
    conv in loopAt _ _ => whnf
    rw [exL_loop]
    simp only [go_sem, Nat.reduceLT, reduceCtorEq, Nat.reduceEqDiff, Nat.reduceBEq, keep_222_2, ends_some]
  | t :: rest, i, hd, hi => by
    obtain ⟨g1, g2, g3⟩ := drop_cons hd
    have hlt : decide ((i : Int) < (l.length : Int)) = true := decide_eq_true (by omega)
    have hget := tok_at l i t g1
    have hm := may1_den t (hok t (List.mem_of_getElem? g1))
    have ih := ix_loop l hl hok rest (i + 1) g2 (by omega)
    conv at ih in loopAt _ _ => whnf
    rw [List.all_cons]
    conv in loopAt _ _ => whnf
    rw [exL_loop]
    cases hv : Tk.may t
    · rw [hv] at hm
      rw [Bool.false_and]
      simp only [go_sem, Nat.reduceLT, reduceCtorEq, Nat.reduceEqDiff, Nat.reduceBEq, Nat.reduceAdd, ev_indexAddr ty_descOf_90, ty_szOf_47, ty_shapeT_47, keep_222_2, good_182, hlt, hget, Int.natCast_nonneg, hm, ends_some]
      exact ⟨i, rfl⟩
    · rw [hv] at hm
      rw [Bool.true_and]
      simp only [go_sem, Nat.reduceLT, reduceCtorEq, Nat.reduceEqDiff, Nat.reduceBEq, Nat.reduceAdd, ev_indexAddr ty_descOf_90, ty_szOf_47, ty_shapeT_47, keep_222_2, good_182, hlt, hget, Int.natCast_nonneg, hm, wrap_nat i (by omega)]
      rw [exL_head]
      simp only [go_sem, reduceCtorEq, Nat.reduceEqDiff, keep_222_2]
      exact ih
end Go.Abs
namespace Go.Abs
open Go Go.Proofs
set_option maxRecDepth 10000
attribute [local go_sem] exL_seq exL_region exL_cond exL_block exL_scope exL_ret exL_skip exL_exit runRegion runOps stepOp guardA absOp takeOver opd avOf cvOf St.degAt St.put okPV okVal okAV absBin intBin strBin boolBin setBoxes if_true Bool.false_eq_true if_false Option.map_some Option.map_none Option.bind_some Option.bind_none thenO outOf upd List.toList_toArray isOwn steal appArgs mvB inApps AV.deg CV.deg AV.gv AV.isIter absNext some_bne some_beqN List.length_nil List.length_cons List.filterMap_cons List.filterMap_nil beq_iff_eq List.getElem?_cons_zero List.getElem?_cons_succ Option.getD_some K_hook hookB Bool.false_and Bool.and_false Bool.and_self K_P K_own absCall doCall getBoxes lend back idx dedup AV.ren CV.ren TV.ren AV.ptrs CV.ptrs zipBox AV.flat CV.flat absLoad absStore cellsOfAV setAt newBox markB bldTypes absFieldAddr absField absExtract absAssert noAssert absMkIface ifcOf CV.pv? content pushHead ownT fillCells reps pvs chunks enterSt leave resOf resVars resVar outBoxes lentOnly TV.deg TV.av LK CV.plain CV.noBld nilBin absUn bound List.map_cons List.map_nil List.all_cons List.all_nil List.any_cons List.any_nil List.contains_cons List.contains_nil List.elem_cons List.elem_nil List.cons_append List.nil_append List.append_nil List.flatMap_cons List.flatMap_nil List.zip_cons_cons List.zip_nil_left List.zip_nil_right List.take_succ_cons List.take_zero List.take_nil List.drop_succ_cons List.drop_zero List.drop_nil List.isEmpty_nil List.isEmpty_cons Bool.and_true Bool.true_and Bool.or_true Bool.true_or Bool.or_false Bool.false_or Bool.not_true Bool.not_false Nat.add_zero Nat.zero_add Option.isNone_none Option.isNone_some Option.getD_none true_and and_true not_true_eq_false not_false_eq_true decide_true decide_false Nat.le_refl and_self Bool.not_eq_true Nat.sub_self or_true true_or Option.some.injEq List.length_map List.nil_eq and_false false_and AV.live CV.live CV.liveIn K_keep firstReg Option.orElse_some Option.orElse_none head keepSlots keepBoxes Int.lt_irrefl List.length_append ite_self memOK logOps opKey lentBoxes Key.clash Key.sees Key.writes Nat.lt_irrefl gt_iff_lt nobox_at bot_at false_or or_false beq_self_eq_true Bool.true_beq Bool.false_beq
def sameD1 (a b : Dcl) : Bool := (a.name == b.name) && ((a.imp == b.imp) && Ne.same a.l b.l)
def sameD : List Dcl → List Dcl → Bool := eqB sameD1
end Go.Abs
namespace Go.Abs
open Go Go.Proofs
set_option maxRecDepth 10000
attribute [local go_sem] exL_seq exL_region exL_cond exL_block exL_scope exL_ret exL_skip exL_exit runRegion runOps stepOp guardA absOp takeOver opd avOf cvOf St.degAt St.put okPV okVal okAV absBin intBin strBin boolBin setBoxes if_true Bool.false_eq_true if_false Option.map_some Option.map_none Option.bind_some Option.bind_none thenO outOf upd List.toList_toArray isOwn steal appArgs mvB inApps AV.deg CV.deg AV.gv AV.isIter absNext some_bne some_beqN List.length_nil List.length_cons List.filterMap_cons List.filterMap_nil beq_iff_eq List.getElem?_cons_zero List.getElem?_cons_succ Option.getD_some K_hook hookB Bool.false_and Bool.and_false Bool.and_self K_P K_own absCall doCall getBoxes lend back idx dedup AV.ren CV.ren TV.ren AV.ptrs CV.ptrs zipBox AV.flat CV.flat absLoad absStore cellsOfAV setAt newBox markB bldTypes absFieldAddr absField absExtract absAssert noAssert absMkIface ifcOf CV.pv? content pushHead ownT fillCells reps pvs chunks enterSt leave resOf resVars resVar outBoxes lentOnly TV.deg TV.av LK CV.plain CV.noBld nilBin absUn bound List.map_cons List.map_nil List.all_cons List.all_nil List.any_cons List.any_nil List.contains_cons List.contains_nil List.elem_cons List.elem_nil List.cons_append List.nil_append List.append_nil List.flatMap_cons List.flatMap_nil List.zip_cons_cons List.zip_nil_left List.zip_nil_right List.take_succ_cons List.take_zero List.take_nil List.drop_succ_cons List.drop_zero List.drop_nil List.isEmpty_nil List.isEmpty_cons Bool.and_true Bool.true_and Bool.or_true Bool.true_or Bool.or_false Bool.false_or Bool.not_true Bool.not_false Nat.add_zero Nat.zero_add Option.isNone_none Option.isNone_some Option.getD_none true_and and_true not_true_eq_false not_false_eq_true decide_true decide_false Nat.le_refl and_self Bool.not_eq_true Nat.sub_self or_true true_or Option.some.injEq List.length_map List.nil_eq and_false false_and AV.live CV.live CV.liveIn K_keep firstReg Option.orElse_some Option.orElse_none head keepSlots keepBoxes Int.lt_irrefl List.length_append ite_self memOK logOps opKey lentBoxes Key.clash Key.sees Key.writes Nat.lt_irrefl gt_iff_lt nobox_at bot_at false_or or_false beq_self_eq_true Bool.true_beq Bool.false_beq
def FewDen (l : List Val) : Prop := ∀ deep left : Int, 0 ≤ left → left ≤ 1000000 → 0 ≤ deep → deep ≤ 1000 → den K 51 [L (encL l), I left, I deep] [] = some (.ret (I (Ne.few deep left l)) [])
abbrev fewH (l : List Val) (left deep : Int) (i : Nat) : St := { sl := upd (upd (upd (upd bot 7 (I i)) 2 (I deep)) 1 (I left)) 0 (L (encL l)), bx := nobox, nt := 51 }
theorem few_loop (l : List Val) (hin : ∀ k t l', Val.mk k t l' ∈ l → FewDen l') (deep : Int) (hd1 : 1 ≤ deep) (hd2 : deep ≤ 1000) : ∀ (rest : List Val) (i : Nat) (left : Int), l.drop i = rest → i ≤ l.length → -1 ≤ left → i + left ≤ 1000000 →
    Ends (exL K 51 (.loop (loopAt Tryz.f51 4)) (fewH l left deep i)) fun o S => (o = .exit 0 ∧ S.nt = 51 ∧ S.sl 1 = I (Ne.fewL deep left rest)) ∨ (o = .ret ∧ S.sl 6 = I (Ne.fewL deep left rest))
  | [], i, left, hd, hi, h1, h2 => by
    have hin : i = l.length := by
      have := List.drop_eq_nil_iff.1 hd
      omega
    subst hin
    conv in loopAt _ _ => whnf
    rw [exL_loop]
    simp only [go_sem, Nat.reduceLT, reduceCtorEq, Nat.reduceEqDiff, Nat.reduceBEq, Nat.reduceAdd, ev_len_sl ty_descOf_22, keep_51_4, ends_some, encL_len, Ne.fewL]
  | .mk k t l' :: rest, i, left, hd, hi, h1, h2 => by
    obtain ⟨g1, g2, g3⟩ := drop_cons hd
    have hmem : Val.mk k t l' ∈ l := List.mem_of_getElem? g1
    have hf := hin k t l' hmem
    have hlt : decide ((i : Int) < (l.length : Int)) = true := decide_eq_true (by omega)
    have hget := val_at l i k t l' g1
    rw [fewL_cons]
    conv in loopAt _ _ => whnf
    rw [exL_loop]
    by_cases hneg : left < 0
    · have e1 : decide (0 ≤ left) = false := decide_eq_false (by omega)
      rw [if_pos hneg]
      simp only [go_sem, Nat.reduceLT, reduceCtorEq, Nat.reduceEqDiff, Nat.reduceBEq, Nat.reduceAdd, ev_len_sl ty_descOf_22, keep_51_4, ends_some, encL_len, hlt, e1]
    · have e1 : decide (0 ≤ left) = true := decide_eq_true (by omega)
      rw [if_neg hneg]
      have hw : IntKind.i64.wrap (left - 1) = left - 1 := IntWalk.i64_in _ (by omega)
      have hwi : IntKind.i64.wrap ((i : Int) + 1) = ((i + 1 : Nat) : Int) := wrap_nat i (by omega)
      by_cases ht : 100 < t.text.length
      · have e2 : decide ((100 : Int) < (t.text.length : Int)) = true := decide_eq_true (by omega)
        rw [if_pos ht]
        simp only [go_sem, Nat.reduceLT, reduceCtorEq, Nat.reduceEqDiff, Nat.reduceBEq, Nat.reduceAdd, ev_len_sl ty_descOf_22, ev_indexAddr ty_descOf_22, ty_szOf_49, ty_fieldOff_49_1, ty_szOf_47, ty_fieldOff_47_1, ty_szOf_9, ty_shapeT_9, ev_len_str ty_descOf_9, keep_51_4, ends_some, encL_len, hlt, hget, Int.natCast_nonneg, e1, e2, hw]
      · have e2 : decide ((100 : Int) < (t.text.length : Int)) = false := decide_eq_false (by omega)
        rw [if_neg ht]
        by_cases h0 : 0 ≤ left - 1
        · have e3 : decide (0 ≤ left - 1) = true := decide_eq_true h0
          cases he : l'.isEmpty
          · rw [if_pos ⟨h0, rfl⟩]
            have e4 : decide ((0 : Int) < (l'.length : Int)) = true := decide_eq_true (by cases l' with | nil => cases he | cons x y => simp only [List.length_cons]; omega)
            have hwd : IntKind.i64.wrap (deep - 1) = deep - 1 := IntWalk.i64_in _ (by omega)
            have hfd := hf (deep - 1) (left - 1) h0 (by omega) (by omega) (by omega)
            have hb := (few_bound l' (deep - 1) (left - 1) (by omega)).2.2 h0
            have ih := few_loop l hin deep hd1 hd2 rest (i + 1) (Ne.few (deep - 1) (left - 1) l') g2 (by omega) hb.1 (by omega)
            conv at ih in loopAt _ _ => whnf
            simp only [go_sem, Nat.reduceLT, reduceCtorEq, Nat.reduceEqDiff, Nat.reduceBEq, Nat.reduceAdd, ev_len_sl ty_descOf_22, ev_indexAddr ty_descOf_22, ty_szOf_49, ty_fieldOff_49_1, ty_szOf_47, ty_fieldOff_47_1, ty_szOf_9, ty_shapeT_9, ev_len_str ty_descOf_9, ty_fieldOff_49_2, ty_szOf_22, ty_shapeT_22, good_51, keep_51_4, encL_len, hlt, hget, Int.natCast_nonneg, e1, e2, e3, e4, hw, hwd, hwi, hfd]
            rw [exL_head]
            simp only [go_sem, reduceCtorEq, Nat.reduceEqDiff, keep_51_4]
            exact ih
          · rw [if_neg (fun h => by cases h.2)]
            have e4 : decide ((0 : Int) < (l'.length : Int)) = false := decide_eq_false (by cases l' with | nil => simp | cons x y => cases he)
            have ih := few_loop l hin deep hd1 hd2 rest (i + 1) (left - 1) g2 (by omega) (by omega) (by omega)
            conv at ih in loopAt _ _ => whnf
            simp only [go_sem, Nat.reduceLT, reduceCtorEq, Nat.reduceEqDiff, Nat.reduceBEq, Nat.reduceAdd, ev_len_sl ty_descOf_22, ev_indexAddr ty_descOf_22, ty_szOf_49, ty_fieldOff_49_1, ty_szOf_47, ty_fieldOff_47_1, ty_szOf_9, ty_shapeT_9, ev_len_str ty_descOf_9, ty_fieldOff_49_2, ty_szOf_22, ty_shapeT_22, good_51, keep_51_4, encL_len, hlt, hget, Int.natCast_nonneg, e1, e2, e3, e4, hw, hwi]
            rw [exL_head]
            simp only [go_sem, reduceCtorEq, Nat.reduceEqDiff, keep_51_4]
            exact ih
        · have e3 : decide (0 ≤ left - 1) = false := decide_eq_false h0
          rw [if_neg (fun h => h0 h.1)]
          have ih := few_loop l hin deep hd1 hd2 rest (i + 1) (left - 1) g2 (by omega) (by omega) (by omega)
          conv at ih in loopAt _ _ => whnf
          simp only [go_sem, Nat.reduceLT, reduceCtorEq, Nat.reduceEqDiff, Nat.reduceBEq, Nat.reduceAdd, ev_len_sl ty_descOf_22, ev_indexAddr ty_descOf_22, ty_szOf_49, ty_fieldOff_49_1, ty_szOf_47, ty_fieldOff_47_1, ty_szOf_9, ty_shapeT_9, ev_len_str ty_descOf_9, ty_fieldOff_49_2, ty_szOf_22, ty_shapeT_22, good_51, keep_51_4, encL_len, hlt, hget, Int.natCast_nonneg, e1, e2, e3, hw, hwi]
          rw [exL_head]
          simp only [go_sem, reduceCtorEq, Nat.reduceEqDiff, keep_51_4]
          exact ih
theorem few2_den (l : List Val) : FewDen l := by
  refine ind_list (fun l hin => ?_) l
  intro deep left h1 h2 h3 h4
  refine den_run rfl rfl Tryz.func51 rfl Tryz.ntmps51 ⟨by simp, by simp [LK]⟩ ?_
  have hr : Tryz.f51.results = #[.tmp 6] := rfl
  unfold Ne.few
  by_cases hd : deep < 1
  · have e0 : decide (deep < 1) = true := decide_eq_true hd
    rw [if_pos hd]
    simp only [go_sem, Nat.reduceLT, Nat.reduceEqDiff, Nat.reduceBEq, Nat.reduceAdd, hr, e0]
  · have e0 : decide (deep < 1) = false := decide_eq_false hd
    rw [if_neg hd]
    have h := few_loop l hin deep (by omega) h4 l 0 left rfl (Nat.zero_le _) (by omega) (by omega)
    conv at h in loopAt _ _ => whnf
    obtain ⟨o, S', w, hq⟩ := h
    simp only [go_sem, Nat.reduceLT, Nat.reduceEqDiff, Nat.reduceBEq, Nat.reduceAdd, e0]
    rw [exL_head]
    simp only [go_sem, reduceCtorEq, Nat.reduceEqDiff, keep_51_4]
    erw [w]
    rcases hq with ⟨rfl, hn, hv⟩ | ⟨rfl, hv⟩
    · simp only [go_sem, Nat.reduceLT, Nat.reduceEqDiff, Nat.reduceBEq, Nat.reduceAdd, hr, hn, hv]
    · simp only [go_sem, hr, hv]
theorem SmallV_den (l : List Val) (m : Int) (h1 : 0 ≤ m) (h2 : m ≤ 1000000) : den K 15 [L (encL l), I m] [] = some (.ret (B (decide (0 ≤ Ne.few 100 m l))) []) := by
  have h := few2_den l 100 m h1 h2 (by omega) (by omega)
  refine den_run rfl rfl Tryz.func15 rfl Tryz.ntmps15 ⟨by simp, by simp [LK]⟩ ?_
  have hr : Tryz.f15.results = #[.tmp 4] := rfl
  simp only [go_sem, Nat.reduceLT, reduceCtorEq, Nat.reduceEqDiff, Nat.reduceBEq, Nat.reduceAdd, good_51, hr, h]
end Go.Abs
namespace Go.Abs
open Go Go.Proofs
set_option maxRecDepth 10000
attribute [local go_sem] exL_seq exL_region exL_cond exL_block exL_scope exL_ret exL_skip exL_exit runRegion runOps stepOp guardA absOp takeOver opd avOf cvOf St.degAt St.put okPV okVal okAV absBin intBin strBin boolBin setBoxes if_true Bool.false_eq_true if_false Option.map_some Option.map_none Option.bind_some Option.bind_none thenO outOf upd List.toList_toArray isOwn steal appArgs mvB inApps AV.deg CV.deg AV.gv AV.isIter absNext some_bne some_beqN List.length_nil List.length_cons List.filterMap_cons List.filterMap_nil beq_iff_eq List.getElem?_cons_zero List.getElem?_cons_succ Option.getD_some K_hook hookB Bool.false_and Bool.and_false Bool.and_self K_P K_own absCall doCall getBoxes lend back idx dedup AV.ren CV.ren TV.ren AV.ptrs CV.ptrs zipBox AV.flat CV.flat absLoad absStore cellsOfAV setAt newBox markB bldTypes absFieldAddr absField absExtract absAssert noAssert absMkIface ifcOf CV.pv? content pushHead ownT fillCells reps pvs chunks enterSt leave resOf resVars resVar outBoxes lentOnly TV.deg TV.av LK CV.plain CV.noBld nilBin absUn bound List.map_cons List.map_nil List.all_cons List.all_nil List.any_cons List.any_nil List.contains_cons List.contains_nil List.elem_cons List.elem_nil List.cons_append List.nil_append List.append_nil List.flatMap_cons List.flatMap_nil List.zip_cons_cons List.zip_nil_left List.zip_nil_right List.take_succ_cons List.take_zero List.take_nil List.drop_succ_cons List.drop_zero List.drop_nil List.isEmpty_nil List.isEmpty_cons Bool.and_true Bool.true_and Bool.or_true Bool.true_or Bool.or_false Bool.false_or Bool.not_true Bool.not_false Nat.add_zero Nat.zero_add Option.isNone_none Option.isNone_some Option.getD_none true_and and_true not_true_eq_false not_false_eq_true decide_true decide_false Nat.le_refl and_self Bool.not_eq_true Nat.sub_self or_true true_or Option.some.injEq List.length_map List.nil_eq and_false false_and AV.live CV.live CV.liveIn K_keep firstReg Option.orElse_some Option.orElse_none head keepSlots keepBoxes Int.lt_irrefl List.length_append ite_self memOK logOps opKey lentBoxes Key.clash Key.sees Key.writes Nat.lt_irrefl gt_iff_lt nobox_at bot_at false_or or_false beq_self_eq_true Bool.true_beq Bool.false_beq
theorem tok7_den (k : Int) (s : List UInt8) : den K 59 [I k, T s] [] = some (.ret (.agg [.pv (.int .i64 1), .pv (.int .i64 k), .pv (.str s), .pv (.int .i64 0), .nils]) []) := by
  have hr : Tryz.f59.results = #[.cell 4 49] := rfl
  refine den_run rfl rfl Tryz.func59 rfl Tryz.ntmps59 ⟨by simp, by simp [LK]⟩ ?_
  simp only [go_sem, Nat.reduceLT, reduceCtorEq, Nat.reduceEqDiff, Nat.reduceBEq, Nat.reduceAdd, Nat.reduceSub, Nat.reduceLeDiff, ty_shapeT_49, ty_zeroCells_49, ev_build ty_zeroCells_47 ty_placesOf_47, ev_build ty_zeroCells_49 ty_placesOf_49, ty_szOf_49, hr]
abbrev v7H (ds : List Dcl) (e : Nat) (out : List Val) (i : Nat) : St :=
  { sl := upd (upd (upd bot 4 (I i)) 3 (.c (.own e (encL out)))) 0 (L (encD ds)), bx := nobox, nt := 46 }
noncomputable def v7lp : Code := .loop (loopAt Tryz.f23 3)
abbrev pvT (k : Int) (s : List UInt8) : List PV := [.int .i64 1, .int .i64 k, .str s, .int .i64 0, .sl []]
theorem two_toks (a : List Val) (k : Int) (s : List UInt8) (k' : Int) (s' : List UInt8) : encL a ++ [pvT k s, pvT k' s'] = encL (a ++ [Sl.tv ⟨k, s, 0⟩, Sl.tv ⟨k', s', 0⟩]) := by
  rw [encL_app]; rfl
theorem lens_two (a b c d e f g h i j : PV) : lens 5 [[a, b, c, d, e], [f, g, h, i, j]] = true := rfl
theorem declV_no {d : Dcl} (h : d.imp = false) (out : List Val) : out ++ Sl.declV d = out ++ [Sl.tv ⟨1, d.name, 0⟩, Sl.tv ⟨7, [58], 0⟩] ++ d.l := by
  unfold Sl.declV
  rw [h]; simp [Sl.iv, Sl.dv]
theorem declV_yes {d : Dcl} (h : d.imp = true) (out : List Val) : out ++ Sl.declV d = out ++ [Sl.tv ⟨1, d.name, 0⟩, Sl.tv ⟨7, [58], 0⟩] ++ d.l ++ [Sl.tv ⟨7, [33], 0⟩, Sl.tv ⟨1, [105, 109, 112, 111, 114, 116, 97, 110, 116], 0⟩] := by
  unfold Sl.declV
  rw [h]; simp [Sl.iv, Sl.dv, Sl.importantT]
set_option maxHeartbeats 8000000 in
theorem v7_step (ds : List Dcl) (e : Nat) (out : List Val) (d : Dcl) (i : Nat) (hi : ds[i]? = some d) (hl : ds.length ≤ 1000000) (ho : out.length ≤ 10000000) (he : e = 49 ∨ out = []) (hd : d.l.length ≤ 1000000) :
    exL K 23 v7lp (v7H ds e out i) = exL K 23 v7lp (v7H ds 49 ((if 0 < i then out ++ [Sl.signV [59]] else out) ++ Sl.declV d) (i + 1)) := by
  have hil : i < ds.length := (List.getElem?_eq_some_iff.1 hi).1
  have hlt : decide ((i : Int) < (ds.length : Int)) = true := decide_eq_true (by omega)
  have hget := dcl_at ds i d hi
  have hws : IntKind.i64.wrap ((i : Int) + 1) = ((i + 1 : Nat) : Int) := wrap_nat i (by omega)
  have hown : e = 49 ∨ (encL out).isEmpty = true := by
    rcases he with rfl | rfl
    · exact .inl rfl
    · exact .inr rfl
  have n0 := tok7_den 7 [59]
  have n1 := tok7_den 1 d.name
  have n2 := tok7_den 7 [58]
  have n3 := tok7_den 7 [33]
  have n4 := tok7_den 1 [105, 109, 112, 111, 114, 116, 97, 110, 116]
  have v2 := lens_valsK d.l
  by_cases h0 : 0 < i
  · have hp0 : decide ((0 : Int) < (i : Int)) = true := decide_eq_true (by omega)
    rw [if_pos h0]
    have k0 : out.length + 1 < appLim := by unfold appLim; omega
    have v0 := lens_valsK out
    have s0 := snoc_sign out [59]
    have hA : (out ++ [Sl.signV [59]]).length ≤ 10000001 := by simp; omega
    generalize out ++ [Sl.signV [59]] = A at s0 hA ⊢
    have k1 : A.length + 2 < appLim := by unfold appLim; omega
    have v1 := lens_valsK A
    have s1 := two_toks A 1 d.name 7 [58]
    have hB : (A ++ [Sl.tv ⟨1, d.name, 0⟩, Sl.tv ⟨7, [58], 0⟩]).length ≤ 10000003 := by simp; omega
    cases hb : d.imp
    · rw [declV_no hb]
      generalize A ++ [Sl.tv ⟨1, d.name, 0⟩, Sl.tv ⟨7, [58], 0⟩] = Bq at s1 hB ⊢
      have k3 : Bq.length + d.l.length < appLim := by unfold appLim; omega
      have v3 := lens_valsK Bq
      unfold v7lp
      conv in loopAt _ _ => whnf
      conv in loopAt _ _ => whnf
      conv in exL _ _ _ (v7H ds e out i) => rw [exL_loop]
      simp only [go_sem, Nat.reduceLT, reduceCtorEq, Nat.reduceEqDiff, Nat.reduceBEq, Nat.reduceAdd, Nat.reduceLeDiff, Nat.reduceMul, ev_len_sl ty_descOf_23, good_59, ev_buildSlice (len := 1) ty_descOf_22 ty_szOf_49 ty_zeroCells_49 ⟨rfl, by decide, by decide⟩, ev_append ty_appInfo_22, ev_appNew_sl ty_descOf_22, ev_indexAddr ty_descOf_23, ty_szOf_44, ty_fieldOff_44_0, ty_szOf_9, ty_shapeT_9, ev_buildSlice (len := 2) ty_descOf_22 ty_szOf_49 ty_zeroCells_49 ⟨rfl, by decide, by decide⟩, ty_fieldOff_44_1, ty_szOf_22, ty_shapeT_22, ty_fieldOff_44_2, ty_szOf_4, ty_shapeT_4, keep_23_3, encD_len, hlt, hp0, hget, Int.natCast_nonneg, hws, hown, n0, n1, n2, k0, v0, s0, lens_valK, lens_two, k1, v1, s1, k3, v2, v3, hb, encL_len, appV]
      rw [exL_head]
      simp only [go_sem, reduceCtorEq, Nat.reduceEqDiff, keep_23_3]
    · rw [declV_yes hb]
      generalize A ++ [Sl.tv ⟨1, d.name, 0⟩, Sl.tv ⟨7, [58], 0⟩] = Bq at s1 hB ⊢
      have k3 : Bq.length + d.l.length < appLim := by unfold appLim; omega
      have v3 := lens_valsK Bq
      have hC : (Bq ++ d.l).length ≤ 11000003 := by rw [List.length_append]; omega
      have a4 := appV Bq d.l
      generalize Bq ++ d.l = C at a4 hC ⊢
      have k4 : C.length + 2 < appLim := by unfold appLim; omega
      have v4 := lens_valsK C
      have s4 := two_toks C 7 [33] 1 [105, 109, 112, 111, 114, 116, 97, 110, 116]
      unfold v7lp
      conv in loopAt _ _ => whnf
      conv in loopAt _ _ => whnf
      conv in exL _ _ _ (v7H ds e out i) => rw [exL_loop]
      simp only [go_sem, Nat.reduceLT, reduceCtorEq, Nat.reduceEqDiff, Nat.reduceBEq, Nat.reduceAdd, Nat.reduceLeDiff, Nat.reduceMul, ev_len_sl ty_descOf_23, good_59, ev_buildSlice (len := 1) ty_descOf_22 ty_szOf_49 ty_zeroCells_49 ⟨rfl, by decide, by decide⟩, ev_append ty_appInfo_22, ev_appNew_sl ty_descOf_22, ev_indexAddr ty_descOf_23, ty_szOf_44, ty_fieldOff_44_0, ty_szOf_9, ty_shapeT_9, ev_buildSlice (len := 2) ty_descOf_22 ty_szOf_49 ty_zeroCells_49 ⟨rfl, by decide, by decide⟩, ty_fieldOff_44_1, ty_szOf_22, ty_shapeT_22, ty_fieldOff_44_2, ty_szOf_4, ty_shapeT_4, keep_23_3, encD_len, hlt, hp0, hget, Int.natCast_nonneg, hws, hown, n0, n1, n2, n3, n4, k0, v0, s0, lens_valK, lens_two, k1, v1, s1, k3, v2, v3, a4, k4, v4, s4, hb, encL_len]
      rw [exL_head]
      simp only [go_sem, reduceCtorEq, Nat.reduceEqDiff, keep_23_3]
  · have hp0 : decide ((0 : Int) < (i : Int)) = false := decide_eq_false (by omega)
    rw [if_neg h0]
    have k1 : out.length + 2 < appLim := by unfold appLim; omega
    have v1 := lens_valsK out
    have s1 := two_toks out 1 d.name 7 [58]
    have hB : (out ++ [Sl.tv ⟨1, d.name, 0⟩, Sl.tv ⟨7, [58], 0⟩]).length ≤ 10000003 := by simp; omega
    cases hb : d.imp
    · rw [declV_no hb]
      generalize out ++ [Sl.tv ⟨1, d.name, 0⟩, Sl.tv ⟨7, [58], 0⟩] = Bq at s1 hB ⊢
      have k3 : Bq.length + d.l.length < appLim := by unfold appLim; omega
      have v3 := lens_valsK Bq
      unfold v7lp
      conv in loopAt _ _ => whnf
      conv in loopAt _ _ => whnf
      conv in exL _ _ _ (v7H ds e out i) => rw [exL_loop]
      simp only [go_sem, Nat.reduceLT, reduceCtorEq, Nat.reduceEqDiff, Nat.reduceBEq, Nat.reduceAdd, Nat.reduceLeDiff, Nat.reduceMul, ev_len_sl ty_descOf_23, good_59, ev_buildSlice (len := 1) ty_descOf_22 ty_szOf_49 ty_zeroCells_49 ⟨rfl, by decide, by decide⟩, ev_append ty_appInfo_22, ev_appNew_sl ty_descOf_22, ev_indexAddr ty_descOf_23, ty_szOf_44, ty_fieldOff_44_0, ty_szOf_9, ty_shapeT_9, ev_buildSlice (len := 2) ty_descOf_22 ty_szOf_49 ty_zeroCells_49 ⟨rfl, by decide, by decide⟩, ty_fieldOff_44_1, ty_szOf_22, ty_shapeT_22, ty_fieldOff_44_2, ty_szOf_4, ty_shapeT_4, keep_23_3, encD_len, hlt, hp0, hget, Int.natCast_nonneg, hws, hown, n1, n2, lens_two, k1, v1, s1, k3, v2, v3, hb, encL_len, appV]
      rw [exL_head]
      simp only [go_sem, reduceCtorEq, Nat.reduceEqDiff, keep_23_3]
    · rw [declV_yes hb]
      generalize out ++ [Sl.tv ⟨1, d.name, 0⟩, Sl.tv ⟨7, [58], 0⟩] = Bq at s1 hB ⊢
      have k3 : Bq.length + d.l.length < appLim := by unfold appLim; omega
      have v3 := lens_valsK Bq
      have hC : (Bq ++ d.l).length ≤ 11000003 := by rw [List.length_append]; omega
      have a4 := appV Bq d.l
      generalize Bq ++ d.l = C at a4 hC ⊢
      have k4 : C.length + 2 < appLim := by unfold appLim; omega
      have v4 := lens_valsK C
      have s4 := two_toks C 7 [33] 1 [105, 109, 112, 111, 114, 116, 97, 110, 116]
      unfold v7lp
      conv in loopAt _ _ => whnf
      conv in loopAt _ _ => whnf
      conv in exL _ _ _ (v7H ds e out i) => rw [exL_loop]
      simp only [go_sem, Nat.reduceLT, reduceCtorEq, Nat.reduceEqDiff, Nat.reduceBEq, Nat.reduceAdd, Nat.reduceLeDiff, Nat.reduceMul, ev_len_sl ty_descOf_23, good_59, ev_buildSlice (len := 1) ty_descOf_22 ty_szOf_49 ty_zeroCells_49 ⟨rfl, by decide, by decide⟩, ev_append ty_appInfo_22, ev_appNew_sl ty_descOf_22, ev_indexAddr ty_descOf_23, ty_szOf_44, ty_fieldOff_44_0, ty_szOf_9, ty_shapeT_9, ev_buildSlice (len := 2) ty_descOf_22 ty_szOf_49 ty_zeroCells_49 ⟨rfl, by decide, by decide⟩, ty_fieldOff_44_1, ty_szOf_22, ty_shapeT_22, ty_fieldOff_44_2, ty_szOf_4, ty_shapeT_4, keep_23_3, encD_len, hlt, hp0, hget, Int.natCast_nonneg, hws, hown, n1, n2, n3, n4, lens_two, k1, v1, s1, k3, v2, v3, a4, k4, v4, s4, hb, encL_len]
      rw [exL_head]
      simp only [go_sem, reduceCtorEq, Nat.reduceEqDiff, keep_23_3]
abbrev s7H (a b : List Dcl) (i : Nat) : St := { sl := upd (upd (upd bot 5 (I i)) 1 (L (encD b))) 0 (L (encD a)), bx := nobox, nt := 55 }
set_option maxHeartbeats 8000000 in
theorem s7_loop (a b : List Dcl) (hab : a.length = b.length) (ha : a.length ≤ 1000000) (h1 : ∀ d ∈ a, Ne.size d.l ≤ 1000000) (h2 : ∀ d ∈ b, Ne.size d.l ≤ 1000000) : ∀ (ra rb : List Dcl) (i : Nat), a.drop i = ra → b.drop i = rb → i ≤ a.length →
    Ends (exL K 18 (.loop (loopAt Tryz.f18 4)) (s7H a b i)) fun o S => (sameD ra rb = true ∧ o = .exit 0 ∧ S.nt = 55) ∨ (sameD ra rb = false ∧ o = .ret ∧ S.sl 4 = B false)
  | [], rb, i, hda, hdb, hi => by
    have hin : i = a.length := by
      have := List.drop_eq_nil_iff.1 hda
      omega
    obtain rfl : rb = [] := by rw [← hdb, hin, hab, List.drop_length]
    subst hin
    conv in loopAt _ _ => whnf
    rw [exL_loop]
    simp only [go_sem, Nat.reduceLT, reduceCtorEq, Nat.reduceEqDiff, Nat.reduceBEq, Nat.reduceAdd, ev_len_sl ty_descOf_23, keep_18_4, ends_some, sameD, eqB, encD_len]
  | x :: ra, rb, i, hda, hdb, hi => by
    obtain ⟨g1, g2, g3⟩ := drop_cons hda
    cases rb with
    | nil =>
      have := List.drop_eq_nil_iff.1 hdb
      omega
    | cons y rb =>
      obtain ⟨k1, k2, k3⟩ := drop_cons hdb
      have hlt : decide ((i : Int) < (a.length : Int)) = true := decide_eq_true (by omega)
      have ga := dcl_at a i x g1
      have gb := dcl_at b i y k1
      have hsd := VSame2_den x.l (h1 x (List.mem_of_getElem? g1)) y.l (h2 y (List.mem_of_getElem? k1))
      unfold VSame2Den at hsd
      have ih := s7_loop a b hab ha h1 h2 ra rb (i + 1) g2 k2 (by omega)
      unfold sameD at ih ⊢
      conv at ih in loopAt _ _ => whnf
      conv in loopAt _ _ => whnf
      rw [exL_loop]
      rw [eqB, sameD1]
      cases b1 : (x.name == y.name)
      · have e1 : (x.name != y.name) = true := by rw [bne, b1]; rfl
        simp only [go_sem, Nat.reduceLT, reduceCtorEq, Nat.reduceEqDiff, Nat.reduceBEq, Nat.reduceAdd, ev_len_sl ty_descOf_23, ev_indexAddr ty_descOf_23, ty_szOf_44, ty_fieldOff_44_0, ty_szOf_9, ty_shapeT_9, keep_18_4, encD_len, hlt, ga, gb, e1, Int.natCast_nonneg, ends_some]
      · have e1 : (x.name != y.name) = false := by rw [bne, b1]; rfl
        cases b2 : (x.imp == y.imp)
        · simp only [go_sem, Nat.reduceLT, reduceCtorEq, Nat.reduceEqDiff, Nat.reduceBEq, Nat.reduceAdd, ev_len_sl ty_descOf_23, ev_indexAddr ty_descOf_23, ty_szOf_44, ty_fieldOff_44_0, ty_szOf_9, ty_shapeT_9, ty_fieldOff_44_2, ty_szOf_4, ty_shapeT_4, ty_isBoolT_4, keep_18_4, encD_len, hlt, ga, gb, Int.natCast_nonneg, e1, b2, ends_some]
        · cases b3 : Ne.same x.l y.l
          · rw [b3] at hsd
            simp only [go_sem, Nat.reduceLT, reduceCtorEq, Nat.reduceEqDiff, Nat.reduceBEq, Nat.reduceAdd, ev_len_sl ty_descOf_23, ev_indexAddr ty_descOf_23, ty_szOf_44, ty_fieldOff_44_0, ty_szOf_9, ty_shapeT_9, ty_fieldOff_44_2, ty_szOf_4, ty_shapeT_4, ty_isBoolT_4, ty_fieldOff_44_1, ty_szOf_22, ty_shapeT_22, good_21, keep_18_4, encD_len, hlt, ga, gb, Int.natCast_nonneg, e1, b2, hsd, ends_some]
          · rw [b3] at hsd
            simp only [go_sem, Nat.reduceLT, reduceCtorEq, Nat.reduceEqDiff, Nat.reduceBEq, Nat.reduceAdd, ev_len_sl ty_descOf_23, ev_indexAddr ty_descOf_23, ty_szOf_44, ty_fieldOff_44_0, ty_szOf_9, ty_shapeT_9, ty_fieldOff_44_2, ty_szOf_4, ty_shapeT_4, ty_isBoolT_4, ty_fieldOff_44_1, ty_szOf_22, ty_shapeT_22, good_21, keep_18_4, encD_len, hlt, ga, gb, Int.natCast_nonneg, e1, b2, hsd, wrap_nat i (by omega)]
            rw [exL_head]
            simp only [go_sem, reduceCtorEq, Nat.reduceEqDiff, keep_18_4]
            exact ih
theorem Same7_den (a b : List Dcl) (ha : a.length ≤ 1000000) (h1 : ∀ d ∈ a, Ne.size d.l ≤ 1000000) (h2 : ∀ d ∈ b, Ne.size d.l ≤ 1000000) : den K 18 [L (encD a), L (encD b)] [] = some (.ret (B (sameD a b)) []) := by
  refine den_run rfl rfl Tryz.func18 rfl Tryz.ntmps18 ⟨by simp, by simp [LK]⟩ ?_
  have hr : Tryz.f18.results = #[.tmp 4] := rfl
  by_cases hab : a.length = b.length
  · have e0 : ((a.length : Int) != (b.length : Int)) = false := by simp [hab]
    have h := s7_loop a b hab ha h1 h2 a b 0 rfl rfl (by omega)
    conv at h in loopAt _ _ => whnf
    obtain ⟨o, S', w, hq⟩ := h
    simp only [go_sem, Nat.reduceLT, reduceCtorEq, Nat.reduceEqDiff, Nat.reduceBEq, Nat.reduceAdd, ev_len_sl ty_descOf_23, encD_len, e0]
    rw [exL_head]
    simp only [go_sem, reduceCtorEq, Nat.reduceEqDiff, keep_18_4]
    erw [w]
    rcases hq with ⟨hv, rfl, hn⟩ | ⟨hv, rfl, h6⟩
    · simp only [go_sem, Nat.reduceLT, Nat.reduceBEq, hr, hv, hn]
    · simp only [go_sem, hr, hv, h6]
  · have e0 : ((a.length : Int) != (b.length : Int)) = true := by rw [bne_iff_ne]; omega
    have hv : sameD a b = false := eqB_len hab
    simp only [go_sem, Nat.reduceLT, reduceCtorEq, Nat.reduceEqDiff, Nat.reduceBEq, Nat.reduceAdd, ev_len_sl ty_descOf_23, encD_len, e0, hr, hv]
end Go.Abs
namespace Go.Abs
open Go Go.Proofs
set_option maxRecDepth 100000
theorem fixed7_run : callN K 400 17 [] [] = some (.ret (B true) []) := by kernel_rfl
theorem fixed7_den : den K 17 [] [] = some (.ret (B true) []) := den_iff.2 ⟨400, fixed7_run⟩
end Go.Abs
namespace Go.Abs
open Go Go.Proofs
theorem TxtOk_of : ∀ {l : List Val} {m : Nat}, m < 1000000000 → Ne.allT (fun t => t.text.length ≤ m) l → TxtOk l
  | [], _, _, _ => fun v hv => by cases hv
  | .mk k t c :: l, m, hm, h => by
    rw [Ne.allT, Ne.allV] at h
    intro v hv hn
    rcases List.mem_cons.1 hv with rfl | hv
    · show t.text.length < _
      have := h.1.1
      omega
    · exact TxtOk_of hm h.2 v hv hn
theorem readD_size {v : List Val} {d : Dcl} (h : Sl.readD v = some d) : Ne.size d.l ≤ Ne.size v := by
  unfold Sl.readD at h
  split at h
  case h_2 => cases h
  rename_i x r ht
  split at h
  case isFalse => cases h
  split at h
  case h_2 => cases h
  rename_i c r2 hr
  split at h
  case isFalse => cases h
  split at h
  case isFalse => cases h
  cases h
  have z0 := size_trim v
  rw [ht, Ne.size] at z0
  obtain ⟨p, hp⟩ := List.dropWhile_suffix Sl.isBlank (l := r)
  rw [hr] at hp
  have z1 := size_app p (c :: r2)
  rw [hp, Ne.size] at z1
  have z2 := size_trim r2
  have z3 := declOf_size (Sl.nameT x) (Sl.trim r2)
  omega
theorem parseD_size {v : List Val} {d : Dcl} (h : d ∈ Sl.parseD v) : Ne.size d.l ≤ Ne.size v := by
  unfold Sl.parseD at h
  rw [List.mem_filterMap] at h
  obtain ⟨q, hq, hr⟩ := h
  have := readD_size hr
  have := at_sizes [59] v q hq
  omega
theorem parseD_len (v : List Val) : (Sl.parseD v).length ≤ v.length + 1 := Nat.le_trans (Sl.parse_length v) (at_length [59] v)
theorem sameD_refl : ∀ l : List Dcl, sameD l l = true
  | [] => rfl
  | d :: l => by
    have h := sameD_refl l
    unfold sameD at h ⊢
    rw [eqB, h, sameD1, same_refl]
    simp
end Go.Abs
namespace Go.Abs
open Go Go.Proofs
set_option maxRecDepth 10000
attribute [local go_sem] exL_seq exL_region exL_cond exL_block exL_scope exL_ret exL_skip exL_exit runRegion runOps stepOp guardA absOp takeOver opd avOf cvOf St.degAt St.put okPV okVal okAV absBin intBin strBin boolBin setBoxes if_true Bool.false_eq_true if_false Option.map_some Option.map_none Option.bind_some Option.bind_none thenO outOf upd List.toList_toArray isOwn steal appArgs mvB inApps AV.deg CV.deg AV.gv AV.isIter absNext some_bne some_beqN List.length_nil List.length_cons List.filterMap_cons List.filterMap_nil beq_iff_eq List.getElem?_cons_zero List.getElem?_cons_succ Option.getD_some K_hook hookB Bool.false_and Bool.and_false Bool.and_self K_P K_own absCall doCall getBoxes lend back idx dedup AV.ren CV.ren TV.ren AV.ptrs CV.ptrs zipBox AV.flat CV.flat absLoad absStore cellsOfAV setAt newBox markB bldTypes absFieldAddr absField absExtract absAssert noAssert absMkIface ifcOf CV.pv? content pushHead ownT fillCells reps pvs chunks enterSt leave resOf resVars resVar outBoxes lentOnly TV.deg TV.av LK CV.plain CV.noBld nilBin absUn bound List.map_cons List.map_nil List.all_cons List.all_nil List.any_cons List.any_nil List.contains_cons List.contains_nil List.elem_cons List.elem_nil List.cons_append List.nil_append List.append_nil List.flatMap_cons List.flatMap_nil List.zip_cons_cons List.zip_nil_left List.zip_nil_right List.take_succ_cons List.take_zero List.take_nil List.drop_succ_cons List.drop_zero List.drop_nil List.isEmpty_nil List.isEmpty_cons Bool.and_true Bool.true_and Bool.or_true Bool.true_or Bool.or_false Bool.false_or Bool.not_true Bool.not_false Nat.add_zero Nat.zero_add Option.isNone_none Option.isNone_some Option.getD_none true_and and_true not_true_eq_false not_false_eq_true decide_true decide_false Nat.le_refl and_self Bool.not_eq_true Nat.sub_self or_true true_or Option.some.injEq List.length_map List.nil_eq and_false false_and AV.live CV.live CV.liveIn K_keep firstReg Option.orElse_some Option.orElse_none head keepSlots keepBoxes Int.lt_irrefl List.length_append ite_self memOK logOps opKey lentBoxes Key.clash Key.sees Key.writes Nat.lt_irrefl gt_iff_lt nobox_at bot_at false_or or_false beq_self_eq_true Bool.true_beq Bool.false_beq
set_option maxHeartbeats 8000000 in
theorem DeclsApart_den (a b : List Val) : den K 5 [L (encL a), L (encL b)] [] = some (.ret (B true) []) := by
  have hf := fixed7_den
  have ha := SmallV_den a 100 (by omega) (by omega)
  have hb := SmallV_den b 100 (by omega) (by omega)
  have hr : Tryz.f5.results = #[.tmp 4] := rfl
  refine den_run rfl rfl Tryz.func5 rfl Tryz.ntmps5 ⟨by simp, by simp [LK]⟩ ?_
  cases hsa : decide (0 ≤ Ne.few 100 100 a)
  · rw [hsa] at ha
    simp only [go_sem, Nat.reduceLT, reduceIte, reduceCtorEq, Nat.reduceEqDiff, apply_ite (Option.map (outOf _)), Nat.reduceBEq, Nat.reduceAdd, Nat.reduceSub, Nat.reduceLeDiff, Nat.reduceMul, good_17, good_15, good_19, ev_buildSlice (len := 2) ty_descOf_41 ty_szOf_22 ty_zeroCells_22 ⟨rfl, by decide, by decide⟩, good_31, ev_buildSlice (len := 0) ty_descOf_23 ty_szOf_44 ty_zeroCells_44 ⟨rfl, by decide, by decide⟩, ev_append ty_appInfo_23, ev_appNew_sl ty_descOf_23, good_18, ev_len_sl ty_descOf_23, good_32, ev_len_sl ty_descOf_41, hr, hf, ha]
  rw [hsa] at ha
  cases hsb : decide (0 ≤ Ne.few 100 100 b)
  · rw [hsb] at hb
    simp only [go_sem, Nat.reduceLT, reduceIte, reduceCtorEq, Nat.reduceEqDiff, apply_ite (Option.map (outOf _)), Nat.reduceBEq, Nat.reduceAdd, Nat.reduceSub, Nat.reduceLeDiff, Nat.reduceMul, good_17, good_15, good_19, ev_buildSlice (len := 2) ty_descOf_41 ty_szOf_22 ty_zeroCells_22 ⟨rfl, by decide, by decide⟩, good_31, ev_buildSlice (len := 0) ty_descOf_23 ty_szOf_44 ty_zeroCells_44 ⟨rfl, by decide, by decide⟩, ev_append ty_appInfo_23, ev_appNew_sl ty_descOf_23, good_18, ev_len_sl ty_descOf_23, good_32, ev_len_sl ty_descOf_41, hr, hf, ha, hb]
  rw [hsb] at hb
  obtain ⟨hza, hta⟩ := few_facts (of_decide_eq_true hsa)
  obtain ⟨hzb, htb⟩ := few_facts (of_decide_eq_true hsb)
  have hla := Ne.length_size a
  have hlb := Ne.length_size b
  have p1 := ParseD_den a (by omega) (TxtOk_of (by omega) hta)
  have p2 := ParseD_den b (by omega) (TxtOk_of (by omega) htb)
  have e2 : encP [a, b] = [[.sl (encL a)], [.sl (encL b)]] := rfl
  have hjs := join_size [59] [a, b]
  have hfl : Ne.size ([a, b] : List (List Val)).flatten = Ne.size a + Ne.size b := by
    simp only [List.flatten_cons, List.flatten_nil, List.append_nil]
    rw [size_app]
  have h2 : ([a, b] : List (List Val)).length = 2 := rfl
  have hjl := Ne.length_size (Sl.join [59] [a, b])
  have j1 := Join3_den [59] [a, b] (by simp) (by omega)
  rw [e2] at j1
  have hmj : ∀ v ∈ Sl.join [59] [a, b], v = Sl.signV [59] ∨ v ∈ a ∨ v ∈ b := fun v hv => by
    rw [Sl.join_two] at hv
    rcases List.mem_append.1 hv with hv | hv
    · exact .inr (.inl hv)
    · rcases List.mem_cons.1 hv with hv | hv
      · exact .inl hv
      · exact .inr (.inr hv)
  have htj : TxtOk (Sl.join [59] [a, b]) := fun v hv hn => by
    rcases hmj v hv with rfl | hv | hv
    · exact absurd hn (by decide)
    · exact TxtOk_of (by omega) hta v hv hn
    · exact TxtOk_of (by omega) htb v hv hn
  have p3 := ParseD_den (Sl.join [59] [a, b]) (by omega) htj
  rw [Sl.parse_apart] at p3
  have hpa := parseD_len a
  have hpb := parseD_len b
  have hsz : ∀ d ∈ Sl.parseD a ++ Sl.parseD b, Ne.size d.l ≤ 1000000 := fun d hd => by
    rcases List.mem_append.1 hd with hd | hd
    · have := parseD_size hd; omega
    · have := parseD_size hd; omega
  have q1 := Same7_den (Sl.parseD a ++ Sl.parseD b) (Sl.parseD a ++ Sl.parseD b) (by rw [List.length_append]; omega) hsz hsz
  rw [sameD_refl] at q1
  have a1 := At_den a [59] (by omega)
  have hle : decide (((Sl.parseD a).length : Int) ≤ ((Sl.at_ [59] a).length : Int)) = true := decide_eq_true (by have := Sl.parse_length a; omega)
  have k1 : ([] : List (List PV)).length + (Sl.parseD a).length < appLim := by unfold appLim; simp; omega
  have k1' : (Sl.parseD a).length < appLim := by unfold appLim; omega
  have k2 : (Sl.parseD a).length + (Sl.parseD b).length < appLim := by unfold appLim; omega
  have v0 : lens 3 [] = true := rfl
  have v1 := lens_dcl (Sl.parseD a)
  have v2 := lens_dcl (Sl.parseD b)
  simp only [go_sem, Nat.reduceLT, reduceIte, reduceCtorEq, Nat.reduceEqDiff, apply_ite (Option.map (outOf _)), Nat.reduceBEq, Nat.reduceAdd, Nat.reduceSub, Nat.reduceLeDiff, Nat.reduceMul, good_17, good_15, good_19, ev_buildSlice (len := 2) ty_descOf_41 ty_szOf_22 ty_zeroCells_22 ⟨rfl, by decide, by decide⟩, good_31, ev_buildSlice (len := 0) ty_descOf_23 ty_szOf_44 ty_zeroCells_44 ⟨rfl, by decide, by decide⟩, ev_append ty_appInfo_23, ev_appNew_sl ty_descOf_23, good_18, ev_len_sl ty_descOf_23, good_32, ev_len_sl ty_descOf_41, hr, hf, ha, hb, p1, p2, j1, p3, q1, a1, encD_len, encP_len, hle, k1, k1', k2, v0, v1, v2, app_dcl]
end Go.Abs
namespace Go.Abs
open Go Go.Proofs Go.ChangeShapes Go.WideShapes Go.ChangeAt Go.RowKit
def TyP (P : Program) : Nat → TypeId → List PV → Prop
  | 0, _, _ => False
  | n + 1, t, ps =>
    match P.underlying t with
    | some .bool => ∃ b, ps = [.bool b]
    | some (.int k) => ∃ z, ps = [.int k z] ∧ (Lit.int k z).wf = true
    | some .string => ∃ s, ps = [.str s] ∧ s.length ≤ reachBytes
    | some (.slice e) => ∃ c, ps = [.sl c] ∧ c.length ≤ reachBytes ∧ ∀ el ∈ c, TyP P n e el
    | some (.struct fs) => ps.length = P.cellsOf t ∧ ∀ (i : Nat) (f : Field), fs[i]? = some f → TyP P n f.type ((ps.drop f.offset).take (P.cellsOf f.type))
    | _ => False
def flatSet (P : Program) (L : List TypeId) : Bool := L.all fun t => decide (t < P.types.size) &&
  match P.underlying t with
  | some .bool | some (.int _) | some .string => P.cellsOf t == 1
  | some (.slice e) => L.contains e && decide (0 < P.cellsOf e) && decide (0 < P.bytesOf e) && P.cellsOf t == 1
  | some (.struct fs) => fs.toList.all fun f => L.contains f.type
  | _ => false
section
variable {H : Type} {enc : TypeId × Value → H} {P : Program} {w : World}
theorem cells_at {base n : Nat} {a : Addr} {cs : List Value} (h : w.cells? base a n = some cs) : cs.length = n ∧ ∀ (k : Nat) (y : Value), cs[k]? = some y → w.cell? (a.add k) = some y := by
  unfold World.cells? at h
  split at h
  case isFalse => cases h
  have hl : cs.length = n := by simpa using mapM_some_length h
  refine ⟨hl, fun k y hk => ?_⟩
  have hlt : k < n := by have := (List.getElem?_eq_some_iff.1 hk).1; omega
  have := mapM_some_get h k k (by simp [hlt])
  rw [this, hk]
theorem add_add (b o m j : Nat) : ((⟨b, o, none⟩ : Addr).add m).add j = ⟨b, o + (m + j), none⟩ := by
  simp only [Addr.add]
  split <;> split <;> simp_all [Nat.add_assoc]
theorem cell_addr {a : Addr} {y : Value} (h : w.cell? a = some y) : a = ⟨a.block, a.off, none⟩ := by
  unfold World.cell? at h
  cases a with
  | mk b o s =>
    cases s with
    | none => rfl
    | some k => simp at h; split at h <;> simp at h
theorem parts_ok {I : Nat → Nat → Option Value} {n : Nat} : ∀ (fs : List Field) (k : Nat) (cs : List Value), (∀ (j : Nat) (f : Field), fs[j]? = some f → f.offset = k + ((fs.take j).map fun f => P.cellsOf f.type).sum) →
    (∀ f ∈ fs, ∃ ps, TyP P n f.type ps ∧ All2 (RP I) ps ((cs.drop f.offset).take (P.cellsOf f.type)) ∧ ps.length = P.cellsOf f.type) → cs.length = k + (fs.map fun f => P.cellsOf f.type).sum →
    ∃ ps, ps.length = (fs.map fun f => P.cellsOf f.type).sum ∧ All2 (RP I) ps (cs.drop k) ∧ ∀ (j : Nat) (f : Field), fs[j]? = some f → TyP P n f.type ((ps.drop (f.offset - k)).take (P.cellsOf f.type))
  | [], k, cs, _, _, hl => ⟨[], rfl, by rw [List.drop_eq_nil_of_le (by simp at hl; omega)]; exact .nil, fun j f h => by simp at h⟩
  | f :: fs, k, cs, ho, hf, hl => by
    have ho0 := ho 0 f rfl
    simp at ho0
    obtain ⟨p0, h1, h2, h3⟩ := hf f (by simp)
    simp only [List.map_cons, List.sum_cons] at hl
    obtain ⟨ps, h4, h5, h6⟩ := parts_ok fs (k + P.cellsOf f.type) cs (fun j g hg => by
      have := ho (j + 1) g (by simpa using hg)
      simp only [List.take_succ_cons, List.map_cons, List.sum_cons] at this
      omega) (fun g hg => hf g (by simp [hg])) (by omega)
    refine ⟨p0 ++ ps, by simp [h3, h4], ?_, fun j g hg => ?_⟩
    · rw [ho0] at h2
      have : cs.drop k = (cs.drop k).take (P.cellsOf f.type) ++ cs.drop (k + P.cellsOf f.type) := by
        rw [← List.drop_drop, List.take_append_drop]
      rw [this]
      exact h2.append h5
    · cases j with
      | zero =>
        simp at hg
        subst hg
        rw [ho0, Nat.sub_self, List.drop_zero, List.take_left' h3]
        exact h1
      | succ j =>
        have hg' : fs[j]? = some g := by simpa using hg
        have := h6 j g hg'
        have hoj := ho (j + 1) g hg
        simp only [List.take_succ_cons, List.map_cons, List.sum_cons] at hoj
        have hle : k + P.cellsOf f.type ≤ g.offset := by omega
        rw [List.drop_append, List.drop_eq_nil_of_le (by omega), List.nil_append, h3]
        rw [show g.offset - k - P.cellsOf f.type = g.offset - (k + P.cellsOf f.type) by omega]
        exact this
theorem weights_all {e : TypeId} : ∀ {l : List (DataW H)} {d : DataW H}, d ∈ l → ∀ n ∈ d.weights P e, n ∈ DataW.weightsAll P e l
  | d' :: l, d, h, n, hn => by
    unfold DataW.weightsAll
    rw [List.mem_append]
    rcases List.mem_cons.1 h with rfl | h
    · exact .inl hn
    · exact .inr (weights_all h n hn)
theorem weights_each : ∀ {ts : List TypeId} {ds : List (DataW H)} {j : Nat} {t : TypeId} {d : DataW H}, ts[j]? = some t → ds[j]? = some d → ∀ n ∈ d.weights P t, n ∈ DataW.weightsEach P ts ds := DataW.weights_mem_each
theorem trod_RP {I : Nat → Nat → Option Value} (hI : ∀ b o y, w.cell? ⟨b, o, none⟩ = some y → I b o = some y) (K0 : Kids P (· < P.types.size)) {L : List TypeId} (hL : flatSet P L = true) {base : Nat} {sp : Nat → Bool} {held : Bool} :
    ∀ (n : Nat) (t : TypeId) (cs : List Value) (x : DataW H × List MemPlace), DataW.trod enc P w base sp held n t cs = some x → t ∈ L → (∀ m ∈ x.1.weights P t, m ≤ reachBytes) → ∃ ps, TyP P n t ps ∧ All2 (RP I) ps cs ∧ ps.length = P.cellsOf t := by
  intro n
  induction n with
  | zero => intro t cs x h; simp [DataW.trod] at h
  | succ n ih =>
    intro t cs x h ht hw
    have hLt := List.all_eq_true.1 hL t ht
    simp only [Bool.and_eq_true, decide_eq_true_eq] at hLt
    obtain ⟨hlt, hLt⟩ := hLt
    unfold TyP
    split at hLt
    · rename_i hu
      obtain ⟨b, rfl, rfl⟩ := DataW.trod_bool hu h
      exact ⟨[.bool b], ⟨b, rfl⟩, .cons (.bool b) .nil, (by simpa using hLt : P.cellsOf t = 1).symm⟩
    · rename_i k hu
      obtain ⟨z, rfl, rfl, hwf⟩ := DataW.trod_int hu h
      exact ⟨[.int k z], ⟨z, rfl, hwf⟩, .cons (.int k z) .nil, (by simpa using hLt : P.cellsOf t = 1).symm⟩
    · rename_i hu
      obtain ⟨s, rfl, rfl, hsz⟩ := DataW.trod_string hu h
      refine ⟨[.str s.data.toList], ⟨_, rfl, hw _ (by simp [DataW.weights])⟩, .cons ?_ .nil, (by simpa using hLt : P.cellsOf t = 1).symm⟩
      exact .str _
    · rename_i e hu
      simp only [Bool.and_eq_true, decide_eq_true_eq] at hLt
      obtain ⟨⟨⟨he, hpos⟩, hby⟩, hc1⟩ := hLt
      have hc1 : P.cellsOf t = 1 := by simpa using hc1
      rcases DataW.trod_slice hu h with ⟨rfl, rfl⟩ | ⟨a, len, cap, elems, rest, m, hfuel, rfl, rfl, _, hlc, _, hel, hget, _, _⟩
      · exact ⟨[.sl []], ⟨[], rfl, by simp, by simp⟩, .cons (.sl0 none 0) .nil, hc1.symm⟩
      · have hm : m = n := by omega
        subst hm
        have hwt : ∀ m ∈ (elems.length + rest.length) * P.bytesOf e :: (DataW.weightsAll P e (elems.map (·.1)) ++ DataW.weightsAll P e (rest.map (·.1))), m ≤ reachBytes := by
          have : DataW.weights P t (DataW.slice (elems.map (·.1)) (rest.map (·.1))) = (elems.length + rest.length) * P.bytesOf e :: (DataW.weightsAll P e (elems.map (·.1)) ++ DataW.weightsAll P e (rest.map (·.1))) := by
            simp [DataW.weights, hu]
          rw [← this]; exact hw
        have hlenb : len ≤ reachBytes := by
          have h1 := hwt _ (List.mem_cons_self ..)
          have h2 : (elems.length + rest.length) * 1 ≤ (elems.length + rest.length) * P.bytesOf e := Nat.mul_le_mul_left _ hby
          omega
        have hone : ∀ i, i < len → ∃ ps, TyP P m e ps ∧ ps.length = P.cellsOf e ∧ ∀ (j : Nat) (p : PV), ps[j]? = some p → ∃ y, w.cell? ((a.add (i * P.cellsOf e)).add j) = some y ∧ RP I p y := by
          intro i hi
          have hg := hget i hi
          have hsome : ∃ y, elems[i]? = some y := ⟨elems[i]'(by omega), by simp [hel, hi]⟩
          obtain ⟨y, hy⟩ := hsome
          rw [hy, Option.bind_eq_some_iff] at hg
          obtain ⟨cs', hcs, htr⟩ := hg
          obtain ⟨ps, h1, h2, h3⟩ := ih e cs' y htr (by simpa using he) fun q hq => hwt q (List.mem_cons_of_mem _ (List.mem_append_left _ (weights_all (List.mem_map.2 ⟨y, List.mem_of_getElem? hy, rfl⟩) q hq)))
          obtain ⟨h4, h5⟩ := cells_at hcs
          refine ⟨ps, h1, h3, fun j p hj => ?_⟩
          obtain ⟨z, hz, hr⟩ := h2.get hj
          exact ⟨z, h5 j z hz, hr⟩
        obtain ⟨g, hg⟩ : ∃ g : Nat → List PV, ∀ i, i < len → TyP P m e (g i) ∧ (g i).length = P.cellsOf e ∧ ∀ (j : Nat) (p : PV), (g i)[j]? = some p → ∃ y, w.cell? ((a.add (i * P.cellsOf e)).add j) = some y ∧ RP I p y := by
          refine ⟨fun i => if hi : i < len then (hone i hi).choose else [], fun i hi => ?_⟩
          simp only [dif_pos hi]
          exact (hone i hi).choose_spec
        have hcget : ∀ (i : Nat) (el : List PV), ((List.range len).map g)[i]? = some el → i < len ∧ el = g i := fun i el hi => by
          have hlt' := (List.getElem?_eq_some_iff.1 hi).1
          simp at hlt'
          rw [List.getElem?_map, List.getElem?_range hlt'] at hi
          simp at hi
          exact ⟨hlt', hi.symm⟩
        refine ⟨[.sl ((List.range len).map g)], ⟨_, rfl, by simpa using hlenb, fun el hel' => ?_⟩, .cons ?_ .nil, hc1.symm⟩
        · obtain ⟨i, hi, rfl⟩ := List.mem_map.1 hel'
          exact (hg i (by simpa using hi)).1
        · by_cases h0 : len = 0
          · subst h0
            exact .sl0 _ _
          · obtain ⟨p0, hp0⟩ : ∃ p, (g 0)[0]? = some p := ⟨(g 0)[0]'(by rw [(hg 0 (by omega)).2.1]; exact hpos), by simp⟩
            obtain ⟨y0, hy0, _⟩ := (hg 0 (by omega)).2.2 0 p0 hp0
            have hadd0 : (a.add (0 * P.cellsOf e)).add 0 = a := by simp [Addr.add]
            rw [hadd0] at hy0
            have ha := cell_addr hy0
            have := RP.of_seg (I := I) (c := (List.range len).map g) (b := a.block) (o := a.off) (cap := cap) (sz := P.cellsOf e) (by simpa using hlc) (fun el hel' => by
              obtain ⟨i, hi, rfl⟩ := List.mem_map.1 hel'
              exact (hg i (by simpa using hi)).2.1) (fun i el j p hi hj => by
              obtain ⟨hlt', rfl⟩ := hcget i el hi
              obtain ⟨y, h1, h2⟩ := (hg i hlt').2.2 j p hj
              refine ⟨y, hI _ _ _ ?_, h2⟩
              have hadd : (a.add (i * P.cellsOf e)).add j = ⟨a.block, a.off + (i * P.cellsOf e + j), none⟩ := by
                have := add_add a.block a.off (i * P.cellsOf e) j
                rw [← ha] at this; exact this
              rw [hadd] at h1
              exact h1)
            rw [← ha] at this
            simpa using this
    · rename_i fs hu
      obtain ⟨xs, m, hfuel, rfl, hcl, hxl, hget⟩ := DataW.trod_struct hu h
      have hm : m = n := by omega
      subst hm
      obtain ⟨hf1, hf2, hf3⟩ := K0.struct hlt hu
      have hwt : ∀ m ∈ DataW.weightsEach P (fs.toList.map (·.type)) (xs.map (·.1)), m ≤ reachBytes := by
        have : DataW.weights P t (DataW.agg (xs.map (·.1))) = DataW.weightsEach P (fs.toList.map (·.type)) (xs.map (·.1)) := by
          rw [DataW.weights, hu]
        rw [← this]; exact hw
      obtain ⟨ps, h1, h2, h3⟩ := parts_ok (P := P) (I := I) (n := m) fs.toList 0 cs (fun j f hj => by rw [hf3 j f hj]; omega) (fun f hf => by
        obtain ⟨i, hi⟩ := List.mem_iff_getElem?.1 hf
        have hi' : fs[i]? = some f := by simpa using hi
        have hg := hget i f hi'
        have hlt' : i < fs.size := (Array.getElem?_eq_some_iff.1 hi').1
        obtain ⟨y, hy⟩ : ∃ y, xs[i]? = some y := ⟨xs[i]'(by omega), by simp [hxl, hlt']⟩
        rw [hy] at hg
        exact ih f.type _ y hg (by simpa using List.all_eq_true.1 hLt f hf) fun q hq => hwt q (weights_each (j := i) (t := f.type) (d := y.1) (by simp [hi']) (by simp [hy]) q hq)) (by rw [hcl, hf2]; omega)
      refine ⟨ps, ⟨by rw [h1, hf2], fun i f hi => ?_⟩, by simpa using h2, by rw [h1, hf2]⟩
      have := h3 i f (by simpa using hi)
      simpa using this
    · cases hLt
def argOf (P : Program) (t : TypeId) (ps : List PV) : AV :=
  match P.underlying t with
  | some (.struct _) => .agg (ps.map CV.pv)
  | _ => match ps with
    | [p] => .c (.pv p)
    | _ => .c .top
theorem ok_one {r : Reach} {base : Nat} {t : TypeId} {v : Value} (h : Value.okWide P w r base t v) (hs : (∀ fs, P.underlying t ≠ some (.struct fs)) ∧ ∀ n e, P.underlying t ≠ some (.array n e)) : v.cells = #[v] := by
  unfold Value.okWide at h
  split at h
  · exact absurd ‹_› (hs.1 _)
  · exact absurd ‹_› (hs.2 _ _)
  · cases v <;> first | rfl | (unfold Cell.okWide Cell.ok at h; split at h <;> simp_all)
theorem post_of_old {f : Func} {s : ChangeSpec} {apart fresh handsOn again : Bool} {W W' : World} {args : Array Value} {v : Value} {ds gs : List (DataW H)} {before pa pv : List MemPlace}
    (hW : DataW.Whole enc P f.params.toList s.vars apart W args.toList ds gs before)
    (hres : ∀ (b : Nat) (sp : Nat → Bool) (hd : Bool), DataW.TrodAll enc P W' b sp hd f.resultTypes.toList (v.resultList f.resultTypes.size) (s.fn H (ds ++ gs)).results [])
    (hargs : ∀ sp : Nat → Bool, (∀ p ∈ before, sp p.block = true) → DataW.TrodAll enc P W' 0 sp true f.params.toList args.toList (s.fn H (ds ++ gs)).args pa)
    (hvars : ∀ sp : Nat → Bool, (∀ p ∈ before, sp p.block = true) → DataW.TrodVars enc P W' sp s.vars (s.fn H (ds ++ gs)).vars pv)
    (hps : before = pa ++ pv) (hk : W.keptBut W' (· ∈ before)) (hfz : ∀ a : Addr, a.block < W.heap.size → W'.frozen? a = W.frozen? a)
    (hok : ∀ (j : Nat) (t : TypeId) (r : Value), f.resultTypes[j]? = some t → (v.resultList f.resultTypes.size)[j]? = some r → Value.okWide P W' .any 0 t r) :
    s.post enc P f apart fresh handsOn again W args v W' := by
  have hold : ∀ p ∈ before, (fun b => decide (b < W.heap.size)) p.block = true := fun p hp => by simpa using hW.lt p hp
  have hlt := fun p hp => hW.lt p hp
  refine ⟨ds, gs, before, [], pa, pv, hW, hres _ _ _, hargs _ hold, hvars _ hold, World.keptBut_mono (fun p hp => ⟨hp, ?_⟩) hk, fun _ => ?_⟩
  · rw [hps, List.mem_append] at hp
    exact Or.inr hp
  · obtain ⟨_, _, _, _, _, hz, hn⟩ := hW
    refine ⟨hok, _, _, ([] ++ pa) ++ pv, ⟨[] ++ pa, pv, trodAll_append (hargs _ (fun _ _ => rfl)) (hres _ _ _), hvars _ (fun _ _ => rfl), rfl, ?_, ?_⟩, ?_⟩
    · intro b off hp
      have hp' : MemPlace.cell b off ∈ before := by rw [hps]; simpa using hp
      rw [hfz _ (hlt _ hp')]
      exact hz b off hp'
    · intro ha
      have := hn ha
      rw [hps] at this
      simpa using this
    · intro p hp _
      rw [hps]
      simpa using hp
def oldGh (w : World) : Gh := { I := fun b o => w.cell? ⟨b, o, none⟩, bb := fun _ => none, ow := fun _ => none }
theorem oldWI (h : TabOK (oldGh w) w) : WI (oldGh w) w :=
  ⟨fun _ _ _ h => h, fun b hb => ⟨fun o => by
    show w.cell? ⟨b, o, none⟩ = none
    unfold World.cell?
    have : w.heap[b]? = none := Array.getElem?_eq_none hb
    simp [this], rfl⟩, fun _ _ h => (by cases h), fun _ _ h => (by cases h), h⟩
theorem keptBut_of_old {W W' : World} (hos : W'.os = W.os) (hout : W'.output = W.output) (h : ∀ b, b < W.heap.size → W'.heap[b]? = W.heap[b]?) (may : MemPlace → Prop) : W.keptBut W' may := by
  refine ⟨hos, hout, fun i hi => ?_⟩
  rw [h i hi]
  split
  · rename_i h1 h2; rw [h1] at h2; cases h2; exact ⟨rfl, rfl, rfl, fun _ _ => rfl⟩
  · rename_i h1 h2; rw [h1] at h2; cases h2; exact .inr ⟨rfl, rfl⟩
  · rfl
end
theorem kids : Kids Tryz.prog (· < Tryz.prog.types.size) := kids_rows (by kernel_rfl) (by kernel_rfl)
theorem slices_full : ∀ t e, t < Tryz.prog.types.size → Tryz.prog.underlying t = some (.slice e) → 0 < Tryz.prog.cellsOf e := slices_full_of _ (by kernel_rfl)
theorem laid_mem {w : World} : ∀ {l : List (String × DataW Unit)} {ps : List MemPlace}, DataW.LaidVars Tryz.prog w l ps → ∀ {n : String} {d : DataW Unit}, (n, d) ∈ l →
    ∃ g t cs fuel p, Tryz.prog.globalNamed n = some g ∧ (Tryz.prog.globals[g]?).map (·.type) = some t ∧ w.var? Tryz.prog n = some cs ∧ DataW.trod (fun _ => ()) Tryz.prog w 0 (fun _ => true) false fuel t cs.toList = some (d, p)
  | [], _, _, n, d, hm => by simp at hm
  | (m, e) :: l, ps, h, n, d, hm => by
    obtain ⟨g, t, cs, fuel, p, q, h1, h2, h3, h4, h5, _⟩ := h
    rcases List.mem_cons.1 hm with h | h
    · cases h; exact ⟨g, t, cs, fuel, p, h1, h2, h3, h4⟩
    · exact laid_mem h5 h
set_option maxRecDepth 100000 in
theorem tab_ok {W : World} {laid : List (String × DataW Unit)} (hL : laidMet Tryz.prog laid W) (hm : ("internal/strconv.uint64pow10", Go.Proofs.YtjjeloinclmopaaGreatDoor.Rows.laid_internal_strconv_uint64pow10) ∈ laid) (hsh : W.ShapedOpen Tryz.prog) : TabOK (oldGh W) W := by
  refine ⟨fun x hx => ⟨rfl, ?_⟩, fun b hb => ⟨rfl, ?_⟩⟩
  · simp only [tabs, List.mem_cons, List.not_mem_nil, or_false] at hx
    subst hx
    obtain ⟨ps, hl, _⟩ := hL
    obtain ⟨g, t, cs, fuel, p, h1, h2, h3, h4⟩ := laid_mem hl hm
    have hg : g = 3 := Option.some.inj (h1.symm.trans (show Tryz.prog.globalNamed "internal/strconv.uint64pow10" = some 3 by kernel_rfl))
    subst hg
    have ht : t = 272 := Option.some.inj (h2.symm.trans (show (Tryz.prog.globals[3]?).map (·.type) = some 272 by kernel_rfl))
    subst ht
    have hcs := Lib.cells_of_tab (k := .u64) (zs := (List.range 20).map fun i => ((10 ^ i : Nat) : Int)) (n := 20) (e := 256) (by kernel_rfl) (by kernel_rfl) (by kernel_rfl) (by kernel_rfl) (h := h4)
    simp only [World.var?, h1, Option.bind_some] at h3
    split at h3
    · rename_i cs' ty fz hh
      cases h3
      refine ⟨ty, fz, hh.trans ?_⟩
      have : cs = cs.toList.toArray := by simp
      rw [this, hcs]
      simp
    · cases h3
  · simp only [ints, List.mem_cons, List.not_mem_nil, or_false] at hb
    subst hb
    obtain ⟨cs, hh, hs, hr⟩ := hsh.1 2 #[.int .i64 0] 3 (of_decide_eq_true (by kernel_rfl)) (by kernel_rfl)
    obtain ⟨ts, hts, _, hall⟩ := hr (by kernel_rfl)
    have hct : Tryz.prog.cellTypes Tryz.prog.depth 3 = some [3] := by kernel_rfl
    have hts' : ts = [3] := Option.some.inj (hts.symm.trans hct)
    subst hts'
    have h1 : 0 < cs.size := by rw [hs]; simp
    obtain ⟨u, hu', hok⟩ := hall 0 cs[0] (by simp [h1])
    have hu0 : u = 3 := by simpa using hu'.symm
    subst hu0
    unfold Cell.ok at hok
    rw [show Tryz.prog.underlying 3 = some (.int .i64) by kernel_rfl] at hok
    cases hv : cs[0] with
    | int k m =>
      rw [hv] at hok
      obtain ⟨rfl, _⟩ := hok
      exact ⟨m, cs, 3, _, hh, by simp [h1, hv]⟩
    | _ => rw [hv] at hok; simp at hok
section
variable {H : Type} {enc : TypeId × Value → H}
set_option maxRecDepth 100000 in
theorem args_ok {W : World} {base : Nat} {L : List TypeId} (hL : flatSet Tryz.prog L = true) : ∀ {ts : List TypeId} {vs : List Value} {ds : List (DataW H)} {ps : List MemPlace}, DataW.TrodAll enc Tryz.prog W 0 (fun _ => true) true ts vs ds ps → (∀ t ∈ ts, t ∈ L) →
    (∀ (j : Nat) (t : TypeId) (v : Value), ts[j]? = some t → vs[j]? = some v → Value.okWide Tryz.prog W .any base t v) → (∀ m ∈ DataW.weightsEach Tryz.prog ts ds, m ≤ reachBytes) →
    ∃ pss : List (List PV), All2 (fun t p => ∃ n, TyP Tryz.prog n t p) ts pss ∧ All2 (fun v x => RA (oldGh W) W .ret v x) (List.zipWith (argOf Tryz.prog) ts pss) vs ∧ ∀ v ∈ List.zipWith (argOf Tryz.prog) ts pss, isOwn v = false
  | [], [], [], _, _, _, _, _ => ⟨[], .nil, .nil, by simp⟩
  | t :: ts, v :: vs, d :: ds, ps, h, hts, hval, hw => by
    obtain ⟨p, q, ⟨n, h1⟩, h2, _⟩ := h
    have hw1 : ∀ m ∈ d.weights Tryz.prog t, m ≤ reachBytes := fun m hm => hw m (by unfold DataW.weightsEach; exact List.mem_append_left _ hm)
    have hw2 : ∀ m ∈ DataW.weightsEach Tryz.prog ts ds, m ≤ reachBytes := fun m hm => hw m (by unfold DataW.weightsEach; exact List.mem_append_right _ hm)
    have hv2 : ∀ (j : Nat) (u : TypeId) (x : Value), ts[j]? = some u → vs[j]? = some x → Value.okWide Tryz.prog W .any base u x := by
      intro j u x hj hx
      refine hval (j + 1) u x ?_ ?_
      · rw [List.getElem?_cons_succ]; exact hj
      · rw [List.getElem?_cons_succ]; exact hx
    obtain ⟨pss, h3, h4, h5⟩ := args_ok hL h2 (fun u hu => hts u (List.mem_cons_of_mem _ hu)) hv2 hw2
    obtain ⟨pv, h6, h7, h8⟩ := trod_RP (w := W) (I := (oldGh W).I) (fun _ _ _ h => h) kids hL n t _ _ h1 (hts t (by simp)) hw1
    have hok := hval 0 t v rfl rfl
    have key : RA (oldGh W) W .ret (argOf Tryz.prog t pv) v ∧ isOwn (argOf Tryz.prog t pv) = false := by
      unfold argOf
      split
      · rename_i fs hu
        refine ⟨?_, rfl⟩
        unfold Value.okWide at hok
        rw [hu] at hok
        obtain ⟨cs, rfl, _, _⟩ := hok
        exact ⟨cs.toList, by simp, All2.map_left (h7.imp fun _ _ _ h => h)⟩
      · rename_i hns
        have hnarr : ∀ m e, Tryz.prog.underlying t ≠ some (.array m e) := fun m e hu => by
          have := List.all_eq_true.1 hL t (hts t (by simp))
          rw [hu] at this
          simp at this
        rw [ok_one hok ⟨fun fs => hns fs, hnarr⟩] at h7
        cases h7 with
        | cons ha hb =>
          cases hb
          exact ⟨ha, rfl⟩
    refine ⟨pv :: pss, .cons ⟨n, h6⟩ h3, .cons key.1 h4, fun x hx => ?_⟩
    simp only [List.zipWith_cons_cons, List.mem_cons] at hx
    rcases hx with rfl | hx
    · exact key.2
    · exact h5 x hx
theorem trodAll_len {W : World} {base : Nat} {sp : Nat → Bool} {held : Bool} : ∀ {ts : List TypeId} {vs : List Value} {ds : List (DataW H)} {ps : List MemPlace}, DataW.TrodAll enc Tryz.prog W base sp held ts vs ds ps → ds.length = ts.length
  | [], [], [], _, _ => rfl
  | _ :: _, _ :: _, _ :: _, _, ⟨_, _, _, h2, _⟩ => by simp [trodAll_len h2]
theorem trodAll_carry {W W' : World} {base : Nat} {sp : Nat → Bool} {held : Bool} : ∀ {ts : List TypeId} {vs : List Value} {ds : List (DataW H)} {ps : List MemPlace}, (∀ p ∈ ps, W.sameAt W' p) → DataW.TrodAll enc Tryz.prog W base sp held ts vs ds ps → DataW.TrodAll enc Tryz.prog W' base sp held ts vs ds ps
  | [], [], [], _, _, h => h
  | _ :: _, _ :: _, _ :: _, _, hs, ⟨p, q, ⟨n, h1⟩, h2, e⟩ => ⟨p, q, ⟨n, DataW.trod_carry n _ _ _ h1 fun x hx => hs x (by rw [e]; exact List.mem_append_left _ hx)⟩, trodAll_carry (fun x hx => hs x (by rw [e]; exact List.mem_append_right _ hx)) h2, e⟩
set_option maxRecDepth 100000 in
/-- WHAT A LAW's ROW ASKS, from the interpreter's answer. -/
theorem law_ok {f : FuncId} {fn : Func} {spec : ChangeSpec} {laid : List (String × DataW Unit)} {L : List TypeId} {W : World} {base : Nat} {args : Array Value} {ds gs : List (DataW H)} {before : List MemPlace}
    (hg : K.good f = true) (hL : flatSet Tryz.prog L = true) (hts : ∀ t ∈ fn.params.toList, t ∈ L) (hres : fn.resultTypes = #[4]) (hvars : spec.vars = []) (hspec : ∀ ds : List (DataW H), ds.length = fn.params.size → spec.fn H ds = { results := [.lit (.bool true)], args := ds })
    (hmem : ("internal/strconv.uint64pow10", Go.Proofs.YtjjeloinclmopaaGreatDoor.Rows.laid_internal_strconv_uint64pow10) ∈ laid) (hnoh : (laid.filter fun x => x.2.handleName?.isSome) = [])
    (hden : ∀ pss : List (List PV), All2 (fun t p => ∃ n, TyP Tryz.prog n t p) fn.params.toList pss → den K f (List.zipWith (argOf Tryz.prog) fn.params.toList pss) [] = some (.ret (.c (.pv (.bool true))) []))
    (hval : ∀ (j : Nat) t v, fn.params[j]? = some t → args[j]? = some v → Value.okWide Tryz.prog W .any base t v)
    (hW : DataW.Whole enc Tryz.prog fn.params.toList spec.vars false W args.toList ds gs before)
    (hwt : (DataW.weightsEach Tryz.prog fn.params.toList ds).all (· ≤ reachBytes) = true)
    (hLaid : laidMetH Tryz.prog laid W) (hsh : W.ShapedOpen Tryz.prog) :
    Calls Tryz.prog f args W fun e W' => ∃ v, e = .returned v ∧ spec.post enc Tryz.prog fn false true false false W args v W' := by
  have hW' := hW
  obtain ⟨p, q, hA, hV, rfl, hfz, hnd⟩ := hW
  rw [hvars] at hV
  have hgq : gs = [] ∧ q = [] := by
    cases gs with
    | nil => exact ⟨rfl, hV⟩
    | cons g gs => exact hV.elim
  obtain ⟨rfl, rfl⟩ := hgq
  have hlen := trodAll_len hA
  have hv2 : ∀ (j : Nat) (u : TypeId) (x : Value), fn.params.toList[j]? = some u → args.toList[j]? = some x → Value.okWide Tryz.prog W .any base u x := by
    intro j u x hj hx
    rw [Array.getElem?_toList] at hj hx
    exact hval j u x hj hx
  obtain ⟨pss, h1, h2, h3⟩ := args_ok (base := base) hL hA hts hv2 (fun m hm => by simpa using List.all_eq_true.1 hwt m hm)
  have hlm : laidMet Tryz.prog laid W := by
    unfold laidMetH at hLaid
    rw [hnoh] at hLaid
    exact hLaid
  have hwi := oldWI (tab_ok hlm hmem hsh)
  have hc := den_ok K_prog hg (hden pss h1) (oldGh W) W args.toList hwi h2 h3 (fun i l h => by simp at h) (fun s b h => by cases h)
  rw [Array.toArray_toList] at hc
  refine hc.mono fun e W' ⟨G', hx, hw', v, he, hv, _⟩ => ?_
  subst he
  have hv' : v = .bool true := RA.boolv hv
  subst hv'
  refine ⟨_, rfl, ?_⟩
  have hold : ∀ b, b < W.heap.size → W'.heap[b]? = W.heap[b]? := fun b hb => (hx.old b hb rfl).2.1
  have hds : spec.fn H (ds ++ []) = { results := [.lit (.bool true)], args := ds } := by
    rw [List.append_nil]
    exact hspec ds (by rw [hlen]; simp)
  refine post_of_old (pa := p) (pv := []) hW' (fun b sp hd => ?_) (fun sp hsp => ?_) (fun sp hsp => ?_) rfl (keptBut_of_old hx.os hx.output hold _) (fun a ha => ?_) ?_
  · rw [hds, hres]
    exact trodAll_cons_mk (shut_bool (by kernel_rfl) _) trodAll_mk0
  · rw [hds]
    have hT : ∀ t ∈ fn.params.toList, t < Tryz.prog.types.size := fun t ht => by
      have := List.all_eq_true.1 hL t (hts t ht)
      simp only [Bool.and_eq_true, decide_eq_true_eq] at this
      exact this.1
    have := DataW.TrodAll.respare (spare' := sp) kids slices_full hT hA (fun y hy => hsp y (by simpa using hy))
    refine trodAll_carry (fun y hy => ?_) this
    have hlt : y.block < W.heap.size := DataW.TrodAll.lt hA y hy
    cases y with
    | cell b off =>
      show W'.cell? ⟨b, off, none⟩ = W.cell? ⟨b, off, none⟩
      unfold World.cell?
      rw [hold b hlt]
    | map b => exact hold b hlt
  · rw [hds, hvars]
    rfl
  · unfold World.frozen?
    rw [hold a.block ha]
  · rw [hres]
    intro j t r hj hr
    have hj0 : j = 0 := by
      rcases Nat.eq_zero_or_pos j with h | h
      · exact h
      · rw [Array.getElem?_eq_none (by simp; omega)] at hj; cases hj
    subst hj0
    simp at hj
    subst hj
    have hr0 : r = .bool true := by
      have : ((Value.bool true).resultList 1)[0]? = some r := by simpa using hr
      simp [Value.resultList] at this
      exact this.symm
    subst hr0
    exact okWide_bool_mk (by kernel_rfl) _
end
end Go.Abs
namespace Go.Abs
open Go Go.Proofs
def fieldTys (P : Program) (t : TypeId) : Option (List (TypeId × Nat × Nat)) :=
  match P.underlying t with
  | some (.struct fs) => some (fs.toList.map fun f => (f.type, f.offset, P.cellsOf f.type))
  | _ => none
section
variable {P : Program} {t e : TypeId} {n : Nat} {ps : List PV}
theorem TyP_int {k : IntKind} (h : descOf P t = some (.int k)) (hp : TyP P n t ps) : ∃ z, ps = [.int k z] ∧ (Lit.int k z).wf = true := by
  cases n with
  | zero => exact hp.elim
  | succ n => unfold TyP at hp; rw [desc_int h] at hp; exact hp
theorem TyP_str (h : descOf P t = some .str) (hp : TyP P n t ps) : ∃ s, ps = [.str s] ∧ s.length ≤ reachBytes := by
  cases n with
  | zero => exact hp.elim
  | succ n => unfold TyP at hp; rw [desc_str h] at hp; exact hp
theorem TyP_sl {b : Bool} (h : descOf P t = some (.sl e b)) (hp : TyP P n t ps) : ∃ m c, n = m + 1 ∧ ps = [.sl c] ∧ c.length ≤ reachBytes ∧ ∀ el ∈ c, TyP P m e el := by
  cases n with
  | zero => exact hp.elim
  | succ n =>
    unfold TyP at hp
    rw [(desc_sl h).1] at hp
    obtain ⟨c, h1, h2, h3⟩ := hp
    exact ⟨n, c, rfl, h1, h2, h3⟩
theorem TyP_struct {l : List (TypeId × Nat × Nat)} {sz : Nat} (h : fieldTys P t = some l) (hs : P.cellsOf t = sz) (hp : TyP P n t ps) : ∃ m, n = m + 1 ∧ ps.length = sz ∧ ∀ (i : Nat) (x : TypeId × Nat × Nat), l[i]? = some x → TyP P m x.1 ((ps.drop x.2.1).take x.2.2) := by
  cases n with
  | zero => exact hp.elim
  | succ n =>
    unfold fieldTys at h
    split at h
    case h_2 => cases h
    rename_i fs hu
    cases h
    unfold TyP at hp
    rw [hu] at hp
    obtain ⟨h1, h2⟩ := hp
    refine ⟨n, rfl, by rw [h1, hs], fun i x hx => ?_⟩
    rw [List.getElem?_map, Option.map_eq_some_iff] at hx
    obtain ⟨f, hf, rfl⟩ := hx
    exact h2 i f (by simpa using hf)
theorem list_of {α : Type} {f : α → List PV} {Q : α → Prop} : ∀ {c : List (List PV)}, (∀ el ∈ c, ∃ x, el = f x ∧ Q x) → ∃ l : List α, c = l.map f ∧ ∀ x ∈ l, Q x
  | [], _ => ⟨[], rfl, by simp⟩
  | el :: c, h => by
    obtain ⟨x, rfl, hx⟩ := h el (by simp)
    obtain ⟨l, rfl, hl⟩ := list_of (c := c) fun y hy => h y (by simp [hy])
    exact ⟨x :: l, rfl, fun y hy => by
      rcases List.mem_cons.1 hy with rfl | hy
      · exact hx
      · exact hl y hy⟩
theorem wf_I64 {z : Int} (h : (Lit.int .i64 z).wf = true) : I64 z := by
  simp only [Lit.wf, Bool.and_eq_true, decide_eq_true_eq] at h
  exact h
end
theorem len3p {α : Type} {l : List α} (h : l.length = 3) : ∃ a b c, l = [a, b, c] := by
  match l, h with
  | [a, b, c], _ => exact ⟨a, b, c, rfl⟩
end Go.Abs
namespace Go.Abs
open Go Go.Proofs
set_option maxRecDepth 100000
theorem ft_tok : fieldTys Tryz.prog 47 = some [(3, 0, 1), (9, 1, 1), (3, 2, 1)] := by kernel_rfl
def Tok.Ok (t : Tok) : Prop := I64 t.kind ∧ I64 t.n ∧ t.text.length ≤ reachBytes
theorem ty_tok {n : Nat} {ps : List PV} (hp : TyP Tryz.prog n 47 ps) : ∃ x : Tok, ps = x.enc ∧ x.Ok := by
  obtain ⟨m, rfl, hl, hf⟩ := TyP_struct (sz := 3) ft_tok (by kernel_rfl) hp
  obtain ⟨p0, p1, p2, rfl⟩ := len3p hl
  obtain ⟨k, hk, hkw⟩ := TyP_int ty_descOf_3 (hf 0 _ rfl)
  obtain ⟨s, hs, hsl⟩ := TyP_str ty_descOf_9 (hf 1 _ rfl)
  obtain ⟨a, ha, haw⟩ := TyP_int ty_descOf_3 (hf 2 _ rfl)
  simp at hk hs ha
  subst hk; subst hs; subst ha
  exact ⟨⟨k, s, a⟩, rfl, wf_I64 hkw, wf_I64 haw, hsl⟩
theorem args2 {t u : TypeId} {pss : List (List PV)} {Q : Prop} (h : All2 (fun t p => ∃ n, TyP Tryz.prog n t p) [t, u] pss) (hq : ∀ n m p q, TyP Tryz.prog n t p → TyP Tryz.prog m u q → pss = [p, q] → Q) : Q := by
  cases h with
  | cons h1 h =>
  cases h with
  | cons h2 h =>
  cases h
  obtain ⟨n, h1⟩ := h1
  obtain ⟨m, h2⟩ := h2
  exact hq n m _ _ h1 h2 rfl
end Go.Abs
namespace Go.Abs
open Go Go.Proofs
set_option maxRecDepth 100000
theorem len5 {α : Type} {l : List α} (h : l.length = 5) : ∃ a b c d e, l = [a, b, c, d, e] := by
  match l, h with
  | [a, b, c, d, e], _ => exact ⟨a, b, c, d, e, rfl⟩
theorem ft_val : fieldTys Tryz.prog 49 = some [(3, 0, 1), (47, 1, 3), (22, 4, 1)] := by kernel_rfl
theorem allT_of {p : Tok → Prop} : ∀ {l : List Val}, (∀ v ∈ l, Ne.allV p v) → Ne.allT p l
  | [], _ => by rw [Ne.allT]; trivial
  | v :: l, h => by
    rw [Ne.allT]
    exact ⟨h v (by simp), allT_of fun x hx => h x (by simp [hx])⟩
theorem ty_val : ∀ (n : Nat) (ps : List PV), TyP Tryz.prog n 49 ps → ∃ x : Val, ps = x.enc ∧ Ne.allV (fun t => I64 t.n) x := by
  intro n
  induction n using Nat.strongRecOn with
  | _ n ih =>
    intro ps hp
    obtain ⟨m, rfl, hl, hf⟩ := TyP_struct (sz := 5) ft_val (by kernel_rfl) hp
    obtain ⟨p0, p1, p2, p3, p4, rfl⟩ := len5 hl
    obtain ⟨k, hk, hkw⟩ := TyP_int ty_descOf_3 (hf 0 _ rfl)
    obtain ⟨t, ht, hto⟩ := ty_tok (hf 1 _ rfl)
    obtain ⟨j, c, rfl, hc, hcl, hce⟩ := TyP_sl ty_descOf_22 (hf 2 _ rfl)
    obtain ⟨l, rfl, hlo⟩ := list_of (f := Val.enc) (Q := Ne.allV (fun t => I64 t.n)) fun el hel => ih j (by omega) el (hce el hel)
    simp [Tok.enc] at hk ht hc
    subst hk; subst hc
    obtain ⟨rfl, rfl, rfl⟩ := ht
    refine ⟨.mk k t l, ?_, ?_⟩
    · rw [Val.enc, encL_map]
    · rw [Ne.allV]
      exact ⟨hto.2.1, allT_of hlo⟩
theorem ty_vals {n : Nat} {ps : List PV} (hp : TyP Tryz.prog n 22 ps) : ∃ l : List Val, ps = [.sl (encL l)] ∧ Ne.allT (fun t => I64 t.n) l := by
  obtain ⟨j, c, rfl, rfl, hcl, hce⟩ := TyP_sl ty_descOf_22 hp
  obtain ⟨l, rfl, hlo⟩ := list_of (f := Val.enc) (Q := Ne.allV (fun t => I64 t.n)) fun el hel => ty_val j el (hce el hel)
  exact ⟨l, by rw [encL_map], allT_of hlo⟩
theorem argOf_vals (p : PV) : argOf Tryz.prog 22 [p] = .c (.pv p) := by
  unfold argOf; rw [Tryz.underlying22]
end Go.Abs
namespace Go.Abs
open Go Go.Proofs
set_option maxRecDepth 100000
def flatD : List TypeId := [4, 3, 9, 47, 90, 49, 22, 44, 23]
theorem flatD_ok : flatSet Tryz.prog flatD = true := by kernel_rfl
end Go.Abs
namespace Go.Abs
open Go Go.Proofs
set_option maxRecDepth 100000
theorem DeclsApart_args (pss : List (List PV)) (h : All2 (fun t p => ∃ n, TyP Tryz.prog n t p) Tryz.f5.params.toList pss) :
    den K 5 (List.zipWith (argOf Tryz.prog) Tryz.f5.params.toList pss) [] = some (.ret (.c (.pv (.bool true))) []) := by
  have hp : Tryz.f5.params.toList = [22, 22] := rfl
  rw [hp] at h ⊢
  refine args2 h fun n m p q h1 h2 e => ?_
  subst e
  obtain ⟨a, rfl, _⟩ := ty_vals h1
  obtain ⟨b, rfl, _⟩ := ty_vals h2
  simp only [List.zipWith_cons_cons, List.zipWith_nil_left, argOf_vals]
  exact DeclsApart_den a b
end Go.Abs
