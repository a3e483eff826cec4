/-
  WHAT THE FUNCTIONS COMPUTE, layer 1: the scanner's number.
-/
import Derived.Test.YtegabgmehebimaaDoorQJ
set_option linter.unusedSimpArgs false
set_option linter.unusedVariables false
namespace Go.Abs
open Go Go.Proofs
set_option maxRecDepth 10000
attribute [local go_sem] exL_seq exL_region exL_cond exL_block exL_scope exL_ret exL_skip exL_exit runRegion runOps stepOp guardA absOp takeOver opd avOf cvOf St.degAt St.put okPV okVal okAV absBin intBin strBin boolBin setBoxes if_true Bool.false_eq_true if_false Option.map_some Option.map_none Option.bind_some Option.bind_none thenO outOf upd List.toList_toArray isOwn steal appArgs inApps AV.deg CV.deg AV.gv AV.isIter absNext some_bne List.length_nil List.length_cons List.filterMap_cons List.filterMap_nil beq_iff_eq List.getElem?_cons_zero List.getElem?_cons_succ Option.getD_some K_hook hookB Bool.false_and Bool.and_false Bool.and_self K_P K_own absCall doCall getBoxes lend back idx dedup AV.ren CV.ren TV.ren AV.ptrs CV.ptrs zipBox AV.flat CV.flat absLoad absStore cellsOfAV setAt newBox markB bldTypes absFieldAddr absField absExtract absAssert noAssert absMkIface ifcOf CV.pv? content pushHead ownT fillCells reps pvs chunks enterSt leave resOf resVars resVar outBoxes lentOnly TV.deg TV.av LK CV.plain CV.noBld nilBin absUn bound List.map_cons List.map_nil List.all_cons List.all_nil List.any_cons List.any_nil List.contains_cons List.contains_nil List.elem_cons List.elem_nil List.cons_append List.nil_append List.append_nil List.flatMap_cons List.flatMap_nil List.zip_cons_cons List.zip_nil_left List.zip_nil_right List.take_succ_cons List.take_zero List.take_nil List.drop_succ_cons List.drop_zero List.drop_nil List.isEmpty_nil List.isEmpty_cons Bool.and_true Bool.true_and Bool.or_true Bool.true_or Bool.or_false Bool.false_or Bool.not_true Bool.not_false Nat.add_zero Nat.zero_add Option.isNone_none Option.isNone_some Option.getD_none true_and and_true not_true_eq_false not_false_eq_true decide_true decide_false Nat.le_refl and_self Bool.not_eq_true Nat.sub_self or_true true_or Option.some.injEq List.length_map List.nil_eq and_false false_and AV.live CV.live CV.liveIn K_keep firstReg Option.orElse_some Option.orElse_none head keepSlots keepBoxes Int.lt_irrefl List.length_append ite_self memOK logOps opKey lentBoxes Key.clash Key.sees Key.writes Nat.lt_irrefl gt_iff_lt nobox_at bot_at false_or or_false beq_self_eq_true Bool.true_beq Bool.false_beq

def TS.live' : TS → TS
  | .nils => .live
  | x => x
theorem TS.live_toks (x : TS) : x.live'.toks = x.toks := by cases x <;> rfl
theorem cell_live (bs : List Nat) (x : TS) : x.cell.live bs = x.live'.cell := by cases x <;> rfl

abbrev numH (s : List UInt8) (et : Nat) (ct : List (List PV)) (from_ e : Nat) (d : List UInt8) (n : Int) (i : Nat) : St :=
  { sl := upd (upd (upd (upd (upd bot 29 (.c (.iter d i))) 4 (I n)) 3 (I e)) 2 (I from_)) 0 P0, bx := upd nobox 100000 (some [.pv (.str s), .own et ct]), nt := 72 }

theorem min_law (v : Int) : (if (999999999 : Int) < v then (999999999 : Int) else v) = min v 999999999 := by
  split <;> omega

theorem live_live' (x : TS) : x.live'.live' = x.live' := by cases x <;> rfl

theorem num_loop (s : List UInt8) (et : Nat) (ct : List (List PV)) (from_ e : Nat) (d : List UInt8) (hd : ∀ b ∈ d, Tk.digit b = true) : ∀ (rest : List UInt8) (i : Nat) (n : Int), d.drop i = rest → i ≤ d.length → 0 ≤ n → n ≤ 999999999 →
    Ends (exL K 73 (.loop (loopAt Tryd.f73 6)) (numH s et ct from_ e d n i)) fun o S => o = .exit 0 ∧ S.sl 0 = P0 ∧ S.sl 2 = I from_ ∧ S.sl 3 = I e ∧ S.sl 4 = I (Tk.num n rest) ∧ S.nt = 72 ∧ S.bx = upd nobox 100000 (some [.pv (.str s), .own et ct]) := by
  intro rest
  induction rest with
  | nil =>
    intro i n hr hi h0 h1
    have hin : i = d.length := by
      have := List.drop_eq_nil_iff.1 hr
      omega
    subst hin
    have hlt : (d.length < d.length) = False := by simp
    conv in loopAt _ _ => whnf
    rw [exL_loop]
    simp only [go_sem, Nat.reduceLT, reduceIte, reduceCtorEq, Nat.reduceEqDiff, apply_ite (Option.map (outOf _)), Nat.reduceBEq, Nat.reduceAdd, Nat.reduceSub, Nat.reduceLeDiff, Nat.reduceMul, ty_fieldOff_84_0, ty_szOf_82, ty_shapeT_82, good_62, good_69, ev_slice_str ty_descOf_82, ev_range ty_descOf_82, ev_conv_int ty_descOf_21 ty_descOf_3, good_63, good_68, keep_73_6, ends_some, hlt, Tk.num]
  | cons c rest ih =>
    intro i n hr hi h0 h1
    obtain ⟨g1, g2, g3⟩ := drop_cons hr
    have hc : Tk.digit c = true := hd c (List.mem_of_getElem? g1)
    have hcn : 48 ≤ c.toNat ∧ c.toNat ≤ 57 := by simpa [Tk.digit] using hc
    obtain ⟨r, wd, hdec, hw1, hw2, hr2, hcase⟩ := decode_at d i g3
    have hrc : r = c.toNat ∧ wd = 1 := by
      rcases hcase with ⟨_, hw, b, hb, hbr⟩ | ⟨_, hall⟩
      · rw [g1] at hb; cases hb; exact ⟨hbr.symm, hw⟩
      · have := hall i c (Nat.le_refl _) (by omega) g1; omega
    obtain ⟨rfl, rfl⟩ := hrc
    have hit : iterNext d i = i + 1 := by unfold iterNext; rw [hdec]
    have hlt : (i < d.length) = True := eq_true g3
    have w1 : IntKind.i64.wrap (10 * n) = 10 * n := IntWalk.i64_in _ (by omega)
    have w2 : IntKind.i32.wrap ((c.toNat : Int) - 48) = (c.toNat : Int) - 48 := IntWalk.i32_in _ (by omega)
    have w3 : IntKind.i64.wrap ((c.toNat : Int) - 48) = (c.toNat : Int) - 48 := IntWalk.i64_in _ (by omega)
    have w4 : IntKind.i64.wrap (10 * n + ((c.toNat : Int) - 48)) = 10 * n + ((c.toNat : Int) - 48) := IntWalk.i64_in _ (by omega)
    have hv : Tk.num n (c :: rest) = Tk.num (min (10 * n + ((c.toNat : Int) - 48)) 999999999) rest := by rw [Tk.num, if_pos hc]
    rw [hv]
    have ih' := ih (i + 1) (min (10 * n + ((c.toNat : Int) - 48)) 999999999) g2 (by omega) (by omega) (by omega)
    conv at ih' in loopAt _ _ => whnf
    conv in loopAt _ _ => whnf
    rw [exL_loop]
    simp only [go_sem, Nat.reduceLT, reduceIte, reduceCtorEq, Nat.reduceEqDiff, apply_ite (Option.map (outOf _)), Nat.reduceBEq, Nat.reduceAdd, Nat.reduceSub, Nat.reduceLeDiff, Nat.reduceMul, ty_fieldOff_84_0, ty_szOf_82, ty_shapeT_82, good_62, good_69, ev_slice_str ty_descOf_82, ev_range ty_descOf_82, ev_conv_int ty_descOf_21 ty_descOf_3, good_63, good_68, keep_73_6, hlt, hdec, hit, w1, w2, w3, w4, absMin, allInts, List.foldl_cons, List.foldl_nil, min_law]
    rw [exL_head]
    simp only [go_sem, Nat.reduceLT, reduceIte, reduceCtorEq, Nat.reduceEqDiff, apply_ite (Option.map (outOf _)), Nat.reduceBEq, Nat.reduceAdd, Nat.reduceSub, Nat.reduceLeDiff, Nat.reduceMul, ty_fieldOff_84_0, ty_szOf_82, ty_shapeT_82, good_62, good_69, ev_slice_str ty_descOf_82, ev_range ty_descOf_82, ev_conv_int ty_descOf_21 ty_descOf_3, good_63, good_68, keep_73_6]
    exact ih'

set_option maxHeartbeats 8000000 in
theorem number_den (s : List UInt8) (x : TS) (neg : Bool) (from_ : Nat) (l : List UInt8) (hf : from_ = if neg then 1 else 0) (hl : s.drop from_ = l) (hle : from_ ≤ s.length) (h45 : (Tk.at0 s == 45) = neg) (hs : s.length < 4000000000) (hx : x.toks.length < 4000000000) :
    den K 73 [P0] [scan s x] = some (.ret (.tup []) [scan (s.drop (from_ + (Tk.number neg l).2)) (.wr (x.toks ++ [(Tk.number neg l).1]))]) := by
  have d0 := at_den s 0 (by omega)
  rw [List.drop_zero] at d0
  have e45 : (((Tk.at0 s).toNat : Int) == 45) = neg := by rw [← h45]; exact u8_beq _ 45
  have hrun := run_den s (by omega) Tk.digit 72 good_72 rfl digit_den from_ hle
  rw [hl] at hrun
  have hrl := Tk.run_le (p := Tk.digit) l
  have hll : l.length = s.length - from_ := by rw [← hl, List.length_drop]
  have hnum := Tk.num_bound (l := l) (n := 0) (by omega) (by omega)
  have hdig := Tk.run_take (p := Tk.digit) l
  generalize hk : Tk.run Tk.digit l = k at hrun hrl hdig
  have hle2 : from_ + k ≤ s.length := by omega
  have hde : s.drop (from_ + k) = l.drop k := by rw [← List.drop_drop, hl]
  have dn := name_den s (by omega) (from_ + k) hle2
  have da := at_den s (from_ + k) (by omega)
  rw [hde] at dn da
  have hul := Tk.unit_le (l.drop k)
  rw [List.length_drop] at hul
  have e37 : (((Tk.at0 (l.drop k)).toNat : Int) == 37) = (Tk.at0 (l.drop k) == 37) := u8_beq _ 37
  have hnn : Tk.num 0 (l.take k) = Tk.num 0 l := by
    have : l = l.take k ++ l.drop k := (List.take_append_drop k l).symm
    conv => rhs; rw [this]
    rw [Tk.num_app hdig]
    exact (Tk.num_stop (n := Tk.num 0 (l.take k)) (by rw [← hk]; exact Tk.run_stop Tk.digit_zero l)).symm
  have hin := fun et ct => num_loop s et ct from_ (from_ + k) (l.take k) hdig (l.take k) 0 0 rfl (Nat.zero_le _) (by omega) (by omega)
  rw [hnn] at hin
  conv at hin in loopAt _ _ => whnf
  have hsub : (s.take (from_ + k)).drop from_ = l.take k := by rw [List.drop_take, hl]; congr 1; omega
  unfold Tk.number
  simp only [hk]
  rw [← Nat.add_assoc]
  generalize hu : Tk.unit (l.drop k) = u at hul
  have hput := fun v => put_den s x.live' (from_ + k + u) 5 ((l.drop k).take u) v (by omega) (by rw [TS.live_toks]; exact hx)
  rw [TS.live_toks] at hput
  have hsub2 : (s.take (from_ + k + u)).drop (from_ + k) = (l.drop k).take u := by rw [List.drop_take, hde]; congr 1; omega
  have b1 : ((0 : Int) ≤ ((from_ + k : Nat) : Int) ∧ ((from_ + k : Nat) : Int) ≤ (s.length : Int)) = True := eq_true (by omega)
  have b2 : ((0 : Int) ≤ (from_ : Int) ∧ (from_ : Int) ≤ ((from_ + k : Nat) : Int)) = True := eq_true (by omega)
  have b3 : ((0 : Int) ≤ ((from_ + k + u : Nat) : Int) ∧ ((from_ + k + u : Nat) : Int) ≤ (s.length : Int)) = True := eq_true (by omega)
  have b4 : ((0 : Int) ≤ ((from_ + k : Nat) : Int) ∧ ((from_ + k : Nat) : Int) ≤ ((from_ + k + u : Nat) : Int)) = True := eq_true (by omega)
  have w1 : IntKind.i64.wrap ((from_ : Int) + (k : Int)) = ((from_ + k : Nat) : Int) := by rw [IntWalk.i64_in _ (by omega)]; rfl
  have w2 : IntKind.i64.wrap (((from_ + k : Nat) : Int) + (u : Int)) = ((from_ + k + u : Nat) : Int) := by rw [IntWalk.i64_in _ (by omega)]; rfl
  have w3 : IntKind.i64.wrap (0 - Tk.num 0 l) = -Tk.num 0 l := by rw [IntWalk.i64_in _ (by omega)]; omega
  have t0 : Int.toNat 0 = 0 := rfl
  have t1 : Int.toNat 1 = 1 := rfl
  have z01 : ((0 : Int) = 1) = False := by simp
  have z0 : ((0 : Nat) : Int) = 0 := rfl
  have z1 : ((1 : Nat) : Int) = 1 := rfl
  have hu37 : (Tk.at0 (l.drop k) == 37) = false → Tk.name (l.drop k) = u := fun h => by
    rw [← hu, Tk.unit, if_neg (by simpa using h)]
  have hu1 : (Tk.at0 (l.drop k) == 37) = true → u = 1 := fun h => by
    rw [← hu, Tk.unit, if_pos (by simpa using h)]
  refine den_run rfl Tryd.func73 rfl Tryd.ntmps73 ⟨by simp, by simp [LK]⟩ ?_
  have hr : Tryd.f73.results = #[] := rfl
  cases neg
  all_goals (
    simp only [Bool.false_eq_true, if_true, if_false] at hf
    subst hf
    simp only [z0, z1, Nat.zero_add] at d0 hrun w1 b1 b2 b3 b4 w2 hin hsub hsub2 hput dn da hu37 hu1 e45
    first | (rw [List.drop_zero] at hl; subst hl) | skip
    cases x)
  · obtain ⟨o, S', e, rfl, f0, f2, f3, f4, fn, fb⟩ := hin 0 []
    simp only [TS.cell, TS.live', TS.toks, scan, List.map_append, List.map_cons, List.map_nil, Tok.enc, List.nil_append] at hput ⊢
    simp only [go_sem, Nat.reduceLT, reduceIte, reduceCtorEq, Nat.reduceEqDiff, apply_ite (Option.map (outOf _)), Nat.reduceBEq, Nat.reduceAdd, Nat.reduceSub, Nat.reduceLeDiff, Nat.reduceMul, ty_fieldOff_84_0, ty_szOf_82, ty_shapeT_82, good_62, good_69, ev_slice_str ty_descOf_82, ev_range ty_descOf_82, ev_conv_int ty_descOf_21 ty_descOf_3, good_63, good_68, keep_73_6, d0, e45, hrun, w1, b1, b2, Int.toNat_natCast, hsub, z0, z1, t0, t1]
    rw [exL_head]
    simp only [go_sem, Nat.reduceLT, reduceIte, reduceCtorEq, Nat.reduceEqDiff, apply_ite (Option.map (outOf _)), Nat.reduceBEq, Nat.reduceAdd, Nat.reduceSub, Nat.reduceLeDiff, Nat.reduceMul, ty_fieldOff_84_0, ty_szOf_82, ty_shapeT_82, good_62, good_69, ev_slice_str ty_descOf_82, ev_range ty_descOf_82, ev_conv_int ty_descOf_21 ty_descOf_3, good_63, good_68, keep_73_6]
    erw [e]
    cases h37 : (Tk.at0 (s.drop k) == 37)
    · rw [h37] at e37
      rw [hu37 h37] at dn
      simp only [go_sem, Nat.reduceLT, reduceIte, reduceCtorEq, Nat.reduceEqDiff, apply_ite (Option.map (outOf _)), Nat.reduceBEq, Nat.reduceAdd, Nat.reduceSub, Nat.reduceLeDiff, Nat.reduceMul, ty_fieldOff_84_0, ty_szOf_82, ty_shapeT_82, good_62, good_69, ev_slice_str ty_descOf_82, ev_range ty_descOf_82, ev_conv_int ty_descOf_21 ty_descOf_3, good_63, good_68, keep_73_6, hr, z01, f0, f2, f3, f4, fn, fb, dn, da, e37, w2, w3, b3, b4, Int.toNat_natCast, hsub2, hput]
    · rw [h37] at e37
      rw [hu1 h37] at w2 b3 b4 hput hsub2 ⊢
      simp only [z1] at w2
      simp only [go_sem, Nat.reduceLT, reduceIte, reduceCtorEq, Nat.reduceEqDiff, apply_ite (Option.map (outOf _)), Nat.reduceBEq, Nat.reduceAdd, Nat.reduceSub, Nat.reduceLeDiff, Nat.reduceMul, ty_fieldOff_84_0, ty_szOf_82, ty_shapeT_82, good_62, good_69, ev_slice_str ty_descOf_82, ev_range ty_descOf_82, ev_conv_int ty_descOf_21 ty_descOf_3, good_63, good_68, keep_73_6, hr, z01, f0, f2, f3, f4, fn, fb, dn, da, e37, w2, w3, b3, b4, Int.toNat_natCast, hsub2, hput]

  · obtain ⟨o, S', e, rfl, f0, f2, f3, f4, fn, fb⟩ := hin 0 []
    simp only [TS.cell, TS.live', TS.toks, scan, List.map_append, List.map_cons, List.map_nil, Tok.enc, List.nil_append] at hput ⊢
    simp only [go_sem, Nat.reduceLT, reduceIte, reduceCtorEq, Nat.reduceEqDiff, apply_ite (Option.map (outOf _)), Nat.reduceBEq, Nat.reduceAdd, Nat.reduceSub, Nat.reduceLeDiff, Nat.reduceMul, ty_fieldOff_84_0, ty_szOf_82, ty_shapeT_82, good_62, good_69, ev_slice_str ty_descOf_82, ev_range ty_descOf_82, ev_conv_int ty_descOf_21 ty_descOf_3, good_63, good_68, keep_73_6, d0, e45, hrun, w1, b1, b2, Int.toNat_natCast, hsub, z0, z1, t0, t1]
    rw [exL_head]
    simp only [go_sem, Nat.reduceLT, reduceIte, reduceCtorEq, Nat.reduceEqDiff, apply_ite (Option.map (outOf _)), Nat.reduceBEq, Nat.reduceAdd, Nat.reduceSub, Nat.reduceLeDiff, Nat.reduceMul, ty_fieldOff_84_0, ty_szOf_82, ty_shapeT_82, good_62, good_69, ev_slice_str ty_descOf_82, ev_range ty_descOf_82, ev_conv_int ty_descOf_21 ty_descOf_3, good_63, good_68, keep_73_6]
    erw [e]
    cases h37 : (Tk.at0 (s.drop k) == 37)
    · rw [h37] at e37
      rw [hu37 h37] at dn
      simp only [go_sem, Nat.reduceLT, reduceIte, reduceCtorEq, Nat.reduceEqDiff, apply_ite (Option.map (outOf _)), Nat.reduceBEq, Nat.reduceAdd, Nat.reduceSub, Nat.reduceLeDiff, Nat.reduceMul, ty_fieldOff_84_0, ty_szOf_82, ty_shapeT_82, good_62, good_69, ev_slice_str ty_descOf_82, ev_range ty_descOf_82, ev_conv_int ty_descOf_21 ty_descOf_3, good_63, good_68, keep_73_6, hr, z01, f0, f2, f3, f4, fn, fb, dn, da, e37, w2, w3, b3, b4, Int.toNat_natCast, hsub2, hput]
    · rw [h37] at e37
      rw [hu1 h37] at w2 b3 b4 hput hsub2 ⊢
      simp only [z1] at w2
      simp only [go_sem, Nat.reduceLT, reduceIte, reduceCtorEq, Nat.reduceEqDiff, apply_ite (Option.map (outOf _)), Nat.reduceBEq, Nat.reduceAdd, Nat.reduceSub, Nat.reduceLeDiff, Nat.reduceMul, ty_fieldOff_84_0, ty_szOf_82, ty_shapeT_82, good_62, good_69, ev_slice_str ty_descOf_82, ev_range ty_descOf_82, ev_conv_int ty_descOf_21 ty_descOf_3, good_63, good_68, keep_73_6, hr, z01, f0, f2, f3, f4, fn, fb, dn, da, e37, w2, w3, b3, b4, Int.toNat_natCast, hsub2, hput]

  · rename_i lt
    obtain ⟨o, S', e, rfl, f0, f2, f3, f4, fn, fb⟩ := hin 38 (lt.map Tok.enc)
    simp only [TS.cell, TS.live', TS.toks, scan, List.map_append, List.map_cons, List.map_nil, Tok.enc, List.nil_append] at hput ⊢
    simp only [go_sem, Nat.reduceLT, reduceIte, reduceCtorEq, Nat.reduceEqDiff, apply_ite (Option.map (outOf _)), Nat.reduceBEq, Nat.reduceAdd, Nat.reduceSub, Nat.reduceLeDiff, Nat.reduceMul, ty_fieldOff_84_0, ty_szOf_82, ty_shapeT_82, good_62, good_69, ev_slice_str ty_descOf_82, ev_range ty_descOf_82, ev_conv_int ty_descOf_21 ty_descOf_3, good_63, good_68, keep_73_6, d0, e45, hrun, w1, b1, b2, Int.toNat_natCast, hsub, z0, z1, t0, t1]
    rw [exL_head]
    simp only [go_sem, Nat.reduceLT, reduceIte, reduceCtorEq, Nat.reduceEqDiff, apply_ite (Option.map (outOf _)), Nat.reduceBEq, Nat.reduceAdd, Nat.reduceSub, Nat.reduceLeDiff, Nat.reduceMul, ty_fieldOff_84_0, ty_szOf_82, ty_shapeT_82, good_62, good_69, ev_slice_str ty_descOf_82, ev_range ty_descOf_82, ev_conv_int ty_descOf_21 ty_descOf_3, good_63, good_68, keep_73_6]
    erw [e]
    cases h37 : (Tk.at0 (s.drop k) == 37)
    · rw [h37] at e37
      rw [hu37 h37] at dn
      simp only [go_sem, Nat.reduceLT, reduceIte, reduceCtorEq, Nat.reduceEqDiff, apply_ite (Option.map (outOf _)), Nat.reduceBEq, Nat.reduceAdd, Nat.reduceSub, Nat.reduceLeDiff, Nat.reduceMul, ty_fieldOff_84_0, ty_szOf_82, ty_shapeT_82, good_62, good_69, ev_slice_str ty_descOf_82, ev_range ty_descOf_82, ev_conv_int ty_descOf_21 ty_descOf_3, good_63, good_68, keep_73_6, hr, z01, f0, f2, f3, f4, fn, fb, dn, da, e37, w2, w3, b3, b4, Int.toNat_natCast, hsub2, hput]
    · rw [h37] at e37
      rw [hu1 h37] at w2 b3 b4 hput hsub2 ⊢
      simp only [z1] at w2
      simp only [go_sem, Nat.reduceLT, reduceIte, reduceCtorEq, Nat.reduceEqDiff, apply_ite (Option.map (outOf _)), Nat.reduceBEq, Nat.reduceAdd, Nat.reduceSub, Nat.reduceLeDiff, Nat.reduceMul, ty_fieldOff_84_0, ty_szOf_82, ty_shapeT_82, good_62, good_69, ev_slice_str ty_descOf_82, ev_range ty_descOf_82, ev_conv_int ty_descOf_21 ty_descOf_3, good_63, good_68, keep_73_6, hr, z01, f0, f2, f3, f4, fn, fb, dn, da, e37, w2, w3, b3, b4, Int.toNat_natCast, hsub2, hput]

  · obtain ⟨o, S', e, rfl, f0, f2, f3, f4, fn, fb⟩ := hin 0 []
    simp only [TS.cell, TS.live', TS.toks, scan, List.map_append, List.map_cons, List.map_nil, Tok.enc, List.nil_append] at hput ⊢
    simp only [go_sem, Nat.reduceLT, reduceIte, reduceCtorEq, Nat.reduceEqDiff, apply_ite (Option.map (outOf _)), Nat.reduceBEq, Nat.reduceAdd, Nat.reduceSub, Nat.reduceLeDiff, Nat.reduceMul, ty_fieldOff_84_0, ty_szOf_82, ty_shapeT_82, good_62, good_69, ev_slice_str ty_descOf_82, ev_range ty_descOf_82, ev_conv_int ty_descOf_21 ty_descOf_3, good_63, good_68, keep_73_6, d0, e45, hrun, w1, b1, b2, Int.toNat_natCast, hsub, z0, z1, t0, t1]
    rw [exL_head]
    simp only [go_sem, Nat.reduceLT, reduceIte, reduceCtorEq, Nat.reduceEqDiff, apply_ite (Option.map (outOf _)), Nat.reduceBEq, Nat.reduceAdd, Nat.reduceSub, Nat.reduceLeDiff, Nat.reduceMul, ty_fieldOff_84_0, ty_szOf_82, ty_shapeT_82, good_62, good_69, ev_slice_str ty_descOf_82, ev_range ty_descOf_82, ev_conv_int ty_descOf_21 ty_descOf_3, good_63, good_68, keep_73_6]
    erw [e]
    cases h37 : (Tk.at0 (l.drop k) == 37)
    · rw [h37] at e37
      rw [hu37 h37] at dn
      simp only [go_sem, Nat.reduceLT, reduceIte, reduceCtorEq, Nat.reduceEqDiff, apply_ite (Option.map (outOf _)), Nat.reduceBEq, Nat.reduceAdd, Nat.reduceSub, Nat.reduceLeDiff, Nat.reduceMul, ty_fieldOff_84_0, ty_szOf_82, ty_shapeT_82, good_62, good_69, ev_slice_str ty_descOf_82, ev_range ty_descOf_82, ev_conv_int ty_descOf_21 ty_descOf_3, good_63, good_68, keep_73_6, hr, z01, f0, f2, f3, f4, fn, fb, dn, da, e37, w2, w3, b3, b4, Int.toNat_natCast, hsub2, hput]
    · rw [h37] at e37
      rw [hu1 h37] at w2 b3 b4 hput hsub2 ⊢
      simp only [z1] at w2
      simp only [go_sem, Nat.reduceLT, reduceIte, reduceCtorEq, Nat.reduceEqDiff, apply_ite (Option.map (outOf _)), Nat.reduceBEq, Nat.reduceAdd, Nat.reduceSub, Nat.reduceLeDiff, Nat.reduceMul, ty_fieldOff_84_0, ty_szOf_82, ty_shapeT_82, good_62, good_69, ev_slice_str ty_descOf_82, ev_range ty_descOf_82, ev_conv_int ty_descOf_21 ty_descOf_3, good_63, good_68, keep_73_6, hr, z01, f0, f2, f3, f4, fn, fb, dn, da, e37, w2, w3, b3, b4, Int.toNat_natCast, hsub2, hput]

  · obtain ⟨o, S', e, rfl, f0, f2, f3, f4, fn, fb⟩ := hin 0 []
    simp only [TS.cell, TS.live', TS.toks, scan, List.map_append, List.map_cons, List.map_nil, Tok.enc, List.nil_append] at hput ⊢
    simp only [go_sem, Nat.reduceLT, reduceIte, reduceCtorEq, Nat.reduceEqDiff, apply_ite (Option.map (outOf _)), Nat.reduceBEq, Nat.reduceAdd, Nat.reduceSub, Nat.reduceLeDiff, Nat.reduceMul, ty_fieldOff_84_0, ty_szOf_82, ty_shapeT_82, good_62, good_69, ev_slice_str ty_descOf_82, ev_range ty_descOf_82, ev_conv_int ty_descOf_21 ty_descOf_3, good_63, good_68, keep_73_6, d0, e45, hrun, w1, b1, b2, Int.toNat_natCast, hsub, z0, z1, t0, t1]
    rw [exL_head]
    simp only [go_sem, Nat.reduceLT, reduceIte, reduceCtorEq, Nat.reduceEqDiff, apply_ite (Option.map (outOf _)), Nat.reduceBEq, Nat.reduceAdd, Nat.reduceSub, Nat.reduceLeDiff, Nat.reduceMul, ty_fieldOff_84_0, ty_szOf_82, ty_shapeT_82, good_62, good_69, ev_slice_str ty_descOf_82, ev_range ty_descOf_82, ev_conv_int ty_descOf_21 ty_descOf_3, good_63, good_68, keep_73_6]
    erw [e]
    cases h37 : (Tk.at0 (l.drop k) == 37)
    · rw [h37] at e37
      rw [hu37 h37] at dn
      simp only [go_sem, Nat.reduceLT, reduceIte, reduceCtorEq, Nat.reduceEqDiff, apply_ite (Option.map (outOf _)), Nat.reduceBEq, Nat.reduceAdd, Nat.reduceSub, Nat.reduceLeDiff, Nat.reduceMul, ty_fieldOff_84_0, ty_szOf_82, ty_shapeT_82, good_62, good_69, ev_slice_str ty_descOf_82, ev_range ty_descOf_82, ev_conv_int ty_descOf_21 ty_descOf_3, good_63, good_68, keep_73_6, hr, z01, f0, f2, f3, f4, fn, fb, dn, da, e37, w2, w3, b3, b4, Int.toNat_natCast, hsub2, hput]
    · rw [h37] at e37
      rw [hu1 h37] at w2 b3 b4 hput hsub2 ⊢
      simp only [z1] at w2
      simp only [go_sem, Nat.reduceLT, reduceIte, reduceCtorEq, Nat.reduceEqDiff, apply_ite (Option.map (outOf _)), Nat.reduceBEq, Nat.reduceAdd, Nat.reduceSub, Nat.reduceLeDiff, Nat.reduceMul, ty_fieldOff_84_0, ty_szOf_82, ty_shapeT_82, good_62, good_69, ev_slice_str ty_descOf_82, ev_range ty_descOf_82, ev_conv_int ty_descOf_21 ty_descOf_3, good_63, good_68, keep_73_6, hr, z01, f0, f2, f3, f4, fn, fb, dn, da, e37, w2, w3, b3, b4, Int.toNat_natCast, hsub2, hput]

  · rename_i lt
    obtain ⟨o, S', e, rfl, f0, f2, f3, f4, fn, fb⟩ := hin 38 (lt.map Tok.enc)
    simp only [TS.cell, TS.live', TS.toks, scan, List.map_append, List.map_cons, List.map_nil, Tok.enc, List.nil_append] at hput ⊢
    simp only [go_sem, Nat.reduceLT, reduceIte, reduceCtorEq, Nat.reduceEqDiff, apply_ite (Option.map (outOf _)), Nat.reduceBEq, Nat.reduceAdd, Nat.reduceSub, Nat.reduceLeDiff, Nat.reduceMul, ty_fieldOff_84_0, ty_szOf_82, ty_shapeT_82, good_62, good_69, ev_slice_str ty_descOf_82, ev_range ty_descOf_82, ev_conv_int ty_descOf_21 ty_descOf_3, good_63, good_68, keep_73_6, d0, e45, hrun, w1, b1, b2, Int.toNat_natCast, hsub, z0, z1, t0, t1]
    rw [exL_head]
    simp only [go_sem, Nat.reduceLT, reduceIte, reduceCtorEq, Nat.reduceEqDiff, apply_ite (Option.map (outOf _)), Nat.reduceBEq, Nat.reduceAdd, Nat.reduceSub, Nat.reduceLeDiff, Nat.reduceMul, ty_fieldOff_84_0, ty_szOf_82, ty_shapeT_82, good_62, good_69, ev_slice_str ty_descOf_82, ev_range ty_descOf_82, ev_conv_int ty_descOf_21 ty_descOf_3, good_63, good_68, keep_73_6]
    erw [e]
    cases h37 : (Tk.at0 (l.drop k) == 37)
    · rw [h37] at e37
      rw [hu37 h37] at dn
      simp only [go_sem, Nat.reduceLT, reduceIte, reduceCtorEq, Nat.reduceEqDiff, apply_ite (Option.map (outOf _)), Nat.reduceBEq, Nat.reduceAdd, Nat.reduceSub, Nat.reduceLeDiff, Nat.reduceMul, ty_fieldOff_84_0, ty_szOf_82, ty_shapeT_82, good_62, good_69, ev_slice_str ty_descOf_82, ev_range ty_descOf_82, ev_conv_int ty_descOf_21 ty_descOf_3, good_63, good_68, keep_73_6, hr, z01, f0, f2, f3, f4, fn, fb, dn, da, e37, w2, w3, b3, b4, Int.toNat_natCast, hsub2, hput]
    · rw [h37] at e37
      rw [hu1 h37] at w2 b3 b4 hput hsub2 ⊢
      simp only [z1] at w2
      simp only [go_sem, Nat.reduceLT, reduceIte, reduceCtorEq, Nat.reduceEqDiff, apply_ite (Option.map (outOf _)), Nat.reduceBEq, Nat.reduceAdd, Nat.reduceSub, Nat.reduceLeDiff, Nat.reduceMul, ty_fieldOff_84_0, ty_szOf_82, ty_shapeT_82, good_62, good_69, ev_slice_str ty_descOf_82, ev_range ty_descOf_82, ev_conv_int ty_descOf_21 ty_descOf_3, good_63, good_68, keep_73_6, hr, z01, f0, f2, f3, f4, fn, fb, dn, da, e37, w2, w3, b3, b4, Int.toNat_natCast, hsub2, hput]

end Go.Abs
