/-
  WHAT THE DOCUMENT'S ANSWER COMPUTES, layer 1: classes of bytes, names, comments, strings.
  WHAT THE DOCUMENT'S ANSWER COMPUTES, layer 1: strings, numbers.
-/
import Derived.Test.YtmcjabhnmealgaaDoorQJ
set_option linter.unusedSimpArgs false
set_option linter.unusedVariables false
namespace Go.Abs
open Go Go.Proofs
set_option maxRecDepth 10000
attribute [local go_sem] exL_seq exL_region exL_cond exL_block exL_scope exL_ret exL_skip exL_exit runRegion runOps stepOp guardA absOp takeOver opd avOf cvOf St.degAt St.put okPV okVal okAV absBin intBin strBin boolBin setBoxes if_true Bool.false_eq_true if_false Option.map_some Option.map_none Option.bind_some Option.bind_none thenO outOf upd List.toList_toArray isOwn steal appArgs inApps AV.deg CV.deg AV.gv AV.isIter absNext some_bne List.length_nil List.length_cons List.filterMap_cons List.filterMap_nil beq_iff_eq List.getElem?_cons_zero List.getElem?_cons_succ Option.getD_some K_hook hookB Bool.false_and Bool.and_false Bool.and_self K_P K_own absCall doCall getBoxes lend back idx dedup AV.ren CV.ren TV.ren AV.ptrs CV.ptrs zipBox AV.flat CV.flat absLoad absStore cellsOfAV setAt newBox markB bldTypes absFieldAddr absField absExtract absAssert noAssert absMkIface ifcOf CV.pv? content pushHead ownT fillCells reps pvs chunks enterSt leave resOf resVars resVar outBoxes lentOnly TV.deg TV.av LK CV.plain CV.noBld nilBin absUn bound List.map_cons List.map_nil List.all_cons List.all_nil List.any_cons List.any_nil List.contains_cons List.contains_nil List.elem_cons List.elem_nil List.cons_append List.nil_append List.append_nil List.flatMap_cons List.flatMap_nil List.zip_cons_cons List.zip_nil_left List.zip_nil_right List.take_succ_cons List.take_zero List.take_nil List.drop_succ_cons List.drop_zero List.drop_nil List.isEmpty_nil List.isEmpty_cons Bool.and_true Bool.true_and Bool.or_true Bool.true_or Bool.or_false Bool.false_or Bool.not_true Bool.not_false Nat.add_zero Nat.zero_add Option.isNone_none Option.isNone_some Option.getD_none true_and and_true not_true_eq_false not_false_eq_true decide_true decide_false Nat.le_refl and_self Bool.not_eq_true Nat.sub_self or_true true_or Option.some.injEq List.length_map List.nil_eq and_false false_and AV.live CV.live CV.liveIn K_keep firstReg Option.orElse_some Option.orElse_none head keepSlots keepBoxes Int.lt_irrefl List.length_append ite_self memOK logOps opKey lentBoxes Key.clash Key.sees Key.writes Nat.lt_irrefl gt_iff_lt nobox_at bot_at false_or or_false beq_self_eq_true Bool.true_beq Bool.false_beq

/-! ### classes -/

def classI (c : UInt8) : Int := if Tk.begins c then 1 else if Tk.digit c then 2 else if c == 45 then 3 else if Tk.blank c then 4 else 0

def isI (v : Int) : Option Res → Bool
  | some (.ret (.c (.pv (.int .i64 n))) []) => n == v
  | _ => false
theorem isI_iff {v : Int} {r : Option Res} (h : isI v r = true) : r = some (.ret (I v) []) := by
  unfold isI at h
  split at h
  · rename_i n
    have : n = v := by simpa using h
    rw [this]
  · cases h

theorem class_all : (List.range 256).all (fun n => isI (classI (UInt8.ofNat n)) (callN K 5 63 [.c (.pv (.int .u8 (n : Nat)))] [])) = true := by kernel_rfl

theorem class_den (c : UInt8) : den K 63 [U c] [] = some (.ret (I (classI c)) []) := by
  have h := List.all_eq_true.1 class_all c.toNat (List.mem_range.2 c.toNat_lt)
  have h2 := isI_iff h
  rw [UInt8.ofNat_toNat] at h2
  exact den_iff.2 ⟨5, h2⟩

theorem class_facts_all : (List.range 256).all (fun n => let c := UInt8.ofNat n; ((classI c == 1) == Tk.begins c) && ((classI c == 2) == Tk.digit c) && ((classI c == 3) == (c == 45)) && ((classI c == 4) == Tk.blank c) && ((decide (1 ≤ classI c) && decide (classI c ≤ 3)) == Tk.within c)) = true := by kernel_rfl

theorem class_facts (c : UInt8) : (classI c == 1) = Tk.begins c ∧ (classI c == 2) = Tk.digit c ∧ (classI c == 3) = (c == 45) ∧ (classI c == 4) = Tk.blank c ∧ (decide (1 ≤ classI c) && decide (classI c ≤ 3)) = Tk.within c := by
  have h := List.all_eq_true.1 class_facts_all c.toNat (List.mem_range.2 c.toNat_lt)
  simp only [UInt8.ofNat_toNat, Bool.and_eq_true, beq_iff_eq] at h
  obtain ⟨⟨⟨⟨h1, h2⟩, h3⟩, h4⟩, h5⟩ := h
  exact ⟨h1, h2, h3, h4, h5⟩

/-- the class of the byte in front; -1: there is none -/
def atC : List UInt8 → Int
  | [] => -1
  | c :: _ => classI c

theorem atC_facts (l : List UInt8) : (atC l == 1) = Tk.begins (Tk.at0 l) ∧ (atC l == 2) = Tk.digit (Tk.at0 l) ∧ (atC l == 3) = (Tk.at0 l == 45) ∧ (atC l == 4) = Tk.blank (Tk.at0 l) ∧ (decide (1 ≤ atC l) && decide (atC l ≤ 3)) = Tk.within (Tk.at0 l) := by
  cases l with
  | nil => decide
  | cons c r => exact class_facts c

theorem at1_den (s : List UInt8) (i : Nat) (hs : s.length < 4000000000) : den K 47 [T s, I i] [] = some (.ret (I (atC (s.drop i))) []) := by
  refine den_run rfl Tryd.func47 rfl Tryd.ntmps47 ⟨by simp, by simp [LK]⟩ ?_
  have hr : Tryd.f47.results = #[.tmp 4] := rfl
  by_cases h : i < s.length
  · have hlt : decide ((i : Int) < (s.length : Int)) = true := decide_eq_true (by omega)
    have hd := List.drop_eq_getElem_cons h
    have hg : s[i]? = some (s[i]'h) := List.getElem?_eq_getElem h
    generalize s[i]'h = c at hd hg
    rw [hd, atC]
    have hc := class_den c
    simp only [go_sem, Nat.reduceLT, reduceIte, reduceCtorEq, Nat.reduceEqDiff, apply_ite (Option.map (outOf _)), Nat.reduceBEq, Nat.reduceAdd, Nat.reduceSub, Nat.reduceLeDiff, Nat.reduceMul, ev_len_str ty_descOf_9, ev_index ty_descOf_9, good_63, hr, hlt, Int.natCast_nonneg, Int.toNat_natCast, hg, hc]
  · have hlt : decide ((i : Int) < (s.length : Int)) = false := decide_eq_false (by omega)
    rw [List.drop_eq_nil_of_le (by omega), atC]
    simp only [go_sem, Nat.reduceLT, reduceIte, reduceCtorEq, Nat.reduceEqDiff, apply_ite (Option.map (outOf _)), Nat.reduceBEq, Nat.reduceAdd, Nat.reduceSub, Nat.reduceLeDiff, Nat.reduceMul, ev_len_str ty_descOf_9, ev_index ty_descOf_9, good_63, hr, hlt]

theorem Begins_den (s : List UInt8) (i : Nat) (hs : s.length < 4000000000) (hi : i ≤ s.length) : den K 50 [T s, I i] [] = some (.ret (B (Tk.nameB (s.drop i))) []) := by
  have d1 := at1_den s i hs
  have d2 := at1_den s (i + 1) hs
  obtain ⟨f1, _, f3, _, _⟩ := atC_facts (s.drop i)
  obtain ⟨g1, _, g3, _, _⟩ := atC_facts (s.drop (i + 1))
  have ht : (s.drop i).tail = s.drop (i + 1) := List.tail_drop
  unfold Tk.nameB
  rw [ht, ← f1, ← f3, ← g1, ← g3]
  generalize atC (s.drop i) = v at d1
  generalize atC (s.drop (i + 1)) = w at d2
  clear f1 f3 g1 g3 ht
  refine den_run rfl Tryd.func50 rfl Tryd.ntmps50 ⟨by simp, by simp [LK]⟩ ?_
  have hr : Tryd.f50.results = #[.tmp 4] := rfl
  cases b1 : (v == 1)
  · cases b3 : (v == 3)
    · simp only [go_sem, Nat.reduceLT, reduceIte, reduceCtorEq, Nat.reduceEqDiff, apply_ite (Option.map (outOf _)), Nat.reduceBEq, Nat.reduceAdd, Nat.reduceSub, Nat.reduceLeDiff, Nat.reduceMul, good_47, hr, d1, b1, b3]
    · cases c1 : (w == 1)
      · cases c3 : (w == 3) <;> simp only [go_sem, Nat.reduceLT, reduceIte, reduceCtorEq, Nat.reduceEqDiff, apply_ite (Option.map (outOf _)), Nat.reduceBEq, Nat.reduceAdd, Nat.reduceSub, Nat.reduceLeDiff, Nat.reduceMul, good_47, hr, d1, d2, b1, b3, c1, c3, wrap_nat i (by omega)]
      · simp only [go_sem, Nat.reduceLT, reduceIte, reduceCtorEq, Nat.reduceEqDiff, apply_ite (Option.map (outOf _)), Nat.reduceBEq, Nat.reduceAdd, Nat.reduceSub, Nat.reduceLeDiff, Nat.reduceMul, good_47, hr, d1, d2, b1, b3, c1, wrap_nat i (by omega)]
  · simp only [go_sem, Nat.reduceLT, reduceIte, reduceCtorEq, Nat.reduceEqDiff, apply_ite (Option.map (outOf _)), Nat.reduceBEq, Nat.reduceAdd, Nat.reduceSub, Nat.reduceLeDiff, Nat.reduceMul, good_47, hr, d1, b1]

abbrev namesH (s : List UInt8) (i : Nat) : St := { sl := upd (upd bot 1 (I i)) 0 (T s), bx := nobox, nt := 18 }

theorem names_loop (s : List UInt8) (hs : s.length < 4000000000) : ∀ (rest : List UInt8) (i : Nat), s.drop i = rest → i ≤ s.length →
    Ends (exL K 49 (.loop (loopAt Tryd.f49 1)) (namesH s i)) fun o S => o = .exit 0 ∧ S.nt = 18 ∧ S.sl 1 = I (i + Tk.run Tk.within rest : Nat) := by
  intro rest
  induction rest with
  | nil =>
    intro i hd hi
    have d1 := at1_den s i hs
    rw [hd] at d1
    have v0 : atC [] = -1 := rfl
    rw [v0] at d1
    have e0 : decide ((1 : Int) ≤ -1) = false := by decide
    conv in loopAt _ _ => whnf
    rw [exL_loop]
    simp only [go_sem, Nat.reduceLT, reduceIte, reduceCtorEq, Nat.reduceEqDiff, apply_ite (Option.map (outOf _)), Nat.reduceBEq, Nat.reduceAdd, Nat.reduceSub, Nat.reduceLeDiff, Nat.reduceMul, good_47, keep_49_1, ends_some, d1, e0, Tk.run_nil]
  | cons c rest ih =>
    intro i hd hi
    obtain ⟨g1, g2, g3⟩ := drop_cons hd
    have d1 := at1_den s i hs
    rw [hd] at d1
    have v0 : atC (c :: rest) = classI c := rfl
    rw [v0] at d1
    obtain ⟨_, _, _, _, f⟩ := class_facts c
    have ih' := ih (i + 1) g2 (by omega)
    conv at ih' in loopAt _ _ => whnf
    conv in loopAt _ _ => whnf
    rw [exL_loop]
    cases b1 : decide (1 ≤ classI c)
    · rw [b1, Bool.false_and] at f
      have hv : Tk.run Tk.within (c :: rest) = 0 := by rw [Tk.run, ← f]; rfl
      simp only [go_sem, Nat.reduceLT, reduceIte, reduceCtorEq, Nat.reduceEqDiff, apply_ite (Option.map (outOf _)), Nat.reduceBEq, Nat.reduceAdd, Nat.reduceSub, Nat.reduceLeDiff, Nat.reduceMul, good_47, keep_49_1, ends_some, d1, b1, hv]
    · rw [b1, Bool.true_and] at f
      cases b2 : decide (classI c ≤ 3)
      · rw [b2] at f
        have hv : Tk.run Tk.within (c :: rest) = 0 := by rw [Tk.run, ← f]; rfl
        simp only [go_sem, Nat.reduceLT, reduceIte, reduceCtorEq, Nat.reduceEqDiff, apply_ite (Option.map (outOf _)), Nat.reduceBEq, Nat.reduceAdd, Nat.reduceSub, Nat.reduceLeDiff, Nat.reduceMul, good_47, keep_49_1, ends_some, d1, b1, b2, hv]
      · rw [b2] at f
        have hv : i + 1 + Tk.run Tk.within rest = i + Tk.run Tk.within (c :: rest) := by rw [Tk.run, if_pos f.symm]; omega
        rw [hv] at ih'
        simp only [go_sem, Nat.reduceLT, reduceIte, reduceCtorEq, Nat.reduceEqDiff, apply_ite (Option.map (outOf _)), Nat.reduceBEq, Nat.reduceAdd, Nat.reduceSub, Nat.reduceLeDiff, Nat.reduceMul, good_47, keep_49_1, d1, b1, b2, wrap_nat i (by omega)]
        rw [exL_head]
        simp only [go_sem, Nat.reduceLT, reduceIte, reduceCtorEq, Nat.reduceEqDiff, apply_ite (Option.map (outOf _)), Nat.reduceBEq, Nat.reduceAdd, Nat.reduceSub, Nat.reduceLeDiff, Nat.reduceMul, good_47, keep_49_1]
        exact ih'

theorem names_den (s : List UInt8) (i : Nat) (hs : s.length < 4000000000) (hi : i ≤ s.length) : den K 49 [T s, I i] [] = some (.ret (I (i + Tk.run Tk.within (s.drop i) : Nat)) []) := by
  refine den_run rfl Tryd.func49 rfl Tryd.ntmps49 ⟨by simp, by simp [LK]⟩ ?_
  have hr : Tryd.f49.results = #[.tmp 4] := rfl
  have hl := names_loop s hs (s.drop i) i rfl hi
  conv at hl in loopAt _ _ => whnf
  obtain ⟨o, S', w, rfl, hn, h1⟩ := hl
  simp only [go_sem, Nat.reduceLT, reduceIte, reduceCtorEq, Nat.reduceEqDiff, apply_ite (Option.map (outOf _)), Nat.reduceBEq, Nat.reduceAdd, Nat.reduceSub, Nat.reduceLeDiff, Nat.reduceMul, good_47, keep_49_1]
  rw [exL_head]
  simp only [go_sem, Nat.reduceLT, reduceIte, reduceCtorEq, Nat.reduceEqDiff, apply_ite (Option.map (outOf _)), Nat.reduceBEq, Nat.reduceAdd, Nat.reduceSub, Nat.reduceLeDiff, Nat.reduceMul, good_47, keep_49_1]
  erw [w]
  simp only [go_sem, Nat.reduceLT, reduceIte, reduceCtorEq, Nat.reduceEqDiff, apply_ite (Option.map (outOf _)), Nat.reduceBEq, Nat.reduceAdd, Nat.reduceSub, Nat.reduceLeDiff, Nat.reduceMul, good_47, keep_49_1, hr, hn, h1]

/-! ### comments -/

abbrev comH (s : List UInt8) (k : Nat) : St := { sl := upd (upd bot 5 (I k)) 0 (T s), bx := nobox, nt := 30 }

theorem com_loop (s : List UInt8) (hs : s.length < 4000000000) : ∀ (rest : List UInt8) (k : Nat), s.drop k = rest → k ≤ s.length →
    Ends (exL K 46 (.loop (loopAt Tryd.f46 2)) (comH s k)) fun o S => (∃ n, Tk.shut rest = some n ∧ o = .ret ∧ S.sl 4 = I (k + n : Nat)) ∨ (Tk.shut rest = none ∧ o = .exit 0 ∧ S.nt = 30 ∧ S.sl 0 = T s) := by
  intro rest
  induction rest with
  | nil =>
    intro k hd hk
    have hin : k = s.length := by
      have := List.drop_eq_nil_iff.1 hd
      omega
    subst hin
    have w1 := wrap_nat s.length (by omega)
    have e0 : decide (((s.length + 1 : Nat) : Int) < (s.length : Int)) = false := decide_eq_false (by omega)
    have hv : Tk.shut [] = none := rfl
    conv in loopAt _ _ => whnf
    rw [exL_loop]
    simp only [go_sem, Nat.reduceLT, reduceIte, reduceCtorEq, Nat.reduceEqDiff, apply_ite (Option.map (outOf _)), Nat.reduceBEq, Nat.reduceAdd, Nat.reduceSub, Nat.reduceLeDiff, Nat.reduceMul, ev_len_str ty_descOf_9, ev_index ty_descOf_9, keep_46_2, ends_some, w1, e0, hv]
  | cons c rest ih =>
    intro k hd hk
    obtain ⟨g1, g2, g3⟩ := drop_cons hd
    have w1 := wrap_nat k (by omega)
    have e42 : ((c.toNat : Int) == 42) = (c == 42) := u8_beq c 42
    cases rest with
    | nil =>
      have hl : k + 1 = s.length := by
        have := List.drop_eq_nil_iff.1 g2
        omega
      have e0 : decide (((k + 1 : Nat) : Int) < (s.length : Int)) = false := decide_eq_false (by omega)
      have hv : Tk.shut [c] = none := by
        rw [Tk.shut, if_neg (fun h => absurd h.2 (by decide))]; rfl
      conv in loopAt _ _ => whnf
      rw [exL_loop]
      simp only [go_sem, Nat.reduceLT, reduceIte, reduceCtorEq, Nat.reduceEqDiff, apply_ite (Option.map (outOf _)), Nat.reduceBEq, Nat.reduceAdd, Nat.reduceSub, Nat.reduceLeDiff, Nat.reduceMul, ev_len_str ty_descOf_9, ev_index ty_descOf_9, keep_46_2, ends_some, w1, e0, hv]
    | cons d rest =>
      obtain ⟨k1, k2, k3⟩ := drop_cons g2
      have e0 : decide (((k + 1 : Nat) : Int) < (s.length : Int)) = true := decide_eq_true (by omega)
      have e47 : ((d.toNat : Int) == 47) = (d == 47) := u8_beq d 47
      have w2 : IntKind.i64.wrap ((k : Int) + 2) = ((k + 2 : Nat) : Int) := by rw [IntWalk.i64_in _ (by omega)]; rfl
      have ih' := ih (k + 1) g2 (by omega)
      conv at ih' in loopAt _ _ => whnf
      conv in loopAt _ _ => whnf
      rw [exL_loop]
      by_cases hc : c = 42 ∧ d = 47
      · have hv : Tk.shut (c :: d :: rest) = some 2 := by rw [Tk.shut, if_pos ⟨hc.1, hc.2⟩]
        have q1 : (c == 42) = true := by simp [hc.1]
        have q2 : (d == 47) = true := by simp [hc.2]
        rw [q1] at e42
        rw [q2] at e47
        simp only [go_sem, Nat.reduceLT, reduceIte, reduceCtorEq, Nat.reduceEqDiff, apply_ite (Option.map (outOf _)), Nat.reduceBEq, Nat.reduceAdd, Nat.reduceSub, Nat.reduceLeDiff, Nat.reduceMul, ev_len_str ty_descOf_9, ev_index ty_descOf_9, keep_46_2, ends_some, w1, w2, e0, hv, g1, k1, e42, e47, Int.natCast_nonneg, Int.toNat_natCast]
        simp
      · have hv : Tk.shut (c :: d :: rest) = (Tk.shut (d :: rest)).map (· + 1) := by rw [Tk.shut, if_neg (show ¬ (c = 42 ∧ Tk.at0 (d :: rest) = 47) from hc)]
        rw [hv]
        have fin : ∀ {r : Option (Out × St)}, Ends r (fun o S => (∃ n, Tk.shut (d :: rest) = some n ∧ o = .ret ∧ S.sl 4 = I (k + 1 + n : Nat)) ∨ (Tk.shut (d :: rest) = none ∧ o = .exit 0 ∧ S.nt = 30 ∧ S.sl 0 = T s)) → Ends r (fun o S => (∃ n, (Tk.shut (d :: rest)).map (· + 1) = some n ∧ o = .ret ∧ S.sl 4 = I (k + n : Nat)) ∨ ((Tk.shut (d :: rest)).map (· + 1) = none ∧ o = .exit 0 ∧ S.nt = 30 ∧ S.sl 0 = T s)) := by
          rintro r ⟨o, S, e, h⟩
          refine ⟨o, S, e, ?_⟩
          rcases h with ⟨n, h1, h2, h3⟩ | ⟨h1, h2⟩
          · left; exact ⟨n + 1, by rw [h1]; rfl, h2, by rw [h3, show k + 1 + n = k + (n + 1) by omega]⟩
          · right; exact ⟨by rw [h1]; rfl, h2⟩
        refine fin ?_
        cases q1 : (c == 42)
        · rw [q1] at e42
          simp only [go_sem, Nat.reduceLT, reduceIte, reduceCtorEq, Nat.reduceEqDiff, apply_ite (Option.map (outOf _)), Nat.reduceBEq, Nat.reduceAdd, Nat.reduceSub, Nat.reduceLeDiff, Nat.reduceMul, ev_len_str ty_descOf_9, ev_index ty_descOf_9, keep_46_2, w1, e0, g1, e42, Int.natCast_nonneg, Int.toNat_natCast]
          rw [exL_head]
          simp only [go_sem, Nat.reduceLT, reduceIte, reduceCtorEq, Nat.reduceEqDiff, apply_ite (Option.map (outOf _)), Nat.reduceBEq, Nat.reduceAdd, Nat.reduceSub, Nat.reduceLeDiff, Nat.reduceMul, ev_len_str ty_descOf_9, ev_index ty_descOf_9, keep_46_2]
          exact ih'
        · rw [q1] at e42
          have q2 : (d == 47) = false := by
            rw [beq_eq_false_iff_ne]; intro h; exact hc ⟨by simpa using q1, h⟩
          rw [q2] at e47
          simp only [go_sem, Nat.reduceLT, reduceIte, reduceCtorEq, Nat.reduceEqDiff, apply_ite (Option.map (outOf _)), Nat.reduceBEq, Nat.reduceAdd, Nat.reduceSub, Nat.reduceLeDiff, Nat.reduceMul, ev_len_str ty_descOf_9, ev_index ty_descOf_9, keep_46_2, w1, e0, g1, k1, e42, e47, Int.natCast_nonneg, Int.toNat_natCast]
          rw [exL_head]
          simp only [go_sem, Nat.reduceLT, reduceIte, reduceCtorEq, Nat.reduceEqDiff, apply_ite (Option.map (outOf _)), Nat.reduceBEq, Nat.reduceAdd, Nat.reduceSub, Nat.reduceLeDiff, Nat.reduceMul, ev_len_str ty_descOf_9, ev_index ty_descOf_9, keep_46_2]
          exact ih'

theorem comment1_den (s : List UInt8) (i : Nat) (hs : s.length < 4000000000) (hi : i + 2 ≤ s.length) : den K 46 [T s, I i] [] = some (.ret (I (i + Tk.comment (s.drop (i + 2)) : Nat)) []) := by
  refine den_run rfl Tryd.func46 rfl Tryd.ntmps46 ⟨by simp, by simp [LK]⟩ ?_
  have hr : Tryd.f46.results = #[.tmp 4] := rfl
  have w2 : IntKind.i64.wrap ((i : Int) + 2) = ((i + 2 : Nat) : Int) := by rw [IntWalk.i64_in _ (by omega)]; rfl
  have hl := com_loop s hs (s.drop (i + 2)) (i + 2) rfl hi
  conv at hl in loopAt _ _ => whnf
  obtain ⟨o, S', w, h⟩ := hl
  simp only [go_sem, Nat.reduceLT, reduceIte, reduceCtorEq, Nat.reduceEqDiff, apply_ite (Option.map (outOf _)), Nat.reduceBEq, Nat.reduceAdd, Nat.reduceSub, Nat.reduceLeDiff, Nat.reduceMul, ev_len_str ty_descOf_9, ev_index ty_descOf_9, keep_46_2, w2]
  rw [exL_head]
  simp only [go_sem, Nat.reduceLT, reduceIte, reduceCtorEq, Nat.reduceEqDiff, apply_ite (Option.map (outOf _)), Nat.reduceBEq, Nat.reduceAdd, Nat.reduceSub, Nat.reduceLeDiff, Nat.reduceMul, ev_len_str ty_descOf_9, ev_index ty_descOf_9, keep_46_2]
  erw [w]
  unfold Tk.comment
  rcases h with ⟨n, h1, rfl, h2⟩ | ⟨h1, rfl, h2, h3⟩
  · rw [h1]
    have e : i + 2 + n = i + (n + 2) := by omega
    rw [e] at h2
    simp only [go_sem, Nat.reduceLT, reduceIte, reduceCtorEq, Nat.reduceEqDiff, apply_ite (Option.map (outOf _)), Nat.reduceBEq, Nat.reduceAdd, Nat.reduceSub, Nat.reduceLeDiff, Nat.reduceMul, ev_len_str ty_descOf_9, ev_index ty_descOf_9, keep_46_2, hr, h2]
  · rw [h1]
    have e : i + ((s.drop (i + 2)).length + 2) = s.length := by rw [List.length_drop]; omega
    simp only [e]
    simp only [go_sem, Nat.reduceLT, reduceIte, reduceCtorEq, Nat.reduceEqDiff, apply_ite (Option.map (outOf _)), Nat.reduceBEq, Nat.reduceAdd, Nat.reduceSub, Nat.reduceLeDiff, Nat.reduceMul, ev_len_str ty_descOf_9, ev_index ty_descOf_9, keep_46_2, hr, h2, h3]
end Go.Abs

namespace Go.Abs
open Go Go.Proofs
set_option maxRecDepth 10000
attribute [local go_sem] exL_seq exL_region exL_cond exL_block exL_scope exL_ret exL_skip exL_exit runRegion runOps stepOp guardA absOp takeOver opd avOf cvOf St.degAt St.put okPV okVal okAV absBin intBin strBin boolBin setBoxes if_true Bool.false_eq_true if_false Option.map_some Option.map_none Option.bind_some Option.bind_none thenO outOf upd List.toList_toArray isOwn steal appArgs inApps AV.deg CV.deg AV.gv AV.isIter absNext some_bne List.length_nil List.length_cons List.filterMap_cons List.filterMap_nil beq_iff_eq List.getElem?_cons_zero List.getElem?_cons_succ Option.getD_some K_hook hookB Bool.false_and Bool.and_false Bool.and_self K_P K_own absCall doCall getBoxes lend back idx dedup AV.ren CV.ren TV.ren AV.ptrs CV.ptrs zipBox AV.flat CV.flat absLoad absStore cellsOfAV setAt newBox markB bldTypes absFieldAddr absField absExtract absAssert noAssert absMkIface ifcOf CV.pv? content pushHead ownT fillCells reps pvs chunks enterSt leave resOf resVars resVar outBoxes lentOnly TV.deg TV.av LK CV.plain CV.noBld nilBin absUn bound List.map_cons List.map_nil List.all_cons List.all_nil List.any_cons List.any_nil List.contains_cons List.contains_nil List.elem_cons List.elem_nil List.cons_append List.nil_append List.append_nil List.flatMap_cons List.flatMap_nil List.zip_cons_cons List.zip_nil_left List.zip_nil_right List.take_succ_cons List.take_zero List.take_nil List.drop_succ_cons List.drop_zero List.drop_nil List.isEmpty_nil List.isEmpty_cons Bool.and_true Bool.true_and Bool.or_true Bool.true_or Bool.or_false Bool.false_or Bool.not_true Bool.not_false Nat.add_zero Nat.zero_add Option.isNone_none Option.isNone_some Option.getD_none true_and and_true not_true_eq_false not_false_eq_true decide_true decide_false Nat.le_refl and_self Bool.not_eq_true Nat.sub_self or_true true_or Option.some.injEq List.length_map List.nil_eq and_false false_and AV.live CV.live CV.liveIn K_keep firstReg Option.orElse_some Option.orElse_none head keepSlots keepBoxes Int.lt_irrefl List.length_append ite_self memOK logOps opKey lentBoxes Key.clash Key.sees Key.writes Nat.lt_irrefl gt_iff_lt nobox_at bot_at false_or or_false beq_self_eq_true Bool.true_beq Bool.false_beq

/-! ### strings -/

/-- where a string's second sign stands -/
def innerK (i : Nat) (c : UInt8) (r : List UInt8) : Int := match Tk.inner c r with | some n => ((i + 1 + n : Nat) : Int) | none => -1

abbrev inH (s : List UInt8) (i k : Nat) : St := { sl := upd (upd (upd bot 5 (I k)) 1 (I i)) 0 (T s), bx := nobox, nt := 38 }

theorem in_loop (s : List UInt8) (hs : s.length < 4000000000) (i : Nat) (c : UInt8) (hi : s[i]? = some c) : ∀ (rest : List UInt8) (k : Nat), s.drop k = rest → k ≤ s.length →
    Ends (exL K 48 (.loop (loopAt Tryd.f48 2)) (inH s i k)) fun o S => (∃ n, Tk.inner c rest = some n ∧ o = .ret ∧ S.sl 4 = I (k + n : Nat)) ∨ (Tk.inner c rest = none ∧ (o = .ret ∧ S.sl 4 = I (-1) ∨ o = .exit 0 ∧ S.nt = 38)) := by
  intro rest
  induction rest with
  | nil =>
    intro k hd hk
    have hin : k = s.length := by
      have := List.drop_eq_nil_iff.1 hd
      omega
    subst hin
    have hv : Tk.inner c [] = none := rfl
    conv in loopAt _ _ => whnf
    rw [exL_loop]
    simp only [go_sem, Nat.reduceLT, reduceIte, reduceCtorEq, Nat.reduceEqDiff, apply_ite (Option.map (outOf _)), Nat.reduceBEq, Nat.reduceAdd, Nat.reduceSub, Nat.reduceLeDiff, Nat.reduceMul, ev_len_str ty_descOf_9, ev_index ty_descOf_9, keep_48_2, ends_some, hv]
  | cons d rest ih =>
    intro k hd hk
    obtain ⟨g1, g2, g3⟩ := drop_cons hd
    have hlt : decide ((k : Int) < (s.length : Int)) = true := decide_eq_true (by omega)
    have edc : ((d.toNat : Int) == (c.toNat : Int)) = (d == c) := u8_beq d c
    have e10 : ((d.toNat : Int) == 10) = (d == 10) := u8_beq d 10
    have e12 : ((d.toNat : Int) == 12) = (d == 12) := u8_beq d 12
    have e13 : ((d.toNat : Int) == 13) = (d == 13) := u8_beq d 13
    have ih' := ih (k + 1) g2 (by omega)
    conv at ih' in loopAt _ _ => whnf
    conv in loopAt _ _ => whnf
    rw [exL_loop]
    cases q : (d == c)
    · rw [q] at edc
      have hdc : d ≠ c := by simpa using q
      cases q10 : (d == 10)
      · rw [q10] at e10
        cases q12 : (d == 12)
        · rw [q12] at e12
          cases q13 : (d == 13)
          · rw [q13] at e13
            have he : Tk.ending d = false := by unfold Tk.ending; rw [q10, q12, q13]; rfl
            have hv : Tk.inner c (d :: rest) = (Tk.inner c rest).map (· + 1) := by rw [Tk.inner, if_neg hdc, if_neg (by simp [he])]
            rw [hv]
            have fin : ∀ {r : Option (Out × St)}, Ends r (fun o S => (∃ n, Tk.inner c rest = some n ∧ o = .ret ∧ S.sl 4 = I (k + 1 + n : Nat)) ∨ (Tk.inner c rest = none ∧ (o = .ret ∧ S.sl 4 = I (-1) ∨ o = .exit 0 ∧ S.nt = 38))) → Ends r (fun o S => (∃ n, (Tk.inner c rest).map (· + 1) = some n ∧ o = .ret ∧ S.sl 4 = I (k + n : Nat)) ∨ ((Tk.inner c rest).map (· + 1) = none ∧ (o = .ret ∧ S.sl 4 = I (-1) ∨ o = .exit 0 ∧ S.nt = 38))) := by
              rintro r ⟨o, S, e, h⟩
              refine ⟨o, S, e, ?_⟩
              rcases h with ⟨n, h1, h2, h3⟩ | ⟨h1, h2⟩
              · left; exact ⟨n + 1, by rw [h1]; rfl, h2, by rw [h3, show k + 1 + n = k + (n + 1) by omega]⟩
              · right; exact ⟨by rw [h1]; rfl, h2⟩
            refine fin ?_
            simp only [go_sem, Nat.reduceLT, reduceIte, reduceCtorEq, Nat.reduceEqDiff, apply_ite (Option.map (outOf _)), Nat.reduceBEq, Nat.reduceAdd, Nat.reduceSub, Nat.reduceLeDiff, Nat.reduceMul, ev_len_str ty_descOf_9, ev_index ty_descOf_9, keep_48_2, hlt, g1, hi, edc, e10, e12, e13, Int.natCast_nonneg, Int.toNat_natCast, wrap_nat k (by omega)]
            rw [exL_head]
            simp only [go_sem, Nat.reduceLT, reduceIte, reduceCtorEq, Nat.reduceEqDiff, apply_ite (Option.map (outOf _)), Nat.reduceBEq, Nat.reduceAdd, Nat.reduceSub, Nat.reduceLeDiff, Nat.reduceMul, ev_len_str ty_descOf_9, ev_index ty_descOf_9, keep_48_2]
            exact ih'
          · rw [q13] at e13
            have he : Tk.ending d = true := by unfold Tk.ending; rw [q13, Bool.or_true]
            have hv : Tk.inner c (d :: rest) = none := by rw [Tk.inner, if_neg hdc, if_pos he]
            simp only [go_sem, Nat.reduceLT, reduceIte, reduceCtorEq, Nat.reduceEqDiff, apply_ite (Option.map (outOf _)), Nat.reduceBEq, Nat.reduceAdd, Nat.reduceSub, Nat.reduceLeDiff, Nat.reduceMul, ev_len_str ty_descOf_9, ev_index ty_descOf_9, keep_48_2, ends_some, hlt, g1, hi, edc, e10, e12, e13, Int.natCast_nonneg, Int.toNat_natCast, hv]
        · rw [q12] at e12
          have he : Tk.ending d = true := by unfold Tk.ending; rw [q12, Bool.or_true, Bool.true_or]
          have hv : Tk.inner c (d :: rest) = none := by rw [Tk.inner, if_neg hdc, if_pos he]
          simp only [go_sem, Nat.reduceLT, reduceIte, reduceCtorEq, Nat.reduceEqDiff, apply_ite (Option.map (outOf _)), Nat.reduceBEq, Nat.reduceAdd, Nat.reduceSub, Nat.reduceLeDiff, Nat.reduceMul, ev_len_str ty_descOf_9, ev_index ty_descOf_9, keep_48_2, ends_some, hlt, g1, hi, edc, e10, e12, Int.natCast_nonneg, Int.toNat_natCast, hv]
      · rw [q10] at e10
        have he : Tk.ending d = true := by unfold Tk.ending; rw [q10, Bool.true_or, Bool.true_or]
        have hv : Tk.inner c (d :: rest) = none := by rw [Tk.inner, if_neg hdc, if_pos he]
        simp only [go_sem, Nat.reduceLT, reduceIte, reduceCtorEq, Nat.reduceEqDiff, apply_ite (Option.map (outOf _)), Nat.reduceBEq, Nat.reduceAdd, Nat.reduceSub, Nat.reduceLeDiff, Nat.reduceMul, ev_len_str ty_descOf_9, ev_index ty_descOf_9, keep_48_2, ends_some, hlt, g1, hi, edc, e10, Int.natCast_nonneg, Int.toNat_natCast, hv]
    · rw [q] at edc
      have hv : Tk.inner c (d :: rest) = some 0 := by rw [Tk.inner, if_pos (by simpa using q)]
      simp only [go_sem, Nat.reduceLT, reduceIte, reduceCtorEq, Nat.reduceEqDiff, apply_ite (Option.map (outOf _)), Nat.reduceBEq, Nat.reduceAdd, Nat.reduceSub, Nat.reduceLeDiff, Nat.reduceMul, ev_len_str ty_descOf_9, ev_index ty_descOf_9, keep_48_2, ends_some, hlt, g1, hi, edc, Int.natCast_nonneg, Int.toNat_natCast, hv]
      simp

theorem inner1_den (s : List UInt8) (i : Nat) (c : UInt8) (r : List UInt8) (hs : s.length < 4000000000) (hd : s.drop i = c :: r) : den K 48 [T s, I i] [] = some (.ret (I (innerK i c r)) []) := by
  obtain ⟨g1, g2, g3⟩ := drop_cons hd
  refine den_run rfl Tryd.func48 rfl Tryd.ntmps48 ⟨by simp, by simp [LK]⟩ ?_
  have hr : Tryd.f48.results = #[.tmp 4] := rfl
  have hl := in_loop s hs i c g1 r (i + 1) g2 (by omega)
  conv at hl in loopAt _ _ => whnf
  obtain ⟨o, S', w, h⟩ := hl
  simp only [go_sem, Nat.reduceLT, reduceIte, reduceCtorEq, Nat.reduceEqDiff, apply_ite (Option.map (outOf _)), Nat.reduceBEq, Nat.reduceAdd, Nat.reduceSub, Nat.reduceLeDiff, Nat.reduceMul, ev_len_str ty_descOf_9, ev_index ty_descOf_9, keep_48_2, wrap_nat i (by omega)]
  rw [exL_head]
  simp only [go_sem, Nat.reduceLT, reduceIte, reduceCtorEq, Nat.reduceEqDiff, apply_ite (Option.map (outOf _)), Nat.reduceBEq, Nat.reduceAdd, Nat.reduceSub, Nat.reduceLeDiff, Nat.reduceMul, ev_len_str ty_descOf_9, ev_index ty_descOf_9, keep_48_2]
  erw [w]
  unfold innerK
  rcases h with ⟨n, h1, rfl, h2⟩ | ⟨h1, ⟨rfl, h2⟩ | ⟨rfl, h2⟩⟩
  · rw [h1]
    simp only [go_sem, Nat.reduceLT, reduceIte, reduceCtorEq, Nat.reduceEqDiff, apply_ite (Option.map (outOf _)), Nat.reduceBEq, Nat.reduceAdd, Nat.reduceSub, Nat.reduceLeDiff, Nat.reduceMul, ev_len_str ty_descOf_9, ev_index ty_descOf_9, keep_48_2, hr, h2]
  · rw [h1]
    simp only [go_sem, Nat.reduceLT, reduceIte, reduceCtorEq, Nat.reduceEqDiff, apply_ite (Option.map (outOf _)), Nat.reduceBEq, Nat.reduceAdd, Nat.reduceSub, Nat.reduceLeDiff, Nat.reduceMul, ev_len_str ty_descOf_9, ev_index ty_descOf_9, keep_48_2, hr, h2]
  · rw [h1]
    simp only [go_sem, Nat.reduceLT, reduceIte, reduceCtorEq, Nat.reduceEqDiff, apply_ite (Option.map (outOf _)), Nat.reduceBEq, Nat.reduceAdd, Nat.reduceSub, Nat.reduceLeDiff, Nat.reduceMul, ev_len_str ty_descOf_9, ev_index ty_descOf_9, keep_48_2, hr, h2]

/-! ### numbers -/

abbrev nmH (s : List UInt8) (i : Nat) (n : Int) (k : Nat) : St := { sl := upd (upd (upd (upd (upd bot 7 (I k)) 6 (I n)) 4 (.c (.loc 4 0))) 1 (I i)) 0 (T s), bx := upd nobox 4 (some [.pv (.int .i64 0), .pv (.str []), .pv (.int .i64 0)]), nt := 63 }

theorem nm_loop (s : List UInt8) (hs : s.length < 4000000000) (i : Nat) : ∀ (rest : List UInt8) (k : Nat) (n : Int), s.drop k = rest → k ≤ s.length → 0 ≤ n → n ≤ 999999999 →
    Ends (exL K 51 (.loop (loopAt Tryd.f51 4)) (nmH s i n k)) fun o S => o = .exit 0 ∧ S.nt = 63 ∧ S.sl 0 = T s ∧ S.sl 1 = I i ∧ S.sl 4 = .c (.loc 4 0) ∧ S.sl 6 = I (Tk.num n rest) ∧ S.sl 7 = I (k + Tk.run Tk.digit rest : Nat) ∧ S.bx = upd nobox 4 (some [.pv (.int .i64 0), .pv (.str []), .pv (.int .i64 0)]) := by
  intro rest
  induction rest with
  | nil =>
    intro k n hd hk h0 h1
    have d1 := at1_den s k hs
    rw [hd] at d1
    have v0 : atC [] = -1 := rfl
    rw [v0] at d1
    have e0 : ((-1 : Int) == 2) = false := by decide
    conv in loopAt _ _ => whnf
    rw [exL_loop]
    simp only [go_sem, Nat.reduceLT, reduceIte, reduceCtorEq, Nat.reduceEqDiff, apply_ite (Option.map (outOf _)), Nat.reduceBEq, Nat.reduceAdd, Nat.reduceSub, Nat.reduceLeDiff, Nat.reduceMul, ty_shapeT_83, ty_zeroCells_83, ev_index ty_descOf_9, good_47, ev_conv_int ty_descOf_5 ty_descOf_3, ev_len_str ty_descOf_9, good_50, good_49, ev_slice_str ty_descOf_9, ev_build ty_zeroCells_83 ty_placesOf_83, ty_szOf_83, keep_51_4, ends_some, d1, e0, Tk.run_nil, Tk.num]
  | cons c rest ih =>
    intro k n hd hk h0 h1
    obtain ⟨g1, g2, g3⟩ := drop_cons hd
    have d1 := at1_den s k hs
    rw [hd] at d1
    have v0 : atC (c :: rest) = classI c := rfl
    rw [v0] at d1
    obtain ⟨_, f, _, _, _⟩ := class_facts c
    conv in loopAt _ _ => whnf
    rw [exL_loop]
    cases b : (classI c == 2)
    · rw [b] at f
      have hv : Tk.run Tk.digit (c :: rest) = 0 := by rw [Tk.run, ← f]; rfl
      have hv2 : Tk.num n (c :: rest) = n := by rw [Tk.num, ← f]; rfl
      simp only [go_sem, Nat.reduceLT, reduceIte, reduceCtorEq, Nat.reduceEqDiff, apply_ite (Option.map (outOf _)), Nat.reduceBEq, Nat.reduceAdd, Nat.reduceSub, Nat.reduceLeDiff, Nat.reduceMul, ty_shapeT_83, ty_zeroCells_83, ev_index ty_descOf_9, good_47, ev_conv_int ty_descOf_5 ty_descOf_3, ev_len_str ty_descOf_9, good_50, good_49, ev_slice_str ty_descOf_9, ev_build ty_zeroCells_83 ty_placesOf_83, ty_szOf_83, keep_51_4, ends_some, d1, b, hv, hv2]
    · rw [b] at f
      have hc := f.symm
      have hcn : 48 ≤ c.toNat ∧ c.toNat ≤ 57 := by simpa [Tk.digit] using hc
      have hv : k + 1 + Tk.run Tk.digit rest = k + Tk.run Tk.digit (c :: rest) := by rw [Tk.run, if_pos hc]; omega
      have hv2 : Tk.num n (c :: rest) = Tk.num (min (10 * n + ((c.toNat : Int) - 48)) 999999999) rest := by rw [Tk.num, if_pos hc]
      have w1 : IntKind.i64.wrap (10 * n) = 10 * n := IntWalk.i64_in _ (by omega)
      have w3 : IntKind.i64.wrap (c.toNat : Int) = (c.toNat : Int) := IntWalk.i64_in _ (by omega)
      have w4 : IntKind.i64.wrap (10 * n + (c.toNat : Int)) = 10 * n + (c.toNat : Int) := IntWalk.i64_in _ (by omega)
      have w5 : IntKind.i64.wrap (10 * n + (c.toNat : Int) - 48) = 10 * n + ((c.toNat : Int) - 48) := by rw [IntWalk.i64_in _ (by omega)]; omega
      have ih' := ih (k + 1) (min (10 * n + ((c.toNat : Int) - 48)) 999999999) g2 (by omega) (by omega) (by omega)
      rw [hv, ← hv2] at ih'
      conv at ih' in loopAt _ _ => whnf
      simp only [go_sem, Nat.reduceLT, reduceIte, reduceCtorEq, Nat.reduceEqDiff, apply_ite (Option.map (outOf _)), Nat.reduceBEq, Nat.reduceAdd, Nat.reduceSub, Nat.reduceLeDiff, Nat.reduceMul, ty_shapeT_83, ty_zeroCells_83, ev_index ty_descOf_9, good_47, ev_conv_int ty_descOf_5 ty_descOf_3, ev_len_str ty_descOf_9, good_50, good_49, ev_slice_str ty_descOf_9, ev_build ty_zeroCells_83 ty_placesOf_83, ty_szOf_83, keep_51_4, d1, b, g1, Int.natCast_nonneg, Int.toNat_natCast, w1, w3, w4, w5, absMin, allInts, List.foldl_cons, List.foldl_nil, min_law, wrap_nat k (by omega)]
      rw [exL_head]
      simp only [go_sem, Nat.reduceLT, reduceIte, reduceCtorEq, Nat.reduceEqDiff, apply_ite (Option.map (outOf _)), Nat.reduceBEq, Nat.reduceAdd, Nat.reduceSub, Nat.reduceLeDiff, Nat.reduceMul, ty_shapeT_83, ty_zeroCells_83, ev_index ty_descOf_9, good_47, ev_conv_int ty_descOf_5 ty_descOf_3, ev_len_str ty_descOf_9, good_50, good_49, ev_slice_str ty_descOf_9, ev_build ty_zeroCells_83 ty_placesOf_83, ty_szOf_83, keep_51_4]
      exact ih'

/-- a token and a place -/
abbrev tokAt (t : Tok) (i : Nat) : AV := .tup [.agg t.cells, .c (.pv (.int .i64 (i : Nat)))]

set_option maxHeartbeats 8000000 in
theorem number1_den (s : List UInt8) (i : Nat) (c : UInt8) (r : List UInt8) (neg : Bool) (l : List UInt8) (hs : s.length < 4000000000) (hd : s.drop i = c :: r) (hneg : (c == 45) = neg) (hl : l = if neg then r else c :: r) :
    den K 51 [T s, I i] [] = some (.ret (tokAt (Tk.number neg l).1 (i + (if neg then 1 else 0) + (Tk.number neg l).2)) []) := by
  obtain ⟨g1, g2, g3⟩ := drop_cons hd
  have e45 : ((c.toNat : Int) == 45) = neg := (u8_beq c 45).trans hneg
  -- where the digits begin
  obtain ⟨j, hj⟩ : ∃ j, j = i + (if neg then 1 else 0) := ⟨_, rfl⟩
  have hdj : s.drop j = l := by cases neg <;> simp only [Bool.false_eq_true, if_true, if_false, Nat.add_zero] at hj hl <;> subst hj <;> subst hl <;> assumption
  have hjl : j ≤ s.length := by cases neg <;> simp only [Bool.false_eq_true, if_true, if_false] at hj <;> omega
  have hll : l.length = s.length - j := by rw [← hdj, List.length_drop]
  have hrl := Tk.run_le (p := Tk.digit) l
  have hnum := Tk.num_bound (l := l) (n := 0) (by omega) (by omega)
  have hlp := nm_loop s hs i l j 0 hdj hjl (by omega) (by omega)
  conv at hlp in loopAt _ _ => whnf
  obtain ⟨o, S', w, rfl, fn, f0, f1, f4, f6, f7, fb⟩ := hlp
  unfold Tk.number
  rw [← hj]
  generalize hk : Tk.run Tk.digit l = k at hrl f7
  simp only
  have hde : s.drop (j + k) = l.drop k := by rw [← List.drop_drop, hdj]
  have dB := Begins_den s (j + k) hs (by omega)
  have dN := names_den s (j + k) hs (by omega)
  rw [hde] at dB dN
  have hul := Tk.unit_le (l.drop k)
  rw [List.length_drop] at hul
  have w3 : IntKind.i64.wrap (0 - Tk.num 0 l) = -Tk.num 0 l := by rw [IntWalk.i64_in _ (by omega)]; omega
  have w1 := wrap_nat (j + k) (by omega)
  have wi := wrap_nat i (by omega)
  -- how long the unit is
  have hunit : (decide (((j + k : Nat) : Int) < (s.length : Int)) = true ∧ (∃ d, s[j + k]? = some d ∧ ((d.toNat : Int) == 37) = true) ∧ Tk.unit (l.drop k) = 1) ∨ ((decide (((j + k : Nat) : Int) < (s.length : Int)) = false ∨ decide (((j + k : Nat) : Int) < (s.length : Int)) = true ∧ ∃ d, s[j + k]? = some d ∧ ((d.toNat : Int) == 37) = false) ∧ Tk.unit (l.drop k) = if Tk.nameB (l.drop k) then Tk.run Tk.within (l.drop k) else 0) := by
    unfold Tk.unit Tk.name
    by_cases hlt : j + k < s.length
    · have hdd := List.drop_eq_getElem_cons hlt
      rw [hde] at hdd
      have hg : s[j + k]? = some (s[j + k]'hlt) := List.getElem?_eq_getElem hlt
      have h0 : Tk.at0 (l.drop k) = s[j + k]'hlt := by rw [hdd]; rfl
      rw [h0]
      generalize s[j + k]'hlt = d at hg
      by_cases h37 : d = 37
      · left; exact ⟨decide_eq_true (by omega), ⟨d, hg, by rw [h37]; rfl⟩, by rw [if_pos h37]⟩
      · right; exact ⟨.inr ⟨decide_eq_true (by omega), d, hg, (u8_beq d 37).trans (by simpa using h37)⟩, by rw [if_neg h37]⟩
    · have hnil : l.drop k = [] := List.drop_eq_nil_of_le (by omega)
      rw [hnil]
      right; exact ⟨.inl (decide_eq_false (by omega)), rfl⟩
  generalize Tk.unit (l.drop k) = u at hul hunit
  have hsub : (s.take (j + k + u)).drop (j + k) = (l.drop k).take u := by rw [List.drop_take, hde]; congr 1; omega
  have b1 : (((j + k + u : Nat) : Int) ≤ (s.length : Int)) = True := eq_true (by omega)
  have b2 : (((j + k : Nat) : Int) ≤ ((j + k + u : Nat) : Int)) = True := eq_true (by omega)
  rw [← Nat.add_assoc]
  have z01 : ((0 : Int) = 1) = False := by simp
  have hr : Tryd.f51.results = #[.cell 4 83, .tmp 5] := rfl
  refine den_run rfl Tryd.func51 rfl Tryd.ntmps51 ⟨by simp, by simp [LK]⟩ ?_
  cases neg
  · simp only [Bool.false_eq_true, if_false, Nat.add_zero] at hj ⊢
    subst hj
    simp only [go_sem, Nat.reduceLT, reduceIte, reduceCtorEq, Nat.reduceEqDiff, apply_ite (Option.map (outOf _)), Nat.reduceBEq, Nat.reduceAdd, Nat.reduceSub, Nat.reduceLeDiff, Nat.reduceMul, ty_shapeT_83, ty_zeroCells_83, ev_index ty_descOf_9, good_47, ev_conv_int ty_descOf_5 ty_descOf_3, ev_len_str ty_descOf_9, good_50, good_49, ev_slice_str ty_descOf_9, ev_build ty_zeroCells_83 ty_placesOf_83, ty_szOf_83, keep_51_4, g1, Int.natCast_nonneg, Int.toNat_natCast, e45]
    rw [exL_head]
    simp only [go_sem, Nat.reduceLT, reduceIte, reduceCtorEq, Nat.reduceEqDiff, apply_ite (Option.map (outOf _)), Nat.reduceBEq, Nat.reduceAdd, Nat.reduceSub, Nat.reduceLeDiff, Nat.reduceMul, ty_shapeT_83, ty_zeroCells_83, ev_index ty_descOf_9, good_47, ev_conv_int ty_descOf_5 ty_descOf_3, ev_len_str ty_descOf_9, good_50, good_49, ev_slice_str ty_descOf_9, ev_build ty_zeroCells_83 ty_placesOf_83, ty_szOf_83, keep_51_4]
    erw [w]
    rcases hunit with ⟨u1, ⟨d, u2, u3⟩, u4⟩ | ⟨u1, u4⟩
    · rw [u4] at b1 b2 hsub ⊢
      simp only [go_sem, Nat.reduceLT, reduceIte, reduceCtorEq, Nat.reduceEqDiff, apply_ite (Option.map (outOf _)), Nat.reduceBEq, Nat.reduceAdd, Nat.reduceSub, Nat.reduceLeDiff, Nat.reduceMul, ty_shapeT_83, ty_zeroCells_83, ev_index ty_descOf_9, good_47, ev_conv_int ty_descOf_5 ty_descOf_3, ev_len_str ty_descOf_9, good_50, good_49, ev_slice_str ty_descOf_9, ev_build ty_zeroCells_83 ty_placesOf_83, ty_szOf_83, keep_51_4, hr, fn, f0, f1, f4, f6, f7, fb, g1, Int.natCast_nonneg, Int.toNat_natCast, e45, w1, w3, u1, u2, u3, b1, b2, hsub, Tok.cells, tokAt, ty_shapeT_83]
    · cases hnb : Tk.nameB (l.drop k)
      · rw [hnb] at u4 dB
        simp only [Bool.false_eq_true, if_false] at u4
        rw [u4] at b1 b2 hsub ⊢
        simp only [Nat.add_zero] at b1 b2 hsub ⊢
        rcases u1 with u1 | ⟨u1, d, u2, u3⟩
        · simp only [go_sem, Nat.reduceLT, reduceIte, reduceCtorEq, Nat.reduceEqDiff, apply_ite (Option.map (outOf _)), Nat.reduceBEq, Nat.reduceAdd, Nat.reduceSub, Nat.reduceLeDiff, Nat.reduceMul, ty_shapeT_83, ty_zeroCells_83, ev_index ty_descOf_9, good_47, ev_conv_int ty_descOf_5 ty_descOf_3, ev_len_str ty_descOf_9, good_50, good_49, ev_slice_str ty_descOf_9, ev_build ty_zeroCells_83 ty_placesOf_83, ty_szOf_83, keep_51_4, hr, fn, f0, f1, f4, f6, f7, fb, g1, Int.natCast_nonneg, Int.toNat_natCast, e45, w1, w3, u1, dB, b1, b2, hsub, Tok.cells, tokAt, ty_shapeT_83]
        · simp only [go_sem, Nat.reduceLT, reduceIte, reduceCtorEq, Nat.reduceEqDiff, apply_ite (Option.map (outOf _)), Nat.reduceBEq, Nat.reduceAdd, Nat.reduceSub, Nat.reduceLeDiff, Nat.reduceMul, ty_shapeT_83, ty_zeroCells_83, ev_index ty_descOf_9, good_47, ev_conv_int ty_descOf_5 ty_descOf_3, ev_len_str ty_descOf_9, good_50, good_49, ev_slice_str ty_descOf_9, ev_build ty_zeroCells_83 ty_placesOf_83, ty_szOf_83, keep_51_4, hr, fn, f0, f1, f4, f6, f7, fb, g1, Int.natCast_nonneg, Int.toNat_natCast, e45, w1, w3, u1, u2, u3, dB, b1, b2, hsub, Tok.cells, tokAt, ty_shapeT_83]
      · rw [hnb] at u4 dB
        simp only [if_true] at u4
        rw [← u4] at dN
        rcases u1 with u1 | ⟨u1, d, u2, u3⟩
        · simp only [go_sem, Nat.reduceLT, reduceIte, reduceCtorEq, Nat.reduceEqDiff, apply_ite (Option.map (outOf _)), Nat.reduceBEq, Nat.reduceAdd, Nat.reduceSub, Nat.reduceLeDiff, Nat.reduceMul, ty_shapeT_83, ty_zeroCells_83, ev_index ty_descOf_9, good_47, ev_conv_int ty_descOf_5 ty_descOf_3, ev_len_str ty_descOf_9, good_50, good_49, ev_slice_str ty_descOf_9, ev_build ty_zeroCells_83 ty_placesOf_83, ty_szOf_83, keep_51_4, hr, fn, f0, f1, f4, f6, f7, fb, g1, Int.natCast_nonneg, Int.toNat_natCast, e45, w1, w3, u1, dB, dN, b1, b2, hsub, Tok.cells, tokAt, ty_shapeT_83]
        · simp only [go_sem, Nat.reduceLT, reduceIte, reduceCtorEq, Nat.reduceEqDiff, apply_ite (Option.map (outOf _)), Nat.reduceBEq, Nat.reduceAdd, Nat.reduceSub, Nat.reduceLeDiff, Nat.reduceMul, ty_shapeT_83, ty_zeroCells_83, ev_index ty_descOf_9, good_47, ev_conv_int ty_descOf_5 ty_descOf_3, ev_len_str ty_descOf_9, good_50, good_49, ev_slice_str ty_descOf_9, ev_build ty_zeroCells_83 ty_placesOf_83, ty_szOf_83, keep_51_4, hr, fn, f0, f1, f4, f6, f7, fb, g1, Int.natCast_nonneg, Int.toNat_natCast, e45, w1, w3, u1, u2, u3, dB, dN, b1, b2, hsub, Tok.cells, tokAt, ty_shapeT_83]
  · simp only [if_true] at hj ⊢
    subst hj
    simp only [go_sem, Nat.reduceLT, reduceIte, reduceCtorEq, Nat.reduceEqDiff, apply_ite (Option.map (outOf _)), Nat.reduceBEq, Nat.reduceAdd, Nat.reduceSub, Nat.reduceLeDiff, Nat.reduceMul, ty_shapeT_83, ty_zeroCells_83, ev_index ty_descOf_9, good_47, ev_conv_int ty_descOf_5 ty_descOf_3, ev_len_str ty_descOf_9, good_50, good_49, ev_slice_str ty_descOf_9, ev_build ty_zeroCells_83 ty_placesOf_83, ty_szOf_83, keep_51_4, g1, Int.natCast_nonneg, Int.toNat_natCast, e45, wi]
    rw [exL_head]
    simp only [go_sem, Nat.reduceLT, reduceIte, reduceCtorEq, Nat.reduceEqDiff, apply_ite (Option.map (outOf _)), Nat.reduceBEq, Nat.reduceAdd, Nat.reduceSub, Nat.reduceLeDiff, Nat.reduceMul, ty_shapeT_83, ty_zeroCells_83, ev_index ty_descOf_9, good_47, ev_conv_int ty_descOf_5 ty_descOf_3, ev_len_str ty_descOf_9, good_50, good_49, ev_slice_str ty_descOf_9, ev_build ty_zeroCells_83 ty_placesOf_83, ty_szOf_83, keep_51_4]
    erw [w]
    rcases hunit with ⟨u1, ⟨d, u2, u3⟩, u4⟩ | ⟨u1, u4⟩
    · rw [u4] at b1 b2 hsub ⊢
      simp only [go_sem, Nat.reduceLT, reduceIte, reduceCtorEq, Nat.reduceEqDiff, apply_ite (Option.map (outOf _)), Nat.reduceBEq, Nat.reduceAdd, Nat.reduceSub, Nat.reduceLeDiff, Nat.reduceMul, ty_shapeT_83, ty_zeroCells_83, ev_index ty_descOf_9, good_47, ev_conv_int ty_descOf_5 ty_descOf_3, ev_len_str ty_descOf_9, good_50, good_49, ev_slice_str ty_descOf_9, ev_build ty_zeroCells_83 ty_placesOf_83, ty_szOf_83, keep_51_4, hr, fn, f0, f1, f4, f6, f7, fb, g1, Int.natCast_nonneg, Int.toNat_natCast, e45, w1, w3, u1, u2, u3, b1, b2, hsub, Tok.cells, tokAt, ty_shapeT_83]
    · cases hnb : Tk.nameB (l.drop k)
      · rw [hnb] at u4 dB
        simp only [Bool.false_eq_true, if_false] at u4
        rw [u4] at b1 b2 hsub ⊢
        simp only [Nat.add_zero] at b1 b2 hsub ⊢
        rcases u1 with u1 | ⟨u1, d, u2, u3⟩
        · simp only [go_sem, Nat.reduceLT, reduceIte, reduceCtorEq, Nat.reduceEqDiff, apply_ite (Option.map (outOf _)), Nat.reduceBEq, Nat.reduceAdd, Nat.reduceSub, Nat.reduceLeDiff, Nat.reduceMul, ty_shapeT_83, ty_zeroCells_83, ev_index ty_descOf_9, good_47, ev_conv_int ty_descOf_5 ty_descOf_3, ev_len_str ty_descOf_9, good_50, good_49, ev_slice_str ty_descOf_9, ev_build ty_zeroCells_83 ty_placesOf_83, ty_szOf_83, keep_51_4, hr, fn, f0, f1, f4, f6, f7, fb, g1, Int.natCast_nonneg, Int.toNat_natCast, e45, w1, w3, u1, dB, b1, b2, hsub, Tok.cells, tokAt, ty_shapeT_83]
        · simp only [go_sem, Nat.reduceLT, reduceIte, reduceCtorEq, Nat.reduceEqDiff, apply_ite (Option.map (outOf _)), Nat.reduceBEq, Nat.reduceAdd, Nat.reduceSub, Nat.reduceLeDiff, Nat.reduceMul, ty_shapeT_83, ty_zeroCells_83, ev_index ty_descOf_9, good_47, ev_conv_int ty_descOf_5 ty_descOf_3, ev_len_str ty_descOf_9, good_50, good_49, ev_slice_str ty_descOf_9, ev_build ty_zeroCells_83 ty_placesOf_83, ty_szOf_83, keep_51_4, hr, fn, f0, f1, f4, f6, f7, fb, g1, Int.natCast_nonneg, Int.toNat_natCast, e45, w1, w3, u1, u2, u3, dB, b1, b2, hsub, Tok.cells, tokAt, ty_shapeT_83]
      · rw [hnb] at u4 dB
        simp only [if_true] at u4
        rw [← u4] at dN
        rcases u1 with u1 | ⟨u1, d, u2, u3⟩
        · simp only [go_sem, Nat.reduceLT, reduceIte, reduceCtorEq, Nat.reduceEqDiff, apply_ite (Option.map (outOf _)), Nat.reduceBEq, Nat.reduceAdd, Nat.reduceSub, Nat.reduceLeDiff, Nat.reduceMul, ty_shapeT_83, ty_zeroCells_83, ev_index ty_descOf_9, good_47, ev_conv_int ty_descOf_5 ty_descOf_3, ev_len_str ty_descOf_9, good_50, good_49, ev_slice_str ty_descOf_9, ev_build ty_zeroCells_83 ty_placesOf_83, ty_szOf_83, keep_51_4, hr, fn, f0, f1, f4, f6, f7, fb, g1, Int.natCast_nonneg, Int.toNat_natCast, e45, w1, w3, u1, dB, dN, b1, b2, hsub, Tok.cells, tokAt, ty_shapeT_83]
        · simp only [go_sem, Nat.reduceLT, reduceIte, reduceCtorEq, Nat.reduceEqDiff, apply_ite (Option.map (outOf _)), Nat.reduceBEq, Nat.reduceAdd, Nat.reduceSub, Nat.reduceLeDiff, Nat.reduceMul, ty_shapeT_83, ty_zeroCells_83, ev_index ty_descOf_9, good_47, ev_conv_int ty_descOf_5 ty_descOf_3, ev_len_str ty_descOf_9, good_50, good_49, ev_slice_str ty_descOf_9, ev_build ty_zeroCells_83 ty_placesOf_83, ty_szOf_83, keep_51_4, hr, fn, f0, f1, f4, f6, f7, fb, g1, Int.natCast_nonneg, Int.toNat_natCast, e45, w1, w3, u1, u2, u3, dB, dN, b1, b2, hsub, Tok.cells, tokAt, ty_shapeT_83]
end Go.Abs
