/-
  WHAT THE FUNCTIONS COMPUTE, layer 4, the document's reader of selectors: lists of them; texts.
-/
import Derived.Test.YtmcjabhnmealgaaDoorQSpecL10b
import Derived.Test.YtmcjabhnmealgaaDoorQT
import Derived.Test.YtmcjabhnmealgaaDoorQE
set_option linter.unusedSimpArgs false
set_option linter.unusedVariables false
namespace Go.Abs
open Go Go.Proofs
set_option maxRecDepth 10000
attribute [local go_sem] exL_seq exL_region exL_cond exL_block exL_scope exL_ret exL_skip exL_exit runRegion runOps stepOp guardA absOp takeOver opd avOf cvOf St.degAt St.put okPV okVal okAV absBin intBin strBin boolBin setBoxes if_true Bool.false_eq_true if_false Option.map_some Option.map_none Option.bind_some Option.bind_none thenO outOf upd List.toList_toArray isOwn steal appArgs inApps AV.deg CV.deg AV.gv AV.isIter absNext some_bne List.length_nil List.length_cons List.filterMap_cons List.filterMap_nil beq_iff_eq List.getElem?_cons_zero List.getElem?_cons_succ Option.getD_some K_hook hookB Bool.false_and Bool.and_false Bool.and_self K_P K_own absCall doCall getBoxes lend back idx dedup AV.ren CV.ren TV.ren AV.ptrs CV.ptrs zipBox AV.flat CV.flat absLoad absStore cellsOfAV setAt newBox markB bldTypes absFieldAddr absField absExtract absAssert noAssert absMkIface ifcOf CV.pv? content pushHead ownT fillCells reps pvs chunks enterSt leave resOf resVars resVar outBoxes lentOnly TV.deg TV.av LK CV.plain CV.noBld nilBin absUn bound List.map_cons List.map_nil List.all_cons List.all_nil List.any_cons List.any_nil List.contains_cons List.contains_nil List.elem_cons List.elem_nil List.cons_append List.nil_append List.append_nil List.flatMap_cons List.flatMap_nil List.zip_cons_cons List.zip_nil_left List.zip_nil_right List.take_succ_cons List.take_zero List.take_nil List.drop_succ_cons List.drop_zero List.drop_nil List.isEmpty_nil List.isEmpty_cons Bool.and_true Bool.true_and Bool.or_true Bool.true_or Bool.or_false Bool.false_or Bool.not_true Bool.not_false Nat.add_zero Nat.zero_add Option.isNone_none Option.isNone_some Option.getD_none true_and and_true not_true_eq_false not_false_eq_true decide_true decide_false Nat.le_refl and_self Bool.not_eq_true Nat.sub_self or_true true_or Option.some.injEq List.length_map List.nil_eq and_false false_and AV.live CV.live CV.liveIn K_keep firstReg Option.orElse_some Option.orElse_none head keepSlots keepBoxes Int.lt_irrefl List.length_append ite_self memOK logOps opKey lentBoxes Key.clash Key.sees Key.writes Nat.lt_irrefl gt_iff_lt nobox_at bot_at false_or or_false beq_self_eq_true Bool.true_beq Bool.false_beq

abbrev encC (l : List Cpx) : List (List PV) := l.map Cpx.enc
theorem lens_cpxs (l : List Cpx) : lens 2 (encC l) = true := by
  simp only [lens, List.all_map, List.all_eq_true]
  intro x _
  rfl
theorem snoc_cpx (l : List Cpx) (c : Cpx) : encC l ++ [[.sl (encQ c.parts), .str c.pseudo]] = encC (l ++ [c]) := by
  show _ = (l ++ [c]).map Cpx.enc
  rw [List.map_append]; rfl
theorem encP_len (l : List (List Val)) : (encP l).length = l.length := List.length_map ..

abbrev psH (parts : List (List Val)) (i e : Nat) (out : List Cpx) : St :=
  { sl := upd (upd (upd bot 6 (I i)) 5 (L (encP parts))) 4 (.c (.own e (encC out))), bx := nobox, nt := 38 }
noncomputable def pslp : Code := .loop (loopAt Tryd.f12 4)

theorem parse_end (parts : List (List Val)) (e : Nat) (out : List Cpx) :
    Ends (exL K 12 pslp (psH parts parts.length e out)) fun o S => o = .exit 0 ∧ S.nt = 38 ∧ S.sl 4 = .c (.own e (encC out)) := by
  have hlt : decide ((parts.length : Int) < (parts.length : Int)) = false := decide_eq_false (by omega)
  unfold pslp
  conv in loopAt _ _ => whnf
  rw [exL_loop]
  simp only [go_sem, Nat.reduceLT, reduceIte, reduceCtorEq, Nat.reduceEqDiff, apply_ite (Option.map (outOf _)), Nat.reduceBEq, Nat.reduceAdd, Nat.reduceSub, Nat.reduceLeDiff, Nat.reduceMul, ev_buildSlice (len := 0) ty_descOf_23 ty_szOf_38 ty_zeroCells_38 ⟨rfl, by decide, by decide⟩, good_23, ev_len_sl ty_descOf_63, ev_indexAddr ty_descOf_63, ty_szOf_39, ty_shapeT_39, good_22, good_24, ty_zeroCells_38, ty_szOf_38, ty_shapeT_38, ev_buildSlice (len := 1) ty_descOf_23 ty_szOf_38 ty_zeroCells_38 ⟨rfl, by decide, by decide⟩, ev_append ty_appInfo_23, ev_appNew_sl ty_descOf_23, keep_12_4, encP_len, hlt, ends_some]

set_option maxHeartbeats 8000000 in
theorem parse_no (parts : List (List Val)) (i e : Nat) (out : List Cpx) (p : List Val) (hi : parts[i]? = some p) (hpl : parts.length ≤ 200000000) (hsz : Ne.size p ≤ 100000000) (hts : TSh p)
    (h : Sl.cpx 16 0 (Sl.trim p) = none ∨ 32 ≤ i) :
    Ends (exL K 12 pslp (psH parts i e out)) fun o S => o = .ret ∧ S.sl 2 = .c .nils ∧ S.sl 3 = I 40 := by
  have hil : i < parts.length := (List.getElem?_eq_some_iff.1 hi).1
  have hlt : decide ((i : Int) < (parts.length : Int)) = true := decide_eq_true (by omega)
  have hget : (encP parts)[(i : Int).toNat]? = some [.sl (encL p)] := by simp [hi]
  have ht := Trim_den p (Nat.le_trans (Ne.length_size p) hsz)
  have hc := complex1_den (Sl.trim p) (Nat.le_trans (size_trim p) hsz) (ts_trim hts)
  unfold pslp
  conv in loopAt _ _ => whnf
  rw [exL_loop]
  cases hx : Sl.cpx 16 0 (Sl.trim p) with
  | none =>
    rw [hx] at hc
    unfold cpxA at hc
    simp only at hc
    simp only [go_sem, Nat.reduceLT, reduceIte, reduceCtorEq, Nat.reduceEqDiff, apply_ite (Option.map (outOf _)), Nat.reduceBEq, Nat.reduceAdd, Nat.reduceSub, Nat.reduceLeDiff, Nat.reduceMul, ev_buildSlice (len := 0) ty_descOf_23 ty_szOf_38 ty_zeroCells_38 ⟨rfl, by decide, by decide⟩, good_23, ev_len_sl ty_descOf_63, ev_indexAddr ty_descOf_63, ty_szOf_39, ty_shapeT_39, good_22, good_24, ty_zeroCells_38, ty_szOf_38, ty_shapeT_38, ev_buildSlice (len := 1) ty_descOf_23 ty_szOf_38 ty_zeroCells_38 ⟨rfl, by decide, by decide⟩, ev_append ty_appInfo_23, ev_appNew_sl ty_descOf_23, keep_12_4, encP_len, hlt, hget, Int.natCast_nonneg, ht, hc, TV.flat, ends_some]
  | some c =>
    rw [hx] at hc h
    unfold cpxA at hc
    simp only at hc
    have h32 : 32 ≤ i := by
      rcases h with h | h
      · cases h
      · exact h
    have e32 : decide ((32 : Int) ≤ (i : Int)) = true := decide_eq_true (by omega)
    simp only [go_sem, Nat.reduceLT, reduceIte, reduceCtorEq, Nat.reduceEqDiff, apply_ite (Option.map (outOf _)), Nat.reduceBEq, Nat.reduceAdd, Nat.reduceSub, Nat.reduceLeDiff, Nat.reduceMul, ev_buildSlice (len := 0) ty_descOf_23 ty_szOf_38 ty_zeroCells_38 ⟨rfl, by decide, by decide⟩, good_23, ev_len_sl ty_descOf_63, ev_indexAddr ty_descOf_63, ty_szOf_39, ty_shapeT_39, good_22, good_24, ty_zeroCells_38, ty_szOf_38, ty_shapeT_38, ev_buildSlice (len := 1) ty_descOf_23 ty_szOf_38 ty_zeroCells_38 ⟨rfl, by decide, by decide⟩, ev_append ty_appInfo_23, ev_appNew_sl ty_descOf_23, keep_12_4, encP_len, hlt, hget, Int.natCast_nonneg, ht, hc, e32, TV.flat, ends_some]

set_option maxHeartbeats 8000000 in
theorem parse_yes (parts : List (List Val)) (i e : Nat) (out : List Cpx) (p : List Val) (hi : parts[i]? = some p) (hpl : parts.length ≤ 200000000) (hsz : Ne.size p ≤ 100000000) (hts : TSh p) (ho : out.length ≤ 100) (he : e = 38 ∨ out = [])
    (c : Cpx) (hx : Sl.cpx 16 0 (Sl.trim p) = some c) (h32 : i < 32) :
    exL K 12 pslp (psH parts i e out) = exL K 12 pslp (psH parts (i + 1) 38 (out ++ [c])) := by
  have hil : i < parts.length := (List.getElem?_eq_some_iff.1 hi).1
  have hlt : decide ((i : Int) < (parts.length : Int)) = true := decide_eq_true (by omega)
  have hget : (encP parts)[(i : Int).toNat]? = some [.sl (encL p)] := by simp [hi]
  have ht := Trim_den p (Nat.le_trans (Ne.length_size p) hsz)
  have hc := complex1_den (Sl.trim p) (Nat.le_trans (size_trim p) hsz) (ts_trim hts)
  rw [hx] at hc
  unfold cpxA at hc
  simp only at hc
  have e32 : decide ((32 : Int) ≤ (i : Int)) = false := decide_eq_false (by omega)
  have hw : IntKind.i64.wrap ((i : Int) + 1) = ((i + 1 : Nat) : Int) := wrap_nat i (by omega)
  have hown : e = 38 ∨ (encC out).isEmpty = true := by
    rcases he with rfl | rfl
    · exact .inl rfl
    · exact .inr rfl
  have hlim : out.length + 1 < appLim := by unfold appLim; omega
  have hlv := lens_cpxs out
  unfold pslp
  conv in loopAt _ _ => whnf
  conv in loopAt _ _ => whnf
  conv in exL _ _ _ (psH parts i e out) => rw [exL_loop]
  simp only [go_sem, Nat.reduceLT, reduceIte, reduceCtorEq, Nat.reduceEqDiff, apply_ite (Option.map (outOf _)), Nat.reduceBEq, Nat.reduceAdd, Nat.reduceSub, Nat.reduceLeDiff, Nat.reduceMul, ev_buildSlice (len := 0) ty_descOf_23 ty_szOf_38 ty_zeroCells_38 ⟨rfl, by decide, by decide⟩, good_23, ev_len_sl ty_descOf_63, ev_indexAddr ty_descOf_63, ty_szOf_39, ty_shapeT_39, good_22, good_24, ty_zeroCells_38, ty_szOf_38, ty_shapeT_38, ev_buildSlice (len := 1) ty_descOf_23 ty_szOf_38 ty_zeroCells_38 ⟨rfl, by decide, by decide⟩, ev_append ty_appInfo_23, ev_appNew_sl ty_descOf_23, keep_12_4, encP_len, hlt, hget, Int.natCast_nonneg, ht, hc, e32, hw, hown, hlim, hlv, lens_prt, snoc_cpx, TV.flat]
  rw [exL_head]
  simp only [go_sem, Nat.reduceLT, reduceIte, reduceCtorEq, Nat.reduceEqDiff, apply_ite (Option.map (outOf _)), Nat.reduceBEq, Nat.reduceAdd, Nat.reduceSub, Nat.reduceLeDiff, Nat.reduceMul, ev_buildSlice (len := 0) ty_descOf_23 ty_szOf_38 ty_zeroCells_38 ⟨rfl, by decide, by decide⟩, good_23, ev_len_sl ty_descOf_63, ev_indexAddr ty_descOf_63, ty_szOf_39, ty_shapeT_39, good_22, good_24, ty_zeroCells_38, ty_szOf_38, ty_shapeT_38, ev_buildSlice (len := 1) ty_descOf_23 ty_szOf_38 ty_zeroCells_38 ⟨rfl, by decide, by decide⟩, ev_append ty_appInfo_23, ev_appNew_sl ty_descOf_23, keep_12_4]

theorem parse_loop (parts : List (List Val)) (hpl : parts.length ≤ 200000000) (hp : ∀ p ∈ parts, Ne.size p ≤ 100000000 ∧ TSh p) : ∀ (rest : List (List Val)) (i e : Nat) (out : List Cpx), parts.drop i = rest → i ≤ parts.length → i ≤ 32 → out.length = i → (e = 38 ∨ out = []) →
    Ends (exL K 12 pslp (psH parts i e out)) fun o S => match (if parts.length ≤ 32 then Sl.all_ rest else none) with
      | some cs => o = .exit 0 ∧ S.nt = 38 ∧ ∃ e', S.sl 4 = .c (.own e' (encC (out ++ cs)))
      | none => o = .ret ∧ S.sl 2 = .c .nils ∧ S.sl 3 = I 40
  | [], i, e, out, hd, hi, h32, hol, he => by
    have hin : i = parts.length := by
      have := List.drop_eq_nil_iff.1 hd
      omega
    have h3 : parts.length ≤ 32 := by omega
    have hall : Sl.all_ [] = some [] := rfl
    rw [if_pos h3, hall]
    subst hin
    refine ends_imp (parse_end parts e out) fun o S q => ⟨q.1, q.2.1, e, ?_⟩
    rw [List.append_nil]
    exact q.2.2
  | p :: rest, i, e, out, hd, hi, h32, hol, he => by
    obtain ⟨g1, g2, g3⟩ := drop_cons hd
    have hpm := hp p (List.mem_of_getElem? g1)
    cases hx : Sl.cpx 16 0 (Sl.trim p) with
    | none =>
      have hall : (if parts.length ≤ 32 then Sl.all_ (p :: rest) else none) = none := by
        split
        · rw [Sl.all_, hx]
        · rfl
      rw [hall]
      exact parse_no parts i e out p g1 hpl hpm.1 hpm.2 (.inl hx)
    | some c =>
      by_cases hi32 : 32 ≤ i
      · have h3 : ¬ parts.length ≤ 32 := by omega
        rw [if_neg h3]
        exact parse_no parts i e out p g1 hpl hpm.1 hpm.2 (.inr hi32)
      · rw [parse_yes parts i e out p g1 hpl hpm.1 hpm.2 (by omega) he c hx (by omega)]
        refine ends_imp (parse_loop parts hpl hp rest (i + 1) 38 (out ++ [c]) g2 (by omega) (by omega) (by rw [List.length_append, List.length_singleton]; omega) (.inl rfl)) fun o S q => ?_
        by_cases h3 : parts.length ≤ 32
        · rw [if_pos h3] at q ⊢
          rw [Sl.all_, hx]
          cases ha : Sl.all_ rest with
          | none => rw [ha] at q; exact q
          | some cs =>
            rw [ha] at q
            simp only at q ⊢
            rw [List.append_assoc, List.singleton_append] at q
            exact q
        · rw [if_neg h3] at q ⊢
          exact q

def parseA (x : Option (List Cpx)) : AV := match x with
  | some cs => .tup [.c (.pv (.sl (encC cs))), .c (.pv (.int .i64 0))]
  | none => .tup [.c .nils, .c (.pv (.int .i64 40))]

theorem at_size (s : List UInt8) : ∀ (l : List Val), (Sl.at_ s l).length ≤ l.length + 1 ∧ ∀ p ∈ Sl.at_ s l, Ne.size p ≤ Ne.size l
  | [] => by
    refine ⟨Nat.le_refl _, fun p hp => ?_⟩
    obtain rfl : p = [] := by simpa [Sl.at_] using hp
    exact Nat.le_refl _
  | v :: l => by
    obtain ⟨h1, h2⟩ := at_size s l
    rw [Sl.at_, Ne.size]
    split
    · refine ⟨by rw [List.length_cons, List.length_cons]; omega, fun p hp => ?_⟩
      rcases List.mem_cons.1 hp with rfl | hp
      · rw [Ne.size]; omega
      · have := h2 p hp; omega
    · split
      · refine ⟨by rw [List.length_singleton, List.length_cons]; omega, fun p hp => ?_⟩
        obtain rfl : p = [v] := by simpa using hp
        rw [Ne.size, Ne.size]; omega
      · rename_i q qs e
        rw [e] at h1 h2
        refine ⟨by rw [List.length_cons] at h1 ⊢; rw [List.length_cons]; omega, fun p hp => ?_⟩
        rcases List.mem_cons.1 hp with rfl | hp
        · rw [Ne.size]
          have := h2 q (by simp)
          omega
        · have := h2 p (by simp [hp]); omega

set_option maxHeartbeats 8000000 in
theorem Parse4_den (l : List Val) (hsz : Ne.size l ≤ 100000000) (hts : TSh l) : den K 12 [L (encL l)] [] = some (.ret (parseA (Sl.parse l)) []) := by
  have hr : Tryd.f12.results = #[.tmp 2, .tmp 3] := rfl
  have hl : l.length ≤ 100000000 := Nat.le_trans (Ne.length_size l) hsz
  have hat := At_den l [44] hl
  obtain ⟨a1, a2⟩ := at_size [44] l
  have a3 := Sl.at_mem [44] l
  unfold Sl.parse parseA
  generalize Sl.at_ [44] l = parts at hat a1 a2 a3
  have z0 : ((0 : Nat) : Int) = 0 := rfl
  have h := parse_loop parts (by omega) (fun p hp => ⟨Nat.le_trans (a2 p hp) hsz, ts_sub hts (a3 p hp)⟩) parts 0 38 [] rfl (Nat.zero_le _) (by omega) rfl (.inl rfl)
  obtain ⟨o, S, w, h⟩ := h
  unfold pslp at w
  conv at w in loopAt _ _ => whnf
  have en : encC [] = [] := rfl
  simp only [psH, z0, en] at w
  cases hx : (if parts.length ≤ 32 then Sl.all_ parts else none) with
  | some cs =>
    rw [hx] at h
    obtain ⟨rfl, hn, e', s4⟩ := h
    rw [List.nil_append] at s4
    refine den_run rfl Tryd.func12 rfl Tryd.ntmps12 ⟨by simp, by simp [LK]⟩ ?_
    simp only [go_sem, Nat.reduceLT, reduceIte, reduceCtorEq, Nat.reduceEqDiff, apply_ite (Option.map (outOf _)), Nat.reduceBEq, Nat.reduceAdd, Nat.reduceSub, Nat.reduceLeDiff, Nat.reduceMul, ev_buildSlice (len := 0) ty_descOf_23 ty_szOf_38 ty_zeroCells_38 ⟨rfl, by decide, by decide⟩, good_23, ev_len_sl ty_descOf_63, ev_indexAddr ty_descOf_63, ty_szOf_39, ty_shapeT_39, good_22, good_24, ty_zeroCells_38, ty_szOf_38, ty_shapeT_38, ev_buildSlice (len := 1) ty_descOf_23 ty_szOf_38 ty_zeroCells_38 ⟨rfl, by decide, by decide⟩, ev_append ty_appInfo_23, ev_appNew_sl ty_descOf_23, keep_12_4, hat]
    rw [exL_head]
    simp only [go_sem, Nat.reduceLT, reduceIte, reduceCtorEq, Nat.reduceEqDiff, apply_ite (Option.map (outOf _)), Nat.reduceBEq, Nat.reduceAdd, Nat.reduceSub, Nat.reduceLeDiff, Nat.reduceMul, ev_buildSlice (len := 0) ty_descOf_23 ty_szOf_38 ty_zeroCells_38 ⟨rfl, by decide, by decide⟩, good_23, ev_len_sl ty_descOf_63, ev_indexAddr ty_descOf_63, ty_szOf_39, ty_shapeT_39, good_22, good_24, ty_zeroCells_38, ty_szOf_38, ty_shapeT_38, ev_buildSlice (len := 1) ty_descOf_23 ty_szOf_38 ty_zeroCells_38 ⟨rfl, by decide, by decide⟩, ev_append ty_appInfo_23, ev_appNew_sl ty_descOf_23, keep_12_4]
    erw [w]
    simp only [go_sem, Nat.reduceLT, reduceIte, reduceCtorEq, Nat.reduceEqDiff, apply_ite (Option.map (outOf _)), Nat.reduceBEq, Nat.reduceAdd, Nat.reduceSub, Nat.reduceLeDiff, Nat.reduceMul, ev_buildSlice (len := 0) ty_descOf_23 ty_szOf_38 ty_zeroCells_38 ⟨rfl, by decide, by decide⟩, good_23, ev_len_sl ty_descOf_63, ev_indexAddr ty_descOf_63, ty_szOf_39, ty_shapeT_39, good_22, good_24, ty_zeroCells_38, ty_szOf_38, ty_shapeT_38, ev_buildSlice (len := 1) ty_descOf_23 ty_szOf_38 ty_zeroCells_38 ⟨rfl, by decide, by decide⟩, ev_append ty_appInfo_23, ev_appNew_sl ty_descOf_23, keep_12_4, hr, hn, s4, TV.flat]
  | none =>
    rw [hx] at h
    obtain ⟨rfl, s2, s3⟩ := h
    refine den_run rfl Tryd.func12 rfl Tryd.ntmps12 ⟨by simp, by simp [LK]⟩ ?_
    simp only [go_sem, Nat.reduceLT, reduceIte, reduceCtorEq, Nat.reduceEqDiff, apply_ite (Option.map (outOf _)), Nat.reduceBEq, Nat.reduceAdd, Nat.reduceSub, Nat.reduceLeDiff, Nat.reduceMul, ev_buildSlice (len := 0) ty_descOf_23 ty_szOf_38 ty_zeroCells_38 ⟨rfl, by decide, by decide⟩, good_23, ev_len_sl ty_descOf_63, ev_indexAddr ty_descOf_63, ty_szOf_39, ty_shapeT_39, good_22, good_24, ty_zeroCells_38, ty_szOf_38, ty_shapeT_38, ev_buildSlice (len := 1) ty_descOf_23 ty_szOf_38 ty_zeroCells_38 ⟨rfl, by decide, by decide⟩, ev_append ty_appInfo_23, ev_appNew_sl ty_descOf_23, keep_12_4, hat]
    rw [exL_head]
    simp only [go_sem, Nat.reduceLT, reduceIte, reduceCtorEq, Nat.reduceEqDiff, apply_ite (Option.map (outOf _)), Nat.reduceBEq, Nat.reduceAdd, Nat.reduceSub, Nat.reduceLeDiff, Nat.reduceMul, ev_buildSlice (len := 0) ty_descOf_23 ty_szOf_38 ty_zeroCells_38 ⟨rfl, by decide, by decide⟩, good_23, ev_len_sl ty_descOf_63, ev_indexAddr ty_descOf_63, ty_szOf_39, ty_shapeT_39, good_22, good_24, ty_zeroCells_38, ty_szOf_38, ty_shapeT_38, ev_buildSlice (len := 1) ty_descOf_23 ty_szOf_38 ty_zeroCells_38 ⟨rfl, by decide, by decide⟩, ev_append ty_appInfo_23, ev_appNew_sl ty_descOf_23, keep_12_4]
    erw [w]
    simp only [go_sem, Nat.reduceLT, reduceIte, reduceCtorEq, Nat.reduceEqDiff, apply_ite (Option.map (outOf _)), Nat.reduceBEq, Nat.reduceAdd, Nat.reduceSub, Nat.reduceLeDiff, Nat.reduceMul, ev_buildSlice (len := 0) ty_descOf_23 ty_szOf_38 ty_zeroCells_38 ⟨rfl, by decide, by decide⟩, good_23, ev_len_sl ty_descOf_63, ev_indexAddr ty_descOf_63, ty_szOf_39, ty_shapeT_39, good_22, good_24, ty_zeroCells_38, ty_szOf_38, ty_shapeT_38, ev_buildSlice (len := 1) ty_descOf_23 ty_szOf_38 ty_zeroCells_38 ⟨rfl, by decide, by decide⟩, ev_append ty_appInfo_23, ev_appNew_sl ty_descOf_23, keep_12_4, hr, s2, s3, TV.flat]

/-! ### texts -/

def valsA (x : Option (List Val)) : AV := match x with
  | some v => .tup [.c (.pv (.sl (encL v))), .c (.pv (.int .i64 0))]
  | none => .tup [.c .nils, .c (.pv (.int .i64 20))]

theorem parse60 (l : List Tok) : parseR2 60 l = valsA (Ne.parse 60 l) := by
  unfold parseR2 valsA
  rw [if_neg (by omega)]
  unfold Ne.parse
  show (match Ne.until_ 0 60 l with | some x => _ | none => _) = _
  cases Ne.until_ 0 60 l <;> rfl

theorem all_count (s : List UInt8) : (Tk.all s).length ≤ s.length := Tk.all_len s

set_option maxHeartbeats 8000000 in
theorem Read3_den (s : List UInt8) (hs : s.length ≤ 100000000) : den K 11 [T s] [] = some (.ret (valsA ((Ne.parse 60 (Tk.all s)).map Sl.trim)) []) := by
  have hr : Tryd.f11.results = #[.tmp 2, .tmp 3] := rfl
  have h1 := All1_den s (by omega)
  have hc := all_count s
  have h2 := Parse2_den (Tk.all s) (by omega) 60
  rw [parse60] at h2
  cases hx : Ne.parse 60 (Tk.all s) with
  | none =>
    rw [hx] at h2
    unfold valsA at h2 ⊢
    simp only [Option.map_none] at h2 ⊢
    refine den_run rfl Tryd.func11 rfl Tryd.ntmps11 ⟨by simp, by simp [LK]⟩ ?_
    simp only [go_sem, Nat.reduceLT, reduceIte, reduceCtorEq, Nat.reduceEqDiff, apply_ite (Option.map (outOf _)), Nat.reduceBEq, Nat.reduceAdd, Nat.reduceSub, Nat.reduceLeDiff, Nat.reduceMul, good_21, good_20, good_22, hr, h1, h2, TV.flat, Int.reduceEq, Int.reduceBNe]
  | some v =>
    have hv := (Ne.parse_good hx).2.2.1
    have h3 := Trim_den v (Nat.le_trans (Ne.length_size v) (by omega))
    rw [hx] at h2
    unfold valsA at h2 ⊢
    simp only [Option.map_some] at h2 ⊢
    refine den_run rfl Tryd.func11 rfl Tryd.ntmps11 ⟨by simp, by simp [LK]⟩ ?_
    simp only [go_sem, Nat.reduceLT, reduceIte, reduceCtorEq, Nat.reduceEqDiff, apply_ite (Option.map (outOf _)), Nat.reduceBEq, Nat.reduceAdd, Nat.reduceSub, Nat.reduceLeDiff, Nat.reduceMul, good_21, good_20, good_22, hr, h1, h2, h3, TV.flat, Int.reduceEq, Int.reduceBNe]

theorem ts_flat {l : List Tok} {v : List Val} {n : Nat} (h : Ne.parse 60 l = some v) (hl : ∀ t ∈ l, t.text.length ≤ n) (hn : n < 1000000000) : TSh v := fun t ht => by
  obtain ⟨_, _, _, c, hc⟩ := Ne.parse_good h
  rw [hc] at ht
  rcases List.mem_append.1 ht with ht | ht
  · have := hl t ht; omega
  · obtain ⟨k, _, rfl⟩ := List.mem_map.1 ht
    unfold Ne.closeT
    simp

set_option maxHeartbeats 8000000 in
theorem Read4_den (s : List UInt8) (hs : s.length ≤ 100000000) : den K 5 [T s] [] = some (.ret (parseA (Sl.read s)) []) := by
  have hr : Tryd.f5.results = #[.tmp 2, .tmp 3] := rfl
  have h1 := Read3_den s hs
  unfold Sl.read
  cases hx : Ne.parse 60 (Tk.all s) with
  | none =>
    rw [hx] at h1
    unfold valsA at h1
    unfold parseA
    simp only [Option.map_none, Option.bind_none] at h1 ⊢
    refine den_run rfl Tryd.func5 rfl Tryd.ntmps5 ⟨by simp, by simp [LK]⟩ ?_
    simp only [go_sem, Nat.reduceLT, reduceIte, reduceCtorEq, Nat.reduceEqDiff, apply_ite (Option.map (outOf _)), Nat.reduceBEq, Nat.reduceAdd, Nat.reduceSub, Nat.reduceLeDiff, Nat.reduceMul, good_11, good_12, hr, h1, TV.flat, Int.reduceEq, Int.reduceBNe]
  | some v =>
    have hv := (Ne.parse_good hx).2.2.1
    have hc := all_count s
    have hts := ts_flat hx (Tk.all_text s) (by omega)
    have h2 := Parse4_den (Sl.trim v) (Nat.le_trans (size_trim v) (by omega)) (ts_trim hts)
    rw [hx] at h1
    unfold valsA at h1
    simp only [Option.map_some, Option.bind_some] at h1 ⊢
    unfold parseA at h2 ⊢
    cases hy : Sl.parse (Sl.trim v) with
    | none =>
      rw [hy] at h2
      simp only at h2 ⊢
      refine den_run rfl Tryd.func5 rfl Tryd.ntmps5 ⟨by simp, by simp [LK]⟩ ?_
      simp only [go_sem, Nat.reduceLT, reduceIte, reduceCtorEq, Nat.reduceEqDiff, apply_ite (Option.map (outOf _)), Nat.reduceBEq, Nat.reduceAdd, Nat.reduceSub, Nat.reduceLeDiff, Nat.reduceMul, good_11, good_12, hr, h1, h2, TV.flat, Int.reduceEq, Int.reduceBNe]
    | some cs =>
      rw [hy] at h2
      simp only at h2 ⊢
      refine den_run rfl Tryd.func5 rfl Tryd.ntmps5 ⟨by simp, by simp [LK]⟩ ?_
      simp only [go_sem, Nat.reduceLT, reduceIte, reduceCtorEq, Nat.reduceEqDiff, apply_ite (Option.map (outOf _)), Nat.reduceBEq, Nat.reduceAdd, Nat.reduceSub, Nat.reduceLeDiff, Nat.reduceMul, good_11, good_12, hr, h1, h2, TV.flat, Int.reduceEq, Int.reduceBNe]
end Go.Abs
