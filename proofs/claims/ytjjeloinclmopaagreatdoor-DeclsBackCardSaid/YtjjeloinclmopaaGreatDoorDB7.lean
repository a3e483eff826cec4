/-
  WHAT THE FUNCTIONS COMPUTE, layer 1, the document's answer: the text of tokens.
  WHAT THE FUNCTIONS COMPUTE, layer 3: the text of values, the values of a text.
  Layer 3: bounds on the texts of values that the laws meet.
  THE FIXED CALLS OF LAYER 7 answer as the document says: the interpreter's run, by the kernel.
  Layer 7: bounds on the declarations that the laws meet.
  DeclsBack, as the interpreter answers it: true, whatever the declarations and the text are.
  FROM A ROW's READING TO THE INTERPRETER's VALUES: an argument that reads as data is data without memory; a law whose answer the interpreter gives as 'true' meets its row.
  DATA OF A TYPE: what reads as a value of a struct, of a slice; what reads as tokens, and as values.
  DATA OF A TYPE: what reads as declarations.
  WHAT READS AS THE ARGUMENTS: the statement DeclsBack.
-/
import Derived.Test.YtjjeloinclmopaaGreatDoorRows
import Derived.ReadAgain
import Derived.ChangeBears
import Derived.RowKit
import Derived.OpenShut
import Derived.SizedLaws
import Derived.Deep.DeepHandedRow
import Derived.Lib.LaidTab
import Derived.Test.YtjjeloinclmopaaGreatDoorDB6
set_option linter.unusedSimpArgs false
set_option linter.unusedVariables false
namespace Go.Abs
open Go Go.Proofs
set_option maxRecDepth 10000
attribute [local go_sem] exL_seq exL_region exL_cond exL_block exL_scope exL_ret exL_skip exL_exit runRegion runOps stepOp guardA absOp takeOver opd avOf cvOf St.degAt St.put okPV okVal okAV absBin intBin strBin boolBin setBoxes if_true Bool.false_eq_true if_false Option.map_some Option.map_none Option.bind_some Option.bind_none thenO outOf upd List.toList_toArray isOwn steal appArgs mvB inApps AV.deg CV.deg AV.gv AV.isIter absNext some_bne some_beqN List.length_nil List.length_cons List.filterMap_cons List.filterMap_nil beq_iff_eq List.getElem?_cons_zero List.getElem?_cons_succ Option.getD_some K_hook hookB Bool.false_and Bool.and_false Bool.and_self K_P K_own absCall doCall getBoxes lend back idx dedup AV.ren CV.ren TV.ren AV.ptrs CV.ptrs zipBox AV.flat CV.flat absLoad absStore cellsOfAV setAt newBox markB bldTypes absFieldAddr absField absExtract absAssert noAssert absMkIface ifcOf CV.pv? content pushHead ownT fillCells reps pvs chunks enterSt leave resOf resVars resVar outBoxes lentOnly TV.deg TV.av LK CV.plain CV.noBld nilBin absUn bound List.map_cons List.map_nil List.all_cons List.all_nil List.any_cons List.any_nil List.contains_cons List.contains_nil List.elem_cons List.elem_nil List.cons_append List.nil_append List.append_nil List.flatMap_cons List.flatMap_nil List.zip_cons_cons List.zip_nil_left List.zip_nil_right List.take_succ_cons List.take_zero List.take_nil List.drop_succ_cons List.drop_zero List.drop_nil List.isEmpty_nil List.isEmpty_cons Bool.and_true Bool.true_and Bool.or_true Bool.true_or Bool.or_false Bool.false_or Bool.not_true Bool.not_false Nat.add_zero Nat.zero_add Option.isNone_none Option.isNone_some Option.getD_none true_and and_true not_true_eq_false not_false_eq_true decide_true decide_false Nat.le_refl and_self Bool.not_eq_true Nat.sub_self or_true true_or Option.some.injEq List.length_map List.nil_eq and_false false_and AV.live CV.live CV.liveIn K_keep firstReg Option.orElse_some Option.orElse_none head keepSlots keepBoxes Int.lt_irrefl List.length_append ite_self memOK logOps opKey lentBoxes Key.clash Key.sees Key.writes Nat.lt_irrefl gt_iff_lt nobox_at bot_at false_or or_false beq_self_eq_true Bool.true_beq Bool.false_beq
theorem lt_slash {a x : Tok} (h : Tk.all (oneS a ++ oneS x) = [a, x]) : (oneS a ++ oneS x == [60, 47]) = ((a.kind == 7) && (a.text == [60]) && (x.kind == 7) && (x.text == [47])) := by
  rw [Bool.eq_iff_iff]
  simp only [Bool.and_eq_true, beq_iff_eq]
  constructor
  · intro e
    rw [e] at h
    have h2 : Tk.all [60, 47] = [⟨7, [60], 0⟩, ⟨7, [47], 0⟩] := by decide
    rw [h2] at h
    injection h with h3 h4
    injection h4 with h5 _
    rw [← h3, ← h5]
    simp
  · rintro ⟨⟨⟨h1, h2⟩, h3⟩, h4⟩
    unfold oneS
    rw [h1, h2, h3, h4]
    simp
abbrev text1H (s : List UInt8) (l : List Tok) (i : Nat) : St := { sl := upd (upd (upd bot 4 (I i)) 3 (T s)) 0 (L (l.map Tok.enc)), bx := nobox, nt := 82 }
set_option maxHeartbeats 16000000 in
theorem text1_loop (l : List Tok) (hl : lenOk l.length) (hok : ∀ t ∈ l, OkT t) : ∀ (rest : List Tok) (i : Nat) (p : Option Tok) (s : List UInt8), l.drop i = rest → i ≤ l.length → (p = none ∧ i = 0 ∨ ∃ a, p = some a ∧ 0 < i ∧ l[i - 1]? = some a) → (s ++ restO p rest).length < txtLim →
    Ends (exL K 74 (.loop (loopAt Tryz.f74 3)) (text1H s l i)) fun o S => o = .exit 0 ∧ S.nt = 82 ∧ S.sl 3 = T (s ++ restO p rest) := by
  intro rest
  induction rest with
  | nil =>
    intro i p s hd hi hp hlen
    have hin : i = l.length := by
      have := List.drop_eq_nil_iff.1 hd
      omega
    subst hin
    rw [restO_nil, List.append_nil]
    conv in loopAt _ _ => whnf
    rw [exL_loop]
    simp only [go_sem, Nat.reduceLT, reduceCtorEq, Nat.reduceEqDiff, Nat.reduceBEq, Nat.reduceAdd, ev_len_sl ty_descOf_90, keep_74_3, ends_some]
  | cons x rest ih =>
    intro i p s hd hi hp hlen
    obtain ⟨g1, g2, g3⟩ := drop_cons hd
    have hx := hok x (List.mem_of_getElem? g1)
    have hlt : decide ((i : Int) < (l.length : Int)) = true := decide_eq_true (by omega)
    have ga := enc_at l i x g1
    have hi2 : i < 9223372036854775807 := by unfold lenOk at hl; omega
    have wi := wrap_nat i hi2
    rw [restO_cons] at hlen ⊢
    have hone := One1_den x hx.1 (by have := hx.2; omega)
    simp only [Tok.cells] at hone
    have et : txtLim = 4294967296 := rfl
    have hnext : ∀ s1 : List UInt8, (s1 ++ (oneS x ++ restO (some x) rest)).length < txtLim → _ := fun s1 h => ih (i + 1) (some x) (s1 ++ oneS x) g2 (by omega) (.inr ⟨x, rfl, by omega, by simpa using g1⟩) (by rw [List.append_assoc]; exact h)
    conv at hnext in loopAt _ _ => whnf
    simp only [List.append_assoc] at hnext
    have hpl : (oneS x).length ≤ 1000000100 := by have := one_len x hx.1; have := hx.2; omega
    rcases hp with ⟨rfl, hi0⟩ | ⟨a, rfl, hi0, ha⟩
    · have h0 : decide ((0 : Int) < (i : Int)) = false := decide_eq_false (by omega)
      have hap : apO none x = false := rfl
      rw [hap] at hlen ⊢
      simp only [Bool.false_eq_true, if_false, List.nil_append] at hlen ⊢
      have hn := hnext s hlen
      have l1 : s.length + (oneS x).length < strLim := by simp only [List.length_append] at hlen; simp [strLim]; omega
      conv in loopAt _ _ => whnf
      rw [exL_loop]
      simp only [go_sem, Nat.reduceLT, reduceCtorEq, Nat.reduceEqDiff, Nat.reduceBEq, Nat.reduceAdd, ev_len_sl ty_descOf_90, ev_indexAddr ty_descOf_90, ty_szOf_47, ty_shapeT_47, good_124, keep_74_3, hlt, ga, Int.natCast_nonneg, hone, h0, l1, wi]
      rw [exL_head]
      simp only [go_sem, reduceCtorEq, Nat.reduceEqDiff, keep_74_3]
      exact hn
    · have h0 : decide ((0 : Int) < (i : Int)) = true := decide_eq_true (by omega)
      have wm : IntKind.i64.wrap ((i : Int) - 1) = ((i - 1 : Nat) : Int) := by rw [IntWalk.i64_in _ (by omega)]; omega
      have gp := enc_at l (i - 1) a ha
      have hok1 := hok a (List.mem_of_getElem? ha)
      have hone2 := One1_den a hok1.1 (by have := hok1.2; omega)
      simp only [Tok.cells] at hone2
      have la := one_len a hok1.1
      have l2 : (oneS a).length + (oneS x).length < strLim := by have := hok1.2; simp [strLim]; omega
      have htw := two_den (oneS a ++ oneS x) a x (by rw [List.length_append]; have := hok1.2; have := one_len x hx.1; have := hx.2; omega)
      simp only [Tok.cells] at htw
      have hap0 : apO (some a) x = (!decide (Tk.all (oneS a ++ oneS x) = [a, x]) || (oneS a ++ oneS x == [60, 47])) := by
        show Tk.apart a x = _
        unfold Tk.apart
        rw [decide_not]
      rw [hap0] at hlen ⊢
      have yes : ∀ {r : Option (Out × St)}, (∀ hn : (s ++ ([47, 42, 42, 47] ++ (oneS x ++ restO (some x) rest))).length < txtLim, Ends r (fun o S => o = .exit 0 ∧ S.nt = 82 ∧ S.sl 3 = T (s ++ ([47, 42, 42, 47] ++ (oneS x ++ restO (some x) rest))))) → (!decide (Tk.all (oneS a ++ oneS x) = [a, x]) || (oneS a ++ oneS x == [60, 47])) = true → Ends r (fun o S => o = .exit 0 ∧ S.nt = 82 ∧ S.sl 3 = T (s ++ ((if (!decide (Tk.all (oneS a ++ oneS x) = [a, x]) || (oneS a ++ oneS x == [60, 47])) = true then [47, 42, 42, 47] else []) ++ (oneS x ++ restO (some x) rest)))) := fun h e => by
        rw [e] at hlen ⊢
        exact h hlen
      have no : ∀ {r : Option (Out × St)}, (∀ hn : (s ++ (oneS x ++ restO (some x) rest)).length < txtLim, Ends r (fun o S => o = .exit 0 ∧ S.nt = 82 ∧ S.sl 3 = T (s ++ (oneS x ++ restO (some x) rest)))) → (!decide (Tk.all (oneS a ++ oneS x) = [a, x]) || (oneS a ++ oneS x == [60, 47])) = false → Ends r (fun o S => o = .exit 0 ∧ S.nt = 82 ∧ S.sl 3 = T (s ++ ((if (!decide (Tk.all (oneS a ++ oneS x) = [a, x]) || (oneS a ++ oneS x == [60, 47])) = true then [47, 42, 42, 47] else []) ++ (oneS x ++ restO (some x) rest)))) := fun h e => by
        rw [e] at hlen ⊢
        exact h hlen
      conv in loopAt _ _ => whnf
      by_cases hall : Tk.all (oneS a ++ oneS x) = [a, x]
      · have hls := lt_slash hall
        rw [decide_eq_true hall] at htw hlen yes no ⊢
        simp only [Bool.not_true, Bool.false_or] at hlen yes no ⊢
        rw [hls] at hlen yes no ⊢
        clear hlen hap0 hls
        cases p1 : (a.kind == 7) <;> rw [p1] at yes no
        · refine no (fun hn => ?_) rfl
          have hn2 := hnext s hn
          have l1 : s.length + (oneS x).length < strLim := by simp only [List.length_append] at hn; simp [strLim]; omega
          rw [exL_loop]
          simp only [go_sem, Nat.reduceLT, reduceCtorEq, Nat.reduceEqDiff, Nat.reduceBEq, Nat.reduceAdd, ev_len_sl ty_descOf_90, ev_indexAddr ty_descOf_90, ty_szOf_47, ty_shapeT_47, good_124, good_123, ty_fieldOff_47_0, ty_szOf_3, ty_shapeT_3, keep_74_3, hlt, ga, gp, Int.natCast_nonneg, hone, hone2, htw, h0, wm, l1, l2, wi, p1]
          rw [exL_head]
          simp only [go_sem, reduceCtorEq, Nat.reduceEqDiff, keep_74_3]
          exact hn2
        cases p2 : (a.text == [60]) <;> rw [p2] at yes no
        · refine no (fun hn => ?_) rfl
          have hn2 := hnext s hn
          have l1 : s.length + (oneS x).length < strLim := by simp only [List.length_append] at hn; simp [strLim]; omega
          rw [exL_loop]
          simp only [go_sem, Nat.reduceLT, reduceCtorEq, Nat.reduceEqDiff, Nat.reduceBEq, Nat.reduceAdd, ev_len_sl ty_descOf_90, ev_indexAddr ty_descOf_90, ty_szOf_47, ty_shapeT_47, good_124, good_123, ty_fieldOff_47_0, ty_szOf_3, ty_shapeT_3, ty_fieldOff_47_1, ty_szOf_9, ty_shapeT_9, keep_74_3, hlt, ga, gp, Int.natCast_nonneg, hone, hone2, htw, h0, wm, l1, l2, wi, p1, p2]
          rw [exL_head]
          simp only [go_sem, reduceCtorEq, Nat.reduceEqDiff, keep_74_3]
          exact hn2
        cases p3 : (x.kind == 7) <;> rw [p3] at yes no
        · refine no (fun hn => ?_) rfl
          have hn2 := hnext s hn
          have l1 : s.length + (oneS x).length < strLim := by simp only [List.length_append] at hn; simp [strLim]; omega
          rw [exL_loop]
          simp only [go_sem, Nat.reduceLT, reduceCtorEq, Nat.reduceEqDiff, Nat.reduceBEq, Nat.reduceAdd, ev_len_sl ty_descOf_90, ev_indexAddr ty_descOf_90, ty_szOf_47, ty_shapeT_47, good_124, good_123, ty_fieldOff_47_0, ty_szOf_3, ty_shapeT_3, ty_fieldOff_47_1, ty_szOf_9, ty_shapeT_9, keep_74_3, hlt, ga, gp, Int.natCast_nonneg, hone, hone2, htw, h0, wm, l1, l2, wi, p1, p2, p3]
          rw [exL_head]
          simp only [go_sem, reduceCtorEq, Nat.reduceEqDiff, keep_74_3]
          exact hn2
        cases p4 : (x.text == [47]) <;> rw [p4] at yes no
        · refine no (fun hn => ?_) rfl
          have hn2 := hnext s hn
          have l1 : s.length + (oneS x).length < strLim := by simp only [List.length_append] at hn; simp [strLim]; omega
          rw [exL_loop]
          simp only [go_sem, Nat.reduceLT, reduceCtorEq, Nat.reduceEqDiff, Nat.reduceBEq, Nat.reduceAdd, ev_len_sl ty_descOf_90, ev_indexAddr ty_descOf_90, ty_szOf_47, ty_shapeT_47, good_124, good_123, ty_fieldOff_47_0, ty_szOf_3, ty_shapeT_3, ty_fieldOff_47_1, ty_szOf_9, ty_shapeT_9, keep_74_3, hlt, ga, gp, Int.natCast_nonneg, hone, hone2, htw, h0, wm, l1, l2, wi, p1, p2, p3, p4]
          rw [exL_head]
          simp only [go_sem, reduceCtorEq, Nat.reduceEqDiff, keep_74_3]
          exact hn2
        · refine yes (fun hn => ?_) rfl
          have hn2 := hnext (s ++ [47, 42, 42, 47]) (by simp only [List.append_assoc]; exact hn)
          simp only [List.append_assoc] at hn2
          have l0 : s.length + 4 < strLim := by simp only [List.length_append, List.length_cons, List.length_nil] at hn; simp [strLim]; omega
          have l1 : s.length + 4 + (oneS x).length < strLim := by simp only [List.length_append, List.length_cons, List.length_nil] at hn; simp [strLim]; omega
          rw [exL_loop]
          simp only [go_sem, Nat.reduceLT, reduceCtorEq, Nat.reduceEqDiff, Nat.reduceBEq, Nat.reduceAdd, ev_len_sl ty_descOf_90, ev_indexAddr ty_descOf_90, ty_szOf_47, ty_shapeT_47, good_124, good_123, ty_fieldOff_47_0, ty_szOf_3, ty_shapeT_3, ty_fieldOff_47_1, ty_szOf_9, ty_shapeT_9, keep_74_3, hlt, ga, gp, Int.natCast_nonneg, hone, hone2, htw, h0, wm, l0, l1, l2, wi, p1, p2, p3, p4, List.append_assoc]
          rw [exL_head]
          simp only [go_sem, reduceCtorEq, Nat.reduceEqDiff, keep_74_3]
          exact hn2
      · rw [decide_eq_false hall] at htw hlen yes no ⊢
        simp only [Bool.not_false, Bool.true_or] at hlen yes no ⊢
        refine yes (fun hn => ?_) trivial
        have hn2 := hnext (s ++ [47, 42, 42, 47]) (by simp only [List.append_assoc]; exact hn)
        simp only [List.append_assoc] at hn2
        have l0 : s.length + 4 < strLim := by simp only [List.length_append, List.length_cons, List.length_nil] at hn; simp [strLim]; omega
        have l1 : s.length + 4 + (oneS x).length < strLim := by simp only [List.length_append, List.length_cons, List.length_nil] at hn; simp [strLim]; omega
        rw [exL_loop]
        simp only [go_sem, Nat.reduceLT, reduceCtorEq, Nat.reduceEqDiff, Nat.reduceBEq, Nat.reduceAdd, ev_len_sl ty_descOf_90, ev_indexAddr ty_descOf_90, ty_szOf_47, ty_shapeT_47, good_124, good_123, keep_74_3, hlt, ga, gp, Int.natCast_nonneg, hone, hone2, htw, h0, wm, l0, l1, l2, wi, List.append_assoc]
        rw [exL_head]
        simp only [go_sem, reduceCtorEq, Nat.reduceEqDiff, keep_74_3]
        exact hn2
theorem Text1_den (l : List Tok) (hl : lenOk l.length) (hok : ∀ t ∈ l, OkT t) (hlen : (Tk.text l).length < txtLim) : den K 74 [L (l.map Tok.enc)] [] = some (.ret (T (Tk.text l)) []) := by
  refine den_run rfl rfl Tryz.func74 rfl Tryz.ntmps74 ⟨by simp, by simp [LK]⟩ ?_
  have hr : Tryz.f74.results = #[.tmp 2] := rfl
  have hlp := text1_loop l hl hok l 0 none [] rfl (Nat.zero_le _) (.inl ⟨rfl, rfl⟩) (by simpa [restO] using hlen)
  conv at hlp in loopAt _ _ => whnf
  obtain ⟨o, S', e2, rfl, hn, h3⟩ := hlp
  simp only [List.nil_append, restO] at h3
  simp only [go_sem, Nat.reduceLT, Nat.reduceBEq]
  rw [exL_head]
  simp only [go_sem, reduceCtorEq, Nat.reduceEqDiff, keep_74_3]
  erw [e2]
  simp only [go_sem, Nat.reduceLT, Nat.reduceEqDiff, Nat.reduceBEq, Nat.reduceAdd, hr, hn, h3]
theorem text_small {l : List Tok} {n m : Nat} (hl : l.length ≤ n) (h : ∀ t ∈ l, I64 t.n ∧ t.text.length ≤ m) (hm : n * (m + 25) < 1000000000) : (Tk.text l).length < 1000000000 := by
  have h1 := Tk.text_len (m := m + 21) l fun t ht => by
    have := one_len t (h t ht).1
    have := (h t ht).2
    omega
  have h2 : l.length * (m + 21 + 4) ≤ n * (m + 25) := Nat.mul_le_mul hl (by omega)
  omega
end Go.Abs
namespace Go.Abs
open Go Go.Proofs
set_option maxRecDepth 10000
attribute [local go_sem] exL_seq exL_region exL_cond exL_block exL_scope exL_ret exL_skip exL_exit runRegion runOps stepOp guardA absOp takeOver opd avOf cvOf St.degAt St.put okPV okVal okAV absBin intBin strBin boolBin setBoxes if_true Bool.false_eq_true if_false Option.map_some Option.map_none Option.bind_some Option.bind_none thenO outOf upd List.toList_toArray isOwn steal appArgs mvB inApps AV.deg CV.deg AV.gv AV.isIter absNext some_bne some_beqN List.length_nil List.length_cons List.filterMap_cons List.filterMap_nil beq_iff_eq List.getElem?_cons_zero List.getElem?_cons_succ Option.getD_some K_hook hookB Bool.false_and Bool.and_false Bool.and_self K_P K_own absCall doCall getBoxes lend back idx dedup AV.ren CV.ren TV.ren AV.ptrs CV.ptrs zipBox AV.flat CV.flat absLoad absStore cellsOfAV setAt newBox markB bldTypes absFieldAddr absField absExtract absAssert noAssert absMkIface ifcOf CV.pv? content pushHead ownT fillCells reps pvs chunks enterSt leave resOf resVars resVar outBoxes lentOnly TV.deg TV.av LK CV.plain CV.noBld nilBin absUn bound List.map_cons List.map_nil List.all_cons List.all_nil List.any_cons List.any_nil List.contains_cons List.contains_nil List.elem_cons List.elem_nil List.cons_append List.nil_append List.append_nil List.flatMap_cons List.flatMap_nil List.zip_cons_cons List.zip_nil_left List.zip_nil_right List.take_succ_cons List.take_zero List.take_nil List.drop_succ_cons List.drop_zero List.drop_nil List.isEmpty_nil List.isEmpty_cons Bool.and_true Bool.true_and Bool.or_true Bool.true_or Bool.or_false Bool.false_or Bool.not_true Bool.not_false Nat.add_zero Nat.zero_add Option.isNone_none Option.isNone_some Option.getD_none true_and and_true not_true_eq_false not_false_eq_true decide_true decide_false Nat.le_refl and_self Bool.not_eq_true Nat.sub_self or_true true_or Option.some.injEq List.length_map List.nil_eq and_false false_and AV.live CV.live CV.liveIn K_keep firstReg Option.orElse_some Option.orElse_none head keepSlots keepBoxes Int.lt_irrefl List.length_append ite_self memOK logOps opKey lentBoxes Key.clash Key.sees Key.writes Nat.lt_irrefl gt_iff_lt nobox_at bot_at false_or or_false beq_self_eq_true Bool.true_beq Bool.false_beq
theorem TextV3_den (l : List Val) (hs : Ne.size l ≤ 400000) (hok : ∀ t ∈ Ne.flat l, TokOk t) (hlen : (Sl.textS l).length < txtLim) : den K 30 [L (encL l)] [] = some (.ret (T (Sl.textS l)) []) := by
  have hfl := Ne.flat_size l
  have h1 := Flat2_den l (by omega)
  have h2 := Text1_den (Ne.flat l) (by unfold lenOk; omega) hok hlen
  refine den_run rfl rfl Tryz.func30 rfl Tryz.ntmps30 ⟨by simp, by simp [LK]⟩ ?_
  have hr : Tryz.f30.results = #[.tmp 2] := rfl
  simp only [go_sem, Nat.reduceLT, reduceCtorEq, Nat.reduceEqDiff, Nat.reduceBEq, Nat.reduceAdd, good_75, good_74, hr, h1, h2]
  rfl
def readAV (s : List UInt8) : AV := match Sl.readS s with
  | some a => .tup [.c (.pv (.sl (encL a))), .c (.pv (.int .i64 0))]
  | none => .tup [.c (.pv (.sl [])), .c (.pv (.int .i64 20))]
def readAV3 (s : List UInt8) : AV := match Sl.readS s with
  | some a => .tup [.c (.pv (.sl (encL a))), .c (.pv (.int .i64 0))]
  | none => .tup [.c .nils, .c (.pv (.int .i64 20))]
theorem ReadV_den (s : List UInt8) (hs : s.length < 4000000000) (hal : (Tk.all s).length ≤ 1000000) : den K 91 [T s] [] = some (.ret (readAV s) []) := by
  have h1 := All_den s hs
  have h2 := Parse_den (Tk.all s) (by omega) 60
  unfold readAV Sl.readS
  refine den_run rfl rfl Tryz.func91 rfl Tryz.ntmps91 ⟨by simp, by simp [LK]⟩ ?_
  have hr : Tryz.f91.results = #[.tmp 2, .tmp 3] := rfl
  cases hp : Ne.parse 60 (Tk.all s) with
  | none =>
    rw [parse_none (deep := 60) (by decide) (by decide) hp] at h2
    have h3 := TrimS_den [] (by simp)
    have e0 : encL [] = [] := rfl
    have e1 : Sl.trim [] = [] := rfl
    rw [e1, e0] at h3
    simp only [go_sem, Nat.reduceLT, reduceCtorEq, Nat.reduceEqDiff, Nat.reduceBEq, Nat.reduceAdd, good_156, good_155, good_104, hr, h1, h2, h3, Option.map_none, TV.flat]
  | some vs =>
    rw [parse_some (deep := 60) (by decide) (by decide) hp] at h2
    obtain ⟨_, _, hsz, _⟩ := Ne.parse_good hp
    have hl := Ne.length_size vs
    have h3 := TrimS_den vs (by omega)
    simp only [go_sem, Nat.reduceLT, reduceCtorEq, Nat.reduceEqDiff, Nat.reduceBEq, Nat.reduceAdd, good_156, good_155, good_104, hr, h1, h2, h3, Option.map_some, TV.flat]
theorem parse_some2 {deep : Int} {l : List Tok} {vs : List Val} (h1 : 1 ≤ deep) (h2 : deep ≤ 60) (h : Ne.parse deep.toNat l = some vs) : parseR2 deep l = .tup [.c (.pv (.sl (encL vs))), .c (.pv (.int .i64 0))] := by
  unfold parseR2
  rw [if_neg (by omega)]
  unfold Ne.parse at h
  cases hu : Ne.until_ 0 deep.toNat l with
  | some x => rw [hu] at h; cases h; rfl
  | none => rw [hu] at h; cases h
theorem parse_none2 {deep : Int} {l : List Tok} (h1 : 1 ≤ deep) (h2 : deep ≤ 60) (h : Ne.parse deep.toNat l = none) : parseR2 deep l = .tup [.c .nils, .c (.pv (.int .i64 20))] := by
  unfold parseR2
  rw [if_neg (by omega)]
  unfold Ne.parse at h
  cases hu : Ne.until_ 0 deep.toNat l with
  | some x => rw [hu] at h; cases h
  | none => rfl
theorem ReadV3_den (s : List UInt8) (hs : s.length < 4000000000) (hal : (Tk.all s).length ≤ 1000000) : den K 29 [T s] [] = some (.ret (readAV3 s) []) := by
  have h1 := All1_den s hs
  have h2 := Parse2_den (Tk.all s) (by omega) 60
  unfold readAV3 Sl.readS
  have e20 : ((20 : Int) != 0) = true := by decide
  have e00 : ((0 : Int) != 0) = false := by decide
  refine den_run rfl rfl Tryz.func29 rfl Tryz.ntmps29 ⟨by simp, by simp [LK]⟩ ?_
  have hr : Tryz.f29.results = #[.tmp 2, .tmp 3] := rfl
  cases hp : Ne.parse 60 (Tk.all s) with
  | none =>
    rw [parse_none2 (deep := 60) (by decide) (by decide) hp] at h2
    simp only [go_sem, Nat.reduceLT, reduceCtorEq, Nat.reduceEqDiff, Nat.reduceBEq, Nat.reduceAdd, good_72, good_71, hr, h1, h2, e20, Option.map_none, TV.flat]
  | some vs =>
    rw [parse_some2 (deep := 60) (by decide) (by decide) hp] at h2
    obtain ⟨_, _, hsz, _⟩ := Ne.parse_good hp
    have hl := Ne.length_size vs
    have h3 := Trim_den vs (by omega)
    simp only [go_sem, Nat.reduceLT, reduceCtorEq, Nat.reduceEqDiff, Nat.reduceBEq, Nat.reduceAdd, good_72, good_71, good_73, hr, h1, h2, h3, e00, Option.map_some, TV.flat]
end Go.Abs
namespace Go.Abs
open Go Go.Proofs
theorem good_I64' {t : Tok} (h : Tk.Good t) : I64 t.n := by
  have := Tk.good_num h
  unfold I64; omega
theorem flat_small {l : List Val} {m : Nat} (hm : 1 ≤ m) (h1 : Ne.allT (fun t => I64 t.n) l) (h2 : Ne.allT (fun t => t.text.length ≤ m) l) : ∀ t ∈ Ne.flat l, I64 t.n ∧ t.text.length ≤ m :=
  Ne.flat_all (fun c => ⟨by simp [I64], by simpa using hm⟩) l (Ne.allT_and l h1 h2)
theorem tokOk_of {l : List Tok} {m : Nat} (hm : m < 1000000000) (h : ∀ t ∈ l, I64 t.n ∧ t.text.length ≤ m) : ∀ t ∈ l, TokOk t := fun t ht => ⟨(h t ht).1, by have := (h t ht).2; omega⟩
theorem read_small {s : List UInt8} (hs : s.length ≤ 1000) {a : List Val} (h : Sl.readS s = some a) : Ne.size a ≤ 1000 ∧ ∀ t ∈ Ne.flat a, I64 t.n ∧ t.text.length ≤ 1000 := by
  have hr := (Sl.read_rd h).1
  unfold Sl.readS at h
  rw [Option.map_eq_some_iff] at h
  obtain ⟨vs, h1, rfl⟩ := h
  obtain ⟨_, _, h2, c, e⟩ := Ne.parse_good h1
  have hal := Tk.all_len s
  have hts := size_trim vs
  refine ⟨by omega, fun t ht => ⟨good_I64' (hr.tok t ht), ?_⟩⟩
  obtain ⟨v, hv, ht⟩ := Sl.flat_memR.1 ht
  have ht2 : t ∈ Ne.flat vs := Sl.flat_memR.2 ⟨v, Sl.mem_trimR hv, ht⟩
  rw [e, List.mem_append, List.mem_map] at ht2
  rcases ht2 with ht2 | ⟨k, _, rfl⟩
  · have := Tk.all_text s t ht2
    omega
  · show (1 : Nat) ≤ 1000
    omega
end Go.Abs
namespace Go.Abs
open Go Go.Proofs
set_option maxRecDepth 100000
theorem fixed7_run : callN K 400 17 [] [] = some (.ret (B true) []) := by kernel_rfl
theorem fixed7_den : den K 17 [] [] = some (.ret (B true) []) := den_iff.2 ⟨400, fixed7_run⟩
end Go.Abs
namespace Go.Abs
open Go Go.Proofs
theorem named_flat {l : List Val} {v : Val} (hv : v ∈ l) (hn : Sl.isNamed v = true) : ∃ t ∈ Ne.flat l, Sl.nameT v = t.text := by
  obtain ⟨k, t, c⟩ := v
  have hk : k = 1 := by
    have : (k == 1 && t.kind == 1) = true := hn
    simp at this; exact this.1
  subst hk
  exact ⟨t, Sl.flat_memR.2 ⟨_, hv, by rw [Ne.flatV, if_pos rfl]; simp⟩, rfl⟩
theorem txtOk_flat {l : List Val} (h : ∀ t ∈ Ne.flat l, TokOk t) : TxtOk l := fun v hv hn => by
  obtain ⟨t, ht, e⟩ := named_flat hv hn
  rw [e]
  exact (h t ht).2
theorem proper_len (s : List UInt8) : (Sl.proper s).length = s.length := by
  unfold Sl.proper
  split
  · rfl
  · unfold Sl.low; rw [List.length_map]
theorem readD_size {v : List Val} {d : Dcl} (h : Sl.readD v = some d) : Ne.size d.l ≤ Ne.size v := by
  unfold Sl.readD at h
  split at h
  case h_2 => cases h
  rename_i x r ht
  split at h
  case isFalse => cases h
  split at h
  case h_2 => cases h
  rename_i c r2 hr
  split at h
  case isFalse => cases h
  split at h
  case isFalse => cases h
  cases h
  have z0 := size_trim v
  rw [ht, Ne.size] at z0
  obtain ⟨p, hp⟩ := List.dropWhile_suffix Sl.isBlank (l := r)
  rw [hr] at hp
  have z1 := size_app p (c :: r2)
  rw [hp, Ne.size] at z1
  have z2 := size_trim r2
  have z3 := declOf_size (Sl.nameT x) (Sl.trim r2)
  omega
theorem parseD_size {v : List Val} {d : Dcl} (h : d ∈ Sl.parseD v) : Ne.size d.l ≤ Ne.size v := by
  unfold Sl.parseD at h
  rw [List.mem_filterMap] at h
  obtain ⟨q, hq, hr⟩ := h
  have := readD_size hr
  have := at_sizes [59] v q hq
  omega
theorem parseD_len (v : List Val) : (Sl.parseD v).length ≤ v.length + 1 := Nat.le_trans (Sl.parse_length v) (at_length [59] v)
theorem declV_size (d : Dcl) : Ne.size (Sl.declV d) ≤ Ne.size d.l + 4 := by
  have h1 : Ne.sizeV (Sl.iv d.name) = 1 := rfl
  have h2 : Ne.sizeV (Sl.dv 58) = 1 := rfl
  unfold Sl.declV
  rw [Ne.size, Ne.size, size_app, h1, h2]
  cases d.imp
  · have : Ne.size (if false = true then [Sl.dv 33, Sl.iv Sl.importantT] else []) = 0 := rfl
    omega
  · have : Ne.size (if true = true then [Sl.dv 33, Sl.iv Sl.importantT] else []) = 2 := rfl
    omega
theorem vals_size {m : Nat} : ∀ {ds : List Dcl}, (∀ d ∈ ds, Ne.size d.l ≤ m) → Ne.size (Sl.valsD ds) ≤ ds.length * (m + 5) := fun {ds} h => by
  have hj := join_size [59] (ds.map Sl.declV)
  have key : ∀ l : List Dcl, (∀ d ∈ l, Ne.size d.l ≤ m) → Ne.size (l.map Sl.declV).flatten ≤ l.length * (m + 4) := by
    intro l
    induction l with
    | nil => intro _; exact Nat.zero_le _
    | cons d l ih =>
      intro hl
      have h1 := declV_size d
      have h2 := hl d (by simp)
      have h3 := ih fun x hx => hl x (by simp [hx])
      rw [List.map_cons, List.flatten_cons, size_app, List.length_cons, Nat.succ_mul]
      omega
  have h1 := key ds h
  rw [List.length_map] at hj
  have h2 : ds.length * (m + 5) = ds.length * (m + 4) + ds.length := by rw [Nat.mul_add, Nat.mul_add]; omega
  unfold Sl.valsD
  omega
theorem sameD_refl : ∀ l : List Dcl, sameD l l = true
  | [] => rfl
  | d :: l => by
    have h := sameD_refl l
    unfold sameD at h ⊢
    rw [eqB, h, sameD1, same_refl]
    simp
structure DclI (d : Dcl) : Prop where
  i : Ne.allT (fun t => I64 t.n) d.l
theorem fewD_ok {d : Dcl} {m : Int} (hm : m ≤ 1000) (h : fewD m d = true) (hi : DclI d) : DclOk d ∧ (Ne.size d.l : Int) ≤ m ∧ d.name.length ≤ 100 ∧ Ne.allT (fun t => t.text.length ≤ 100) d.l := by
  unfold fewD at h
  rw [Bool.and_eq_true, decide_eq_true_iff, decide_eq_true_iff] at h
  obtain ⟨h1, h2⟩ := few_facts h.1
  exact ⟨⟨by omega, by omega, flat_ok hi.i h2⟩, h1, h.2, h2⟩
theorem smallD_ok {ds : List Dcl} {m : Int} (hm : m ≤ 1000) (h : smallD m ds = true) (hi : ∀ d ∈ ds, DclI d) : ds.length ≤ 20 ∧ (∀ d ∈ ds, DclOk d ∧ (Ne.size d.l : Int) ≤ m ∧ d.name.length ≤ 100 ∧ Ne.allT (fun t => t.text.length ≤ 100) d.l) := by
  unfold smallD at h
  rw [Bool.and_eq_true, decide_eq_true_iff, List.all_eq_true] at h
  exact ⟨h.2, fun d hd => fewD_ok hm (h.1 d hd) (hi d hd)⟩
theorem parsed_ok {a : List Val} (hsz : Ne.size a ≤ 400000) (h : ∀ t ∈ Ne.flat a, TokOk t) : ∀ d ∈ Sl.parseD a, DclOk d := fun d hd => by
  obtain ⟨⟨x, h1, h2, h3⟩, h4, _⟩ := Sl.parse_parts hd
  have hs := parseD_size hd
  obtain ⟨t, ht, e⟩ := named_flat h2 h1
  refine ⟨?_, by omega, fun t ht => ?_⟩
  · rw [h3, proper_len, e]
    exact (h t ht).2
  · obtain ⟨v, hv, ht⟩ := Sl.flat_memR.1 ht
    exact h t (Sl.flat_memR.2 ⟨v, h4 v hv, ht⟩)
theorem mem_joins {v : Val} {s : List UInt8} : ∀ {ps : List (List Val)}, v ∈ Sl.joins s ps → v = Sl.signV s ∨ ∃ p ∈ ps, v ∈ p
  | [], h => by rw [Sl.joins_nil] at h; cases h
  | p :: ps, h => by
    rw [Sl.joins_cons] at h
    rcases List.mem_cons.1 h with h | h
    · exact .inl h
    rcases List.mem_append.1 h with h | h
    · exact .inr ⟨p, by simp, h⟩
    · rcases mem_joins h with h | ⟨q, hq, h⟩
      · exact .inl h
      · exact .inr ⟨q, by simp [hq], h⟩
theorem mem_vals {v : Val} {ds : List Dcl} (h : v ∈ Sl.valsD ds) : v = Sl.signV [59] ∨ ∃ d ∈ ds, v ∈ Sl.declV d := by
  unfold Sl.valsD at h
  cases ds with
  | nil => cases h
  | cons d ds =>
    rw [List.map_cons, Sl.join] at h
    rcases List.mem_append.1 h with h | h
    · exact .inr ⟨d, by simp, h⟩
    · rcases mem_joins h with h | ⟨q, hq, h⟩
      · exact .inl h
      · obtain ⟨x, hx, rfl⟩ := List.mem_map.1 hq
        exact .inr ⟨x, by simp [hx], h⟩
theorem tv_flat {t u : Tok} (h : u ∈ Ne.flatV (Sl.tv t)) : u = t := by
  rw [Sl.tv, Ne.flatV, if_pos rfl] at h
  simpa using h
theorem vals_flat {ds : List Dcl} (h : ∀ d ∈ ds, d.name.length ≤ 100 ∧ DclI d ∧ Ne.allT (fun t => t.text.length ≤ 100) d.l) : ∀ t ∈ Ne.flat (Sl.valsD ds), I64 t.n ∧ t.text.length ≤ 100 := fun t ht => by
  obtain ⟨v, hv, ht⟩ := Sl.flat_memR.1 ht
  rcases mem_vals hv with rfl | ⟨d, hd, hv⟩
  · obtain rfl := tv_flat (t := ⟨7, [59], 0⟩) ht
    exact ⟨by unfold I64; simp, by simp⟩
  · obtain ⟨h1, h2, h3⟩ := h d hd
    unfold Sl.declV at hv
    rcases List.mem_cons.1 hv with rfl | hv
    · obtain rfl := tv_flat (t := ⟨1, d.name, 0⟩) ht
      exact ⟨by unfold I64; simp, h1⟩
    rcases List.mem_cons.1 hv with rfl | hv
    · obtain rfl := tv_flat (t := ⟨7, [58], 0⟩) ht
      exact ⟨by unfold I64; simp, by simp⟩
    rcases List.mem_append.1 hv with hv | hv
    · exact flat_small (by decide) h2.i h3 t (Sl.flat_memR.2 ⟨v, hv, ht⟩)
    · split at hv
      · simp only [List.mem_cons, List.not_mem_nil, or_false] at hv
        rcases hv with rfl | rfl
        · obtain rfl := tv_flat (t := ⟨7, [33], 0⟩) ht
          exact ⟨by unfold I64; simp, by simp⟩
        · obtain rfl := tv_flat (t := ⟨1, Sl.importantT, 0⟩) ht
          exact ⟨by unfold I64; simp, by decide⟩
      · cases hv
theorem text_toksR {l : List Val} (h : Sl.Rd l) : Tk.all (Sl.textS l) = Ne.flat l := Tk.back h.tok
end Go.Abs
namespace Go.Abs
open Go Go.Proofs
set_option maxRecDepth 10000
attribute [local go_sem] exL_seq exL_region exL_cond exL_block exL_scope exL_ret exL_skip exL_exit runRegion runOps stepOp guardA absOp takeOver opd avOf cvOf St.degAt St.put okPV okVal okAV absBin intBin strBin boolBin setBoxes if_true Bool.false_eq_true if_false Option.map_some Option.map_none Option.bind_some Option.bind_none thenO outOf upd List.toList_toArray isOwn steal appArgs mvB inApps AV.deg CV.deg AV.gv AV.isIter absNext some_bne some_beqN List.length_nil List.length_cons List.filterMap_cons List.filterMap_nil beq_iff_eq List.getElem?_cons_zero List.getElem?_cons_succ Option.getD_some K_hook hookB Bool.false_and Bool.and_false Bool.and_self K_P K_own absCall doCall getBoxes lend back idx dedup AV.ren CV.ren TV.ren AV.ptrs CV.ptrs zipBox AV.flat CV.flat absLoad absStore cellsOfAV setAt newBox markB bldTypes absFieldAddr absField absExtract absAssert noAssert absMkIface ifcOf CV.pv? content pushHead ownT fillCells reps pvs chunks enterSt leave resOf resVars resVar outBoxes lentOnly TV.deg TV.av LK CV.plain CV.noBld nilBin absUn bound List.map_cons List.map_nil List.all_cons List.all_nil List.any_cons List.any_nil List.contains_cons List.contains_nil List.elem_cons List.elem_nil List.cons_append List.nil_append List.append_nil List.flatMap_cons List.flatMap_nil List.zip_cons_cons List.zip_nil_left List.zip_nil_right List.take_succ_cons List.take_zero List.take_nil List.drop_succ_cons List.drop_zero List.drop_nil List.isEmpty_nil List.isEmpty_cons Bool.and_true Bool.true_and Bool.or_true Bool.true_or Bool.or_false Bool.false_or Bool.not_true Bool.not_false Nat.add_zero Nat.zero_add Option.isNone_none Option.isNone_some Option.getD_none true_and and_true not_true_eq_false not_false_eq_true decide_true decide_false Nat.le_refl and_self Bool.not_eq_true Nat.sub_self or_true true_or Option.some.injEq List.length_map List.nil_eq and_false false_and AV.live CV.live CV.liveIn K_keep firstReg Option.orElse_some Option.orElse_none head keepSlots keepBoxes Int.lt_irrefl List.length_append ite_self memOK logOps opKey lentBoxes Key.clash Key.sees Key.writes Nat.lt_irrefl gt_iff_lt nobox_at bot_at false_or or_false beq_self_eq_true Bool.true_beq Bool.false_beq
set_option maxHeartbeats 8000000 in
theorem DeclsBack_den (l : List Dcl) (s : List UInt8) (hL : ∀ d ∈ l, DclI d) : den K 4 [L (encD l), T s] [] = some (.ret (B true) []) := by
  have hf := fixed7_den
  have hs7 := Small7_den l 60 (by omega) (by omega)
  have hr : Tryz.f4.results = #[.tmp 4] := rfl
  have e00 : ((0 : Int) == 0) = true := rfl
  have e20 : ((20 : Int) == 0) = false := rfl
  cases hsd : smallD 60 l
  · rw [hsd] at hs7
    refine den_run rfl rfl Tryz.func4 rfl Tryz.ntmps4 ⟨by simp, by simp [LK]⟩ ?_
    simp only [go_sem, Nat.reduceLT, reduceCtorEq, Nat.reduceEqDiff, Nat.reduceBEq, Nat.reduceAdd, good_17, good_16, hr, hf, hs7]
  rw [hsd] at hs7
  cases ht : decide ((1000 : Int) < (s.length : Int))
  case true =>
    refine den_run rfl rfl Tryz.func4 rfl Tryz.ntmps4 ⟨by simp, by simp [LK]⟩ ?_
    simp only [go_sem, Nat.reduceLT, reduceCtorEq, Nat.reduceEqDiff, Nat.reduceBEq, Nat.reduceAdd, good_17, good_16, ev_len_str ty_descOf_9, hr, hf, hs7, ht]
  have hsl : s.length ≤ 1000 := by
    have := of_decide_eq_false ht
    omega
  have hal := Tk.all_len s
  obtain ⟨hl20, hlo⟩ := smallD_ok (by omega) hsd hL
  have hll : ∀ d ∈ l, d.l.length ≤ 1000000 := fun d hd => by
    have := Ne.length_size d.l
    have := (hlo d hd).2.1
    omega
  have r1 := ReadV3_den s (by omega) (by omega)
  have m7 := May7_den l (by omega) fun d hd => (hlo d hd).1
  have first : ∀ a, Sl.readS s = some a → den K 19 [L (encL a)] [] = some (.ret (L (encD (Sl.parseD a))) []) ∧
      den K 24 [L (encD (Sl.parseD a))] [] = some (.ret (B true) []) ∧ den K 25 [L (encD (Sl.parseD a))] [] = some (.ret (B true) []) := fun a ha => by
    obtain ⟨hra, hrt⟩ := read_small hsl ha
    have hrd := (Sl.read_rd ha).1
    have hok := tokOk_of (by omega) hrt
    have hall : (Sl.parseD a).all Sl.mayD = true := by
      rw [List.all_eq_true]
      intro d hd
      exact Sl.may_May.2 (Sl.parse_may hrd hd)
    have hpo := parsed_ok (a := a) (by omega) hok
    have hpl := parseD_len a
    have hla := Ne.length_size a
    have m1 := MayD_den (Sl.parseD a) (by omega) hpo
    have m2 := May7_den (Sl.parseD a) (by omega) hpo
    rw [hall] at m1 m2
    exact ⟨ParseD_den a (by omega) (txtOk_flat hok), m1, m2⟩
  cases hm : l.all Sl.mayD
  · rw [hm] at m7
    refine den_run rfl rfl Tryz.func4 rfl Tryz.ntmps4 ⟨by simp, by simp [LK]⟩ ?_
    cases ha : Sl.readS s with
    | none =>
      unfold readAV3 at r1
      rw [ha] at r1
      simp only [go_sem, Nat.reduceLT, reduceCtorEq, Nat.reduceEqDiff, Nat.reduceBEq, Nat.reduceAdd, good_17, good_16, ev_len_str ty_descOf_9, good_29, good_25, hr, hf, hs7, ht, r1, e20, m7, TV.flat]
    | some a =>
      obtain ⟨p1, m1, m2⟩ := first a ha
      unfold readAV3 at r1
      rw [ha] at r1
      simp only [go_sem, Nat.reduceLT, reduceCtorEq, Nat.reduceEqDiff, Nat.reduceBEq, Nat.reduceAdd, good_17, good_16, ev_len_str ty_descOf_9, good_29, good_19, good_24, good_25, hr, hf, hs7, ht, r1, e00, p1, m1, m2, m7, TV.flat]
  rw [hm] at m7
  have hMay : ∀ d ∈ l, Sl.May d := fun d hd => Sl.may_May.1 (List.all_eq_true.1 hm d hd)
  have hzs := vals_size (m := 60) (ds := l) fun d hd => by have := (hlo d hd).2.1; omega
  have hzl := Ne.length_size (Sl.valsD l)
  have hz : l.length * 65 ≤ 1300 := by omega
  have v1 := ValsD_den l (by omega) hll (by omega)
  have hvf := vals_flat (ds := l) fun d hd => ⟨(hlo d hd).2.2.1, hL d hd, (hlo d hd).2.2.2⟩
  have hvo := tokOk_of (by omega) hvf
  have hfl := Ne.flat_size (Sl.valsD l)
  have htxt : (Sl.textS (Sl.valsD l)).length < 1000000000 := text_small (n := 2600) (m := 100) (by omega) hvf (by decide)
  have x1 := TextV3_den (Sl.valsD l) (by omega) hvo (by simp only [txtLim]; omega)
  have hrv := Sl.rd_vals hMay
  have r2 := ReadV3_den (Sl.textS (Sl.valsD l)) (by omega) (by rw [text_toksR hrv]; omega)
  unfold readAV3 at r2
  rw [Sl.read_vals hMay] at r2
  have p2 := ParseD_den (Sl.valsD l) (by omega) (txtOk_flat hvo)
  rw [Sl.parse_vals hMay] at p2
  have q1 := Same7_den l l (by omega) (fun d hd => by have := (hlo d hd).2.1; omega) (fun d hd => by have := (hlo d hd).2.1; omega)
  rw [sameD_refl] at q1
  have q2 := VSame2_den (Sl.valsD l) (by omega) (Sl.valsD l) (by omega)
  unfold VSame2Den at q2
  rw [same_refl] at q2
  refine den_run rfl rfl Tryz.func4 rfl Tryz.ntmps4 ⟨by simp, by simp [LK]⟩ ?_
  cases ha : Sl.readS s with
  | none =>
    unfold readAV3 at r1
    rw [ha] at r1
    simp (maxSteps := 10000000) only [go_sem, Nat.reduceLT, reduceCtorEq, Nat.reduceEqDiff, Nat.reduceBEq, Nat.reduceAdd, good_17, good_16, ev_len_str ty_descOf_9, good_29, good_19, good_25, good_22, good_30, good_18, good_21, hr, hf, hs7, ht, r1, e20, e00, m7, v1, x1, r2, p2, q1, q2, TV.flat]
  | some a =>
    obtain ⟨p1, m1, m2⟩ := first a ha
    unfold readAV3 at r1
    rw [ha] at r1
    simp (maxSteps := 10000000) only [go_sem, Nat.reduceLT, reduceCtorEq, Nat.reduceEqDiff, Nat.reduceBEq, Nat.reduceAdd, good_17, good_16, ev_len_str ty_descOf_9, good_29, good_19, good_24, good_25, good_22, good_30, good_18, good_21, hr, hf, hs7, ht, r1, e00, p1, m1, m2, m7, v1, x1, r2, p2, q1, q2, TV.flat]
end Go.Abs
namespace Go.Abs
open Go Go.Proofs Go.ChangeShapes Go.WideShapes Go.ChangeAt Go.RowKit
def TyP (P : Program) : Nat → TypeId → List PV → Prop
  | 0, _, _ => False
  | n + 1, t, ps =>
    match P.underlying t with
    | some .bool => ∃ b, ps = [.bool b]
    | some (.int k) => ∃ z, ps = [.int k z] ∧ (Lit.int k z).wf = true
    | some .string => ∃ s, ps = [.str s] ∧ s.length ≤ reachBytes
    | some (.slice e) => ∃ c, ps = [.sl c] ∧ c.length ≤ reachBytes ∧ ∀ el ∈ c, TyP P n e el
    | some (.struct fs) => ps.length = P.cellsOf t ∧ ∀ (i : Nat) (f : Field), fs[i]? = some f → TyP P n f.type ((ps.drop f.offset).take (P.cellsOf f.type))
    | _ => False
def flatSet (P : Program) (L : List TypeId) : Bool := L.all fun t => decide (t < P.types.size) &&
  match P.underlying t with
  | some .bool | some (.int _) | some .string => P.cellsOf t == 1
  | some (.slice e) => L.contains e && decide (0 < P.cellsOf e) && decide (0 < P.bytesOf e) && P.cellsOf t == 1
  | some (.struct fs) => fs.toList.all fun f => L.contains f.type
  | _ => false
section
variable {H : Type} {enc : TypeId × Value → H} {P : Program} {w : World}
theorem cells_at {base n : Nat} {a : Addr} {cs : List Value} (h : w.cells? base a n = some cs) : cs.length = n ∧ ∀ (k : Nat) (y : Value), cs[k]? = some y → w.cell? (a.add k) = some y := by
  unfold World.cells? at h
  split at h
  case isFalse => cases h
  have hl : cs.length = n := by simpa using mapM_some_length h
  refine ⟨hl, fun k y hk => ?_⟩
  have hlt : k < n := by have := (List.getElem?_eq_some_iff.1 hk).1; omega
  have := mapM_some_get h k k (by simp [hlt])
  rw [this, hk]
theorem add_add (b o m j : Nat) : ((⟨b, o, none⟩ : Addr).add m).add j = ⟨b, o + (m + j), none⟩ := by
  simp only [Addr.add]
  split <;> split <;> simp_all [Nat.add_assoc]
theorem cell_addr {a : Addr} {y : Value} (h : w.cell? a = some y) : a = ⟨a.block, a.off, none⟩ := by
  unfold World.cell? at h
  cases a with
  | mk b o s =>
    cases s with
    | none => rfl
    | some k => simp at h; split at h <;> simp at h
theorem parts_ok {I : Nat → Nat → Option Value} {n : Nat} : ∀ (fs : List Field) (k : Nat) (cs : List Value), (∀ (j : Nat) (f : Field), fs[j]? = some f → f.offset = k + ((fs.take j).map fun f => P.cellsOf f.type).sum) →
    (∀ f ∈ fs, ∃ ps, TyP P n f.type ps ∧ All2 (RP I) ps ((cs.drop f.offset).take (P.cellsOf f.type)) ∧ ps.length = P.cellsOf f.type) → cs.length = k + (fs.map fun f => P.cellsOf f.type).sum →
    ∃ ps, ps.length = (fs.map fun f => P.cellsOf f.type).sum ∧ All2 (RP I) ps (cs.drop k) ∧ ∀ (j : Nat) (f : Field), fs[j]? = some f → TyP P n f.type ((ps.drop (f.offset - k)).take (P.cellsOf f.type))
  | [], k, cs, _, _, hl => ⟨[], rfl, by rw [List.drop_eq_nil_of_le (by simp at hl; omega)]; exact .nil, fun j f h => by simp at h⟩
  | f :: fs, k, cs, ho, hf, hl => by
    have ho0 := ho 0 f rfl
    simp at ho0
    obtain ⟨p0, h1, h2, h3⟩ := hf f (by simp)
    simp only [List.map_cons, List.sum_cons] at hl
    obtain ⟨ps, h4, h5, h6⟩ := parts_ok fs (k + P.cellsOf f.type) cs (fun j g hg => by
      have := ho (j + 1) g (by simpa using hg)
      simp only [List.take_succ_cons, List.map_cons, List.sum_cons] at this
      omega) (fun g hg => hf g (by simp [hg])) (by omega)
    refine ⟨p0 ++ ps, by simp [h3, h4], ?_, fun j g hg => ?_⟩
    · rw [ho0] at h2
      have : cs.drop k = (cs.drop k).take (P.cellsOf f.type) ++ cs.drop (k + P.cellsOf f.type) := by
        rw [← List.drop_drop, List.take_append_drop]
      rw [this]
      exact h2.append h5
    · cases j with
      | zero =>
        simp at hg
        subst hg
        rw [ho0, Nat.sub_self, List.drop_zero, List.take_left' h3]
        exact h1
      | succ j =>
        have hg' : fs[j]? = some g := by simpa using hg
        have := h6 j g hg'
        have hoj := ho (j + 1) g hg
        simp only [List.take_succ_cons, List.map_cons, List.sum_cons] at hoj
        have hle : k + P.cellsOf f.type ≤ g.offset := by omega
        rw [List.drop_append, List.drop_eq_nil_of_le (by omega), List.nil_append, h3]
        rw [show g.offset - k - P.cellsOf f.type = g.offset - (k + P.cellsOf f.type) by omega]
        exact this
theorem weights_all {e : TypeId} : ∀ {l : List (DataW H)} {d : DataW H}, d ∈ l → ∀ n ∈ d.weights P e, n ∈ DataW.weightsAll P e l
  | d' :: l, d, h, n, hn => by
    unfold DataW.weightsAll
    rw [List.mem_append]
    rcases List.mem_cons.1 h with rfl | h
    · exact .inl hn
    · exact .inr (weights_all h n hn)
theorem weights_each : ∀ {ts : List TypeId} {ds : List (DataW H)} {j : Nat} {t : TypeId} {d : DataW H}, ts[j]? = some t → ds[j]? = some d → ∀ n ∈ d.weights P t, n ∈ DataW.weightsEach P ts ds := DataW.weights_mem_each
theorem trod_RP {I : Nat → Nat → Option Value} (hI : ∀ b o y, w.cell? ⟨b, o, none⟩ = some y → I b o = some y) (K0 : Kids P (· < P.types.size)) {L : List TypeId} (hL : flatSet P L = true) {base : Nat} {sp : Nat → Bool} {held : Bool} :
    ∀ (n : Nat) (t : TypeId) (cs : List Value) (x : DataW H × List MemPlace), DataW.trod enc P w base sp held n t cs = some x → t ∈ L → (∀ m ∈ x.1.weights P t, m ≤ reachBytes) → ∃ ps, TyP P n t ps ∧ All2 (RP I) ps cs ∧ ps.length = P.cellsOf t := by
  intro n
  induction n with
  | zero => intro t cs x h; simp [DataW.trod] at h
  | succ n ih =>
    intro t cs x h ht hw
    have hLt := List.all_eq_true.1 hL t ht
    simp only [Bool.and_eq_true, decide_eq_true_eq] at hLt
    obtain ⟨hlt, hLt⟩ := hLt
    unfold TyP
    split at hLt
    · rename_i hu
      obtain ⟨b, rfl, rfl⟩ := DataW.trod_bool hu h
      exact ⟨[.bool b], ⟨b, rfl⟩, .cons (.bool b) .nil, (by simpa using hLt : P.cellsOf t = 1).symm⟩
    · rename_i k hu
      obtain ⟨z, rfl, rfl, hwf⟩ := DataW.trod_int hu h
      exact ⟨[.int k z], ⟨z, rfl, hwf⟩, .cons (.int k z) .nil, (by simpa using hLt : P.cellsOf t = 1).symm⟩
    · rename_i hu
      obtain ⟨s, rfl, rfl, hsz⟩ := DataW.trod_string hu h
      refine ⟨[.str s.data.toList], ⟨_, rfl, hw _ (by simp [DataW.weights])⟩, .cons ?_ .nil, (by simpa using hLt : P.cellsOf t = 1).symm⟩
      exact .str _
    · rename_i e hu
      simp only [Bool.and_eq_true, decide_eq_true_eq] at hLt
      obtain ⟨⟨⟨he, hpos⟩, hby⟩, hc1⟩ := hLt
      have hc1 : P.cellsOf t = 1 := by simpa using hc1
      rcases DataW.trod_slice hu h with ⟨rfl, rfl⟩ | ⟨a, len, cap, elems, rest, m, hfuel, rfl, rfl, _, hlc, _, hel, hget, _, _⟩
      · exact ⟨[.sl []], ⟨[], rfl, by simp, by simp⟩, .cons (.sl0 none 0) .nil, hc1.symm⟩
      · have hm : m = n := by omega
        subst hm
        have hwt : ∀ m ∈ (elems.length + rest.length) * P.bytesOf e :: (DataW.weightsAll P e (elems.map (·.1)) ++ DataW.weightsAll P e (rest.map (·.1))), m ≤ reachBytes := by
          have : DataW.weights P t (DataW.slice (elems.map (·.1)) (rest.map (·.1))) = (elems.length + rest.length) * P.bytesOf e :: (DataW.weightsAll P e (elems.map (·.1)) ++ DataW.weightsAll P e (rest.map (·.1))) := by
            simp [DataW.weights, hu]
          rw [← this]; exact hw
        have hlenb : len ≤ reachBytes := by
          have h1 := hwt _ (List.mem_cons_self ..)
          have h2 : (elems.length + rest.length) * 1 ≤ (elems.length + rest.length) * P.bytesOf e := Nat.mul_le_mul_left _ hby
          omega
        have hone : ∀ i, i < len → ∃ ps, TyP P m e ps ∧ ps.length = P.cellsOf e ∧ ∀ (j : Nat) (p : PV), ps[j]? = some p → ∃ y, w.cell? ((a.add (i * P.cellsOf e)).add j) = some y ∧ RP I p y := by
          intro i hi
          have hg := hget i hi
          have hsome : ∃ y, elems[i]? = some y := ⟨elems[i]'(by omega), by simp [hel, hi]⟩
          obtain ⟨y, hy⟩ := hsome
          rw [hy, Option.bind_eq_some_iff] at hg
          obtain ⟨cs', hcs, htr⟩ := hg
          obtain ⟨ps, h1, h2, h3⟩ := ih e cs' y htr (by simpa using he) fun q hq => hwt q (List.mem_cons_of_mem _ (List.mem_append_left _ (weights_all (List.mem_map.2 ⟨y, List.mem_of_getElem? hy, rfl⟩) q hq)))
          obtain ⟨h4, h5⟩ := cells_at hcs
          refine ⟨ps, h1, h3, fun j p hj => ?_⟩
          obtain ⟨z, hz, hr⟩ := h2.get hj
          exact ⟨z, h5 j z hz, hr⟩
        obtain ⟨g, hg⟩ : ∃ g : Nat → List PV, ∀ i, i < len → TyP P m e (g i) ∧ (g i).length = P.cellsOf e ∧ ∀ (j : Nat) (p : PV), (g i)[j]? = some p → ∃ y, w.cell? ((a.add (i * P.cellsOf e)).add j) = some y ∧ RP I p y := by
          refine ⟨fun i => if hi : i < len then (hone i hi).choose else [], fun i hi => ?_⟩
          simp only [dif_pos hi]
          exact (hone i hi).choose_spec
        have hcget : ∀ (i : Nat) (el : List PV), ((List.range len).map g)[i]? = some el → i < len ∧ el = g i := fun i el hi => by
          have hlt' := (List.getElem?_eq_some_iff.1 hi).1
          simp at hlt'
          rw [List.getElem?_map, List.getElem?_range hlt'] at hi
          simp at hi
          exact ⟨hlt', hi.symm⟩
        refine ⟨[.sl ((List.range len).map g)], ⟨_, rfl, by simpa using hlenb, fun el hel' => ?_⟩, .cons ?_ .nil, hc1.symm⟩
        · obtain ⟨i, hi, rfl⟩ := List.mem_map.1 hel'
          exact (hg i (by simpa using hi)).1
        · by_cases h0 : len = 0
          · subst h0
            exact .sl0 _ _
          · obtain ⟨p0, hp0⟩ : ∃ p, (g 0)[0]? = some p := ⟨(g 0)[0]'(by rw [(hg 0 (by omega)).2.1]; exact hpos), by simp⟩
            obtain ⟨y0, hy0, _⟩ := (hg 0 (by omega)).2.2 0 p0 hp0
            have hadd0 : (a.add (0 * P.cellsOf e)).add 0 = a := by simp [Addr.add]
            rw [hadd0] at hy0
            have ha := cell_addr hy0
            have := RP.of_seg (I := I) (c := (List.range len).map g) (b := a.block) (o := a.off) (cap := cap) (sz := P.cellsOf e) (by simpa using hlc) (fun el hel' => by
              obtain ⟨i, hi, rfl⟩ := List.mem_map.1 hel'
              exact (hg i (by simpa using hi)).2.1) (fun i el j p hi hj => by
              obtain ⟨hlt', rfl⟩ := hcget i el hi
              obtain ⟨y, h1, h2⟩ := (hg i hlt').2.2 j p hj
              refine ⟨y, hI _ _ _ ?_, h2⟩
              have hadd : (a.add (i * P.cellsOf e)).add j = ⟨a.block, a.off + (i * P.cellsOf e + j), none⟩ := by
                have := add_add a.block a.off (i * P.cellsOf e) j
                rw [← ha] at this; exact this
              rw [hadd] at h1
              exact h1)
            rw [← ha] at this
            simpa using this
    · rename_i fs hu
      obtain ⟨xs, m, hfuel, rfl, hcl, hxl, hget⟩ := DataW.trod_struct hu h
      have hm : m = n := by omega
      subst hm
      obtain ⟨hf1, hf2, hf3⟩ := K0.struct hlt hu
      have hwt : ∀ m ∈ DataW.weightsEach P (fs.toList.map (·.type)) (xs.map (·.1)), m ≤ reachBytes := by
        have : DataW.weights P t (DataW.agg (xs.map (·.1))) = DataW.weightsEach P (fs.toList.map (·.type)) (xs.map (·.1)) := by
          rw [DataW.weights, hu]
        rw [← this]; exact hw
      obtain ⟨ps, h1, h2, h3⟩ := parts_ok (P := P) (I := I) (n := m) fs.toList 0 cs (fun j f hj => by rw [hf3 j f hj]; omega) (fun f hf => by
        obtain ⟨i, hi⟩ := List.mem_iff_getElem?.1 hf
        have hi' : fs[i]? = some f := by simpa using hi
        have hg := hget i f hi'
        have hlt' : i < fs.size := (Array.getElem?_eq_some_iff.1 hi').1
        obtain ⟨y, hy⟩ : ∃ y, xs[i]? = some y := ⟨xs[i]'(by omega), by simp [hxl, hlt']⟩
        rw [hy] at hg
        exact ih f.type _ y hg (by simpa using List.all_eq_true.1 hLt f hf) fun q hq => hwt q (weights_each (j := i) (t := f.type) (d := y.1) (by simp [hi']) (by simp [hy]) q hq)) (by rw [hcl, hf2]; omega)
      refine ⟨ps, ⟨by rw [h1, hf2], fun i f hi => ?_⟩, by simpa using h2, by rw [h1, hf2]⟩
      have := h3 i f (by simpa using hi)
      simpa using this
    · cases hLt
def argOf (P : Program) (t : TypeId) (ps : List PV) : AV :=
  match P.underlying t with
  | some (.struct _) => .agg (ps.map CV.pv)
  | _ => match ps with
    | [p] => .c (.pv p)
    | _ => .c .top
theorem ok_one {r : Reach} {base : Nat} {t : TypeId} {v : Value} (h : Value.okWide P w r base t v) (hs : (∀ fs, P.underlying t ≠ some (.struct fs)) ∧ ∀ n e, P.underlying t ≠ some (.array n e)) : v.cells = #[v] := by
  unfold Value.okWide at h
  split at h
  · exact absurd ‹_› (hs.1 _)
  · exact absurd ‹_› (hs.2 _ _)
  · cases v <;> first | rfl | (unfold Cell.okWide Cell.ok at h; split at h <;> simp_all)
theorem post_of_old {f : Func} {s : ChangeSpec} {apart fresh handsOn again : Bool} {W W' : World} {args : Array Value} {v : Value} {ds gs : List (DataW H)} {before pa pv : List MemPlace}
    (hW : DataW.Whole enc P f.params.toList s.vars apart W args.toList ds gs before)
    (hres : ∀ (b : Nat) (sp : Nat → Bool) (hd : Bool), DataW.TrodAll enc P W' b sp hd f.resultTypes.toList (v.resultList f.resultTypes.size) (s.fn H (ds ++ gs)).results [])
    (hargs : ∀ sp : Nat → Bool, (∀ p ∈ before, sp p.block = true) → DataW.TrodAll enc P W' 0 sp true f.params.toList args.toList (s.fn H (ds ++ gs)).args pa)
    (hvars : ∀ sp : Nat → Bool, (∀ p ∈ before, sp p.block = true) → DataW.TrodVars enc P W' sp s.vars (s.fn H (ds ++ gs)).vars pv)
    (hps : before = pa ++ pv) (hk : W.keptBut W' (· ∈ before)) (hfz : ∀ a : Addr, a.block < W.heap.size → W'.frozen? a = W.frozen? a)
    (hok : ∀ (j : Nat) (t : TypeId) (r : Value), f.resultTypes[j]? = some t → (v.resultList f.resultTypes.size)[j]? = some r → Value.okWide P W' .any 0 t r) :
    s.post enc P f apart fresh handsOn again W args v W' := by
  have hold : ∀ p ∈ before, (fun b => decide (b < W.heap.size)) p.block = true := fun p hp => by simpa using hW.lt p hp
  have hlt := fun p hp => hW.lt p hp
  refine ⟨ds, gs, before, [], pa, pv, hW, hres _ _ _, hargs _ hold, hvars _ hold, World.keptBut_mono (fun p hp => ⟨hp, ?_⟩) hk, fun _ => ?_⟩
  · rw [hps, List.mem_append] at hp
    exact Or.inr hp
  · obtain ⟨_, _, _, _, _, hz, hn⟩ := hW
    refine ⟨hok, _, _, ([] ++ pa) ++ pv, ⟨[] ++ pa, pv, trodAll_append (hargs _ (fun _ _ => rfl)) (hres _ _ _), hvars _ (fun _ _ => rfl), rfl, ?_, ?_⟩, ?_⟩
    · intro b off hp
      have hp' : MemPlace.cell b off ∈ before := by rw [hps]; simpa using hp
      rw [hfz _ (hlt _ hp')]
      exact hz b off hp'
    · intro ha
      have := hn ha
      rw [hps] at this
      simpa using this
    · intro p hp _
      rw [hps]
      simpa using hp
def oldGh (w : World) : Gh := { I := fun b o => w.cell? ⟨b, o, none⟩, bb := fun _ => none, ow := fun _ => none }
theorem oldWI (h : TabOK (oldGh w) w) : WI (oldGh w) w :=
  ⟨fun _ _ _ h => h, fun b hb => ⟨fun o => by
    show w.cell? ⟨b, o, none⟩ = none
    unfold World.cell?
    have : w.heap[b]? = none := Array.getElem?_eq_none hb
    simp [this], rfl⟩, fun _ _ h => (by cases h), fun _ _ h => (by cases h), h⟩
theorem keptBut_of_old {W W' : World} (hos : W'.os = W.os) (hout : W'.output = W.output) (h : ∀ b, b < W.heap.size → W'.heap[b]? = W.heap[b]?) (may : MemPlace → Prop) : W.keptBut W' may := by
  refine ⟨hos, hout, fun i hi => ?_⟩
  rw [h i hi]
  split
  · rename_i h1 h2; rw [h1] at h2; cases h2; exact ⟨rfl, rfl, rfl, fun _ _ => rfl⟩
  · rename_i h1 h2; rw [h1] at h2; cases h2; exact .inr ⟨rfl, rfl⟩
  · rfl
end
theorem kids : Kids Tryz.prog (· < Tryz.prog.types.size) := kids_rows (by kernel_rfl) (by kernel_rfl)
theorem slices_full : ∀ t e, t < Tryz.prog.types.size → Tryz.prog.underlying t = some (.slice e) → 0 < Tryz.prog.cellsOf e := slices_full_of _ (by kernel_rfl)
theorem laid_mem {w : World} : ∀ {l : List (String × DataW Unit)} {ps : List MemPlace}, DataW.LaidVars Tryz.prog w l ps → ∀ {n : String} {d : DataW Unit}, (n, d) ∈ l →
    ∃ g t cs fuel p, Tryz.prog.globalNamed n = some g ∧ (Tryz.prog.globals[g]?).map (·.type) = some t ∧ w.var? Tryz.prog n = some cs ∧ DataW.trod (fun _ => ()) Tryz.prog w 0 (fun _ => true) false fuel t cs.toList = some (d, p)
  | [], _, _, n, d, hm => by simp at hm
  | (m, e) :: l, ps, h, n, d, hm => by
    obtain ⟨g, t, cs, fuel, p, q, h1, h2, h3, h4, h5, _⟩ := h
    rcases List.mem_cons.1 hm with h | h
    · cases h; exact ⟨g, t, cs, fuel, p, h1, h2, h3, h4⟩
    · exact laid_mem h5 h
set_option maxRecDepth 100000 in
theorem tab_ok {W : World} {laid : List (String × DataW Unit)} (hL : laidMet Tryz.prog laid W) (hm : ("internal/strconv.uint64pow10", Go.Proofs.YtjjeloinclmopaaGreatDoor.Rows.laid_internal_strconv_uint64pow10) ∈ laid) (hsh : W.ShapedOpen Tryz.prog) : TabOK (oldGh W) W := by
  refine ⟨fun x hx => ⟨rfl, ?_⟩, fun b hb => ⟨rfl, ?_⟩⟩
  · simp only [tabs, List.mem_cons, List.not_mem_nil, or_false] at hx
    subst hx
    obtain ⟨ps, hl, _⟩ := hL
    obtain ⟨g, t, cs, fuel, p, h1, h2, h3, h4⟩ := laid_mem hl hm
    have hg : g = 3 := Option.some.inj (h1.symm.trans (show Tryz.prog.globalNamed "internal/strconv.uint64pow10" = some 3 by kernel_rfl))
    subst hg
    have ht : t = 272 := Option.some.inj (h2.symm.trans (show (Tryz.prog.globals[3]?).map (·.type) = some 272 by kernel_rfl))
    subst ht
    have hcs := Lib.cells_of_tab (k := .u64) (zs := (List.range 20).map fun i => ((10 ^ i : Nat) : Int)) (n := 20) (e := 256) (by kernel_rfl) (by kernel_rfl) (by kernel_rfl) (by kernel_rfl) (h := h4)
    simp only [World.var?, h1, Option.bind_some] at h3
    split at h3
    · rename_i cs' ty fz hh
      cases h3
      refine ⟨ty, fz, hh.trans ?_⟩
      have : cs = cs.toList.toArray := by simp
      rw [this, hcs]
      simp
    · cases h3
  · simp only [ints, List.mem_cons, List.not_mem_nil, or_false] at hb
    subst hb
    obtain ⟨cs, hh, hs, hr⟩ := hsh.1 2 #[.int .i64 0] 3 (of_decide_eq_true (by kernel_rfl)) (by kernel_rfl)
    obtain ⟨ts, hts, _, hall⟩ := hr (by kernel_rfl)
    have hct : Tryz.prog.cellTypes Tryz.prog.depth 3 = some [3] := by kernel_rfl
    have hts' : ts = [3] := Option.some.inj (hts.symm.trans hct)
    subst hts'
    have h1 : 0 < cs.size := by rw [hs]; simp
    obtain ⟨u, hu', hok⟩ := hall 0 cs[0] (by simp [h1])
    have hu0 : u = 3 := by simpa using hu'.symm
    subst hu0
    unfold Cell.ok at hok
    rw [show Tryz.prog.underlying 3 = some (.int .i64) by kernel_rfl] at hok
    cases hv : cs[0] with
    | int k m =>
      rw [hv] at hok
      obtain ⟨rfl, _⟩ := hok
      exact ⟨m, cs, 3, _, hh, by simp [h1, hv]⟩
    | _ => rw [hv] at hok; simp at hok
section
variable {H : Type} {enc : TypeId × Value → H}
set_option maxRecDepth 100000 in
theorem args_ok {W : World} {base : Nat} {L : List TypeId} (hL : flatSet Tryz.prog L = true) : ∀ {ts : List TypeId} {vs : List Value} {ds : List (DataW H)} {ps : List MemPlace}, DataW.TrodAll enc Tryz.prog W 0 (fun _ => true) true ts vs ds ps → (∀ t ∈ ts, t ∈ L) →
    (∀ (j : Nat) (t : TypeId) (v : Value), ts[j]? = some t → vs[j]? = some v → Value.okWide Tryz.prog W .any base t v) → (∀ m ∈ DataW.weightsEach Tryz.prog ts ds, m ≤ reachBytes) →
    ∃ pss : List (List PV), All2 (fun t p => ∃ n, TyP Tryz.prog n t p) ts pss ∧ All2 (fun v x => RA (oldGh W) W .ret v x) (List.zipWith (argOf Tryz.prog) ts pss) vs ∧ ∀ v ∈ List.zipWith (argOf Tryz.prog) ts pss, isOwn v = false
  | [], [], [], _, _, _, _, _ => ⟨[], .nil, .nil, by simp⟩
  | t :: ts, v :: vs, d :: ds, ps, h, hts, hval, hw => by
    obtain ⟨p, q, ⟨n, h1⟩, h2, _⟩ := h
    have hw1 : ∀ m ∈ d.weights Tryz.prog t, m ≤ reachBytes := fun m hm => hw m (by unfold DataW.weightsEach; exact List.mem_append_left _ hm)
    have hw2 : ∀ m ∈ DataW.weightsEach Tryz.prog ts ds, m ≤ reachBytes := fun m hm => hw m (by unfold DataW.weightsEach; exact List.mem_append_right _ hm)
    have hv2 : ∀ (j : Nat) (u : TypeId) (x : Value), ts[j]? = some u → vs[j]? = some x → Value.okWide Tryz.prog W .any base u x := by
      intro j u x hj hx
      refine hval (j + 1) u x ?_ ?_
      · rw [List.getElem?_cons_succ]; exact hj
      · rw [List.getElem?_cons_succ]; exact hx
    obtain ⟨pss, h3, h4, h5⟩ := args_ok hL h2 (fun u hu => hts u (List.mem_cons_of_mem _ hu)) hv2 hw2
    obtain ⟨pv, h6, h7, h8⟩ := trod_RP (w := W) (I := (oldGh W).I) (fun _ _ _ h => h) kids hL n t _ _ h1 (hts t (by simp)) hw1
    have hok := hval 0 t v rfl rfl
    have key : RA (oldGh W) W .ret (argOf Tryz.prog t pv) v ∧ isOwn (argOf Tryz.prog t pv) = false := by
      unfold argOf
      split
      · rename_i fs hu
        refine ⟨?_, rfl⟩
        unfold Value.okWide at hok
        rw [hu] at hok
        obtain ⟨cs, rfl, _, _⟩ := hok
        exact ⟨cs.toList, by simp, All2.map_left (h7.imp fun _ _ _ h => h)⟩
      · rename_i hns
        have hnarr : ∀ m e, Tryz.prog.underlying t ≠ some (.array m e) := fun m e hu => by
          have := List.all_eq_true.1 hL t (hts t (by simp))
          rw [hu] at this
          simp at this
        rw [ok_one hok ⟨fun fs => hns fs, hnarr⟩] at h7
        cases h7 with
        | cons ha hb =>
          cases hb
          exact ⟨ha, rfl⟩
    refine ⟨pv :: pss, .cons ⟨n, h6⟩ h3, .cons key.1 h4, fun x hx => ?_⟩
    simp only [List.zipWith_cons_cons, List.mem_cons] at hx
    rcases hx with rfl | hx
    · exact key.2
    · exact h5 x hx
theorem trodAll_len {W : World} {base : Nat} {sp : Nat → Bool} {held : Bool} : ∀ {ts : List TypeId} {vs : List Value} {ds : List (DataW H)} {ps : List MemPlace}, DataW.TrodAll enc Tryz.prog W base sp held ts vs ds ps → ds.length = ts.length
  | [], [], [], _, _ => rfl
  | _ :: _, _ :: _, _ :: _, _, ⟨_, _, _, h2, _⟩ => by simp [trodAll_len h2]
theorem trodAll_carry {W W' : World} {base : Nat} {sp : Nat → Bool} {held : Bool} : ∀ {ts : List TypeId} {vs : List Value} {ds : List (DataW H)} {ps : List MemPlace}, (∀ p ∈ ps, W.sameAt W' p) → DataW.TrodAll enc Tryz.prog W base sp held ts vs ds ps → DataW.TrodAll enc Tryz.prog W' base sp held ts vs ds ps
  | [], [], [], _, _, h => h
  | _ :: _, _ :: _, _ :: _, _, hs, ⟨p, q, ⟨n, h1⟩, h2, e⟩ => ⟨p, q, ⟨n, DataW.trod_carry n _ _ _ h1 fun x hx => hs x (by rw [e]; exact List.mem_append_left _ hx)⟩, trodAll_carry (fun x hx => hs x (by rw [e]; exact List.mem_append_right _ hx)) h2, e⟩
set_option maxRecDepth 100000 in
/-- WHAT A LAW's ROW ASKS, from the interpreter's answer. -/
theorem law_ok {f : FuncId} {fn : Func} {spec : ChangeSpec} {laid : List (String × DataW Unit)} {L : List TypeId} {W : World} {base : Nat} {args : Array Value} {ds gs : List (DataW H)} {before : List MemPlace}
    (hg : K.good f = true) (hL : flatSet Tryz.prog L = true) (hts : ∀ t ∈ fn.params.toList, t ∈ L) (hres : fn.resultTypes = #[4]) (hvars : spec.vars = []) (hspec : ∀ ds : List (DataW H), ds.length = fn.params.size → spec.fn H ds = { results := [.lit (.bool true)], args := ds })
    (hmem : ("internal/strconv.uint64pow10", Go.Proofs.YtjjeloinclmopaaGreatDoor.Rows.laid_internal_strconv_uint64pow10) ∈ laid) (hnoh : (laid.filter fun x => x.2.handleName?.isSome) = [])
    (hden : ∀ pss : List (List PV), All2 (fun t p => ∃ n, TyP Tryz.prog n t p) fn.params.toList pss → den K f (List.zipWith (argOf Tryz.prog) fn.params.toList pss) [] = some (.ret (.c (.pv (.bool true))) []))
    (hval : ∀ (j : Nat) t v, fn.params[j]? = some t → args[j]? = some v → Value.okWide Tryz.prog W .any base t v)
    (hW : DataW.Whole enc Tryz.prog fn.params.toList spec.vars false W args.toList ds gs before)
    (hwt : (DataW.weightsEach Tryz.prog fn.params.toList ds).all (· ≤ reachBytes) = true)
    (hLaid : laidMetH Tryz.prog laid W) (hsh : W.ShapedOpen Tryz.prog) :
    Calls Tryz.prog f args W fun e W' => ∃ v, e = .returned v ∧ spec.post enc Tryz.prog fn false true false false W args v W' := by
  have hW' := hW
  obtain ⟨p, q, hA, hV, rfl, hfz, hnd⟩ := hW
  rw [hvars] at hV
  have hgq : gs = [] ∧ q = [] := by
    cases gs with
    | nil => exact ⟨rfl, hV⟩
    | cons g gs => exact hV.elim
  obtain ⟨rfl, rfl⟩ := hgq
  have hlen := trodAll_len hA
  have hv2 : ∀ (j : Nat) (u : TypeId) (x : Value), fn.params.toList[j]? = some u → args.toList[j]? = some x → Value.okWide Tryz.prog W .any base u x := by
    intro j u x hj hx
    rw [Array.getElem?_toList] at hj hx
    exact hval j u x hj hx
  obtain ⟨pss, h1, h2, h3⟩ := args_ok (base := base) hL hA hts hv2 (fun m hm => by simpa using List.all_eq_true.1 hwt m hm)
  have hlm : laidMet Tryz.prog laid W := by
    unfold laidMetH at hLaid
    rw [hnoh] at hLaid
    exact hLaid
  have hwi := oldWI (tab_ok hlm hmem hsh)
  have hc := den_ok K_prog hg (hden pss h1) (oldGh W) W args.toList hwi h2 h3 (fun i l h => by simp at h) (fun s b h => by cases h)
  rw [Array.toArray_toList] at hc
  refine hc.mono fun e W' ⟨G', hx, hw', v, he, hv, _⟩ => ?_
  subst he
  have hv' : v = .bool true := RA.boolv hv
  subst hv'
  refine ⟨_, rfl, ?_⟩
  have hold : ∀ b, b < W.heap.size → W'.heap[b]? = W.heap[b]? := fun b hb => (hx.old b hb rfl).2.1
  have hds : spec.fn H (ds ++ []) = { results := [.lit (.bool true)], args := ds } := by
    rw [List.append_nil]
    exact hspec ds (by rw [hlen]; simp)
  refine post_of_old (pa := p) (pv := []) hW' (fun b sp hd => ?_) (fun sp hsp => ?_) (fun sp hsp => ?_) rfl (keptBut_of_old hx.os hx.output hold _) (fun a ha => ?_) ?_
  · rw [hds, hres]
    exact trodAll_cons_mk (shut_bool (by kernel_rfl) _) trodAll_mk0
  · rw [hds]
    have hT : ∀ t ∈ fn.params.toList, t < Tryz.prog.types.size := fun t ht => by
      have := List.all_eq_true.1 hL t (hts t ht)
      simp only [Bool.and_eq_true, decide_eq_true_eq] at this
      exact this.1
    have := DataW.TrodAll.respare (spare' := sp) kids slices_full hT hA (fun y hy => hsp y (by simpa using hy))
    refine trodAll_carry (fun y hy => ?_) this
    have hlt : y.block < W.heap.size := DataW.TrodAll.lt hA y hy
    cases y with
    | cell b off =>
      show W'.cell? ⟨b, off, none⟩ = W.cell? ⟨b, off, none⟩
      unfold World.cell?
      rw [hold b hlt]
    | map b => exact hold b hlt
  · rw [hds, hvars]
    rfl
  · unfold World.frozen?
    rw [hold a.block ha]
  · rw [hres]
    intro j t r hj hr
    have hj0 : j = 0 := by
      rcases Nat.eq_zero_or_pos j with h | h
      · exact h
      · rw [Array.getElem?_eq_none (by simp; omega)] at hj; cases hj
    subst hj0
    simp at hj
    subst hj
    have hr0 : r = .bool true := by
      have : ((Value.bool true).resultList 1)[0]? = some r := by simpa using hr
      simp [Value.resultList] at this
      exact this.symm
    subst hr0
    exact okWide_bool_mk (by kernel_rfl) _
end
end Go.Abs
namespace Go.Abs
open Go Go.Proofs
def fieldTys (P : Program) (t : TypeId) : Option (List (TypeId × Nat × Nat)) :=
  match P.underlying t with
  | some (.struct fs) => some (fs.toList.map fun f => (f.type, f.offset, P.cellsOf f.type))
  | _ => none
section
variable {P : Program} {t e : TypeId} {n : Nat} {ps : List PV}
theorem TyP_int {k : IntKind} (h : descOf P t = some (.int k)) (hp : TyP P n t ps) : ∃ z, ps = [.int k z] ∧ (Lit.int k z).wf = true := by
  cases n with
  | zero => exact hp.elim
  | succ n => unfold TyP at hp; rw [desc_int h] at hp; exact hp
theorem TyP_str (h : descOf P t = some .str) (hp : TyP P n t ps) : ∃ s, ps = [.str s] ∧ s.length ≤ reachBytes := by
  cases n with
  | zero => exact hp.elim
  | succ n => unfold TyP at hp; rw [desc_str h] at hp; exact hp
theorem TyP_sl {b : Bool} (h : descOf P t = some (.sl e b)) (hp : TyP P n t ps) : ∃ m c, n = m + 1 ∧ ps = [.sl c] ∧ c.length ≤ reachBytes ∧ ∀ el ∈ c, TyP P m e el := by
  cases n with
  | zero => exact hp.elim
  | succ n =>
    unfold TyP at hp
    rw [(desc_sl h).1] at hp
    obtain ⟨c, h1, h2, h3⟩ := hp
    exact ⟨n, c, rfl, h1, h2, h3⟩
theorem TyP_struct {l : List (TypeId × Nat × Nat)} {sz : Nat} (h : fieldTys P t = some l) (hs : P.cellsOf t = sz) (hp : TyP P n t ps) : ∃ m, n = m + 1 ∧ ps.length = sz ∧ ∀ (i : Nat) (x : TypeId × Nat × Nat), l[i]? = some x → TyP P m x.1 ((ps.drop x.2.1).take x.2.2) := by
  cases n with
  | zero => exact hp.elim
  | succ n =>
    unfold fieldTys at h
    split at h
    case h_2 => cases h
    rename_i fs hu
    cases h
    unfold TyP at hp
    rw [hu] at hp
    obtain ⟨h1, h2⟩ := hp
    refine ⟨n, rfl, by rw [h1, hs], fun i x hx => ?_⟩
    rw [List.getElem?_map, Option.map_eq_some_iff] at hx
    obtain ⟨f, hf, rfl⟩ := hx
    exact h2 i f (by simpa using hf)
theorem list_of {α : Type} {f : α → List PV} {Q : α → Prop} : ∀ {c : List (List PV)}, (∀ el ∈ c, ∃ x, el = f x ∧ Q x) → ∃ l : List α, c = l.map f ∧ ∀ x ∈ l, Q x
  | [], _ => ⟨[], rfl, by simp⟩
  | el :: c, h => by
    obtain ⟨x, rfl, hx⟩ := h el (by simp)
    obtain ⟨l, rfl, hl⟩ := list_of (c := c) fun y hy => h y (by simp [hy])
    exact ⟨x :: l, rfl, fun y hy => by
      rcases List.mem_cons.1 hy with rfl | hy
      · exact hx
      · exact hl y hy⟩
theorem wf_I64 {z : Int} (h : (Lit.int .i64 z).wf = true) : I64 z := by
  simp only [Lit.wf, Bool.and_eq_true, decide_eq_true_eq] at h
  exact h
end
theorem len3p {α : Type} {l : List α} (h : l.length = 3) : ∃ a b c, l = [a, b, c] := by
  match l, h with
  | [a, b, c], _ => exact ⟨a, b, c, rfl⟩
end Go.Abs
namespace Go.Abs
open Go Go.Proofs
set_option maxRecDepth 100000
theorem ft_tok : fieldTys Tryz.prog 47 = some [(3, 0, 1), (9, 1, 1), (3, 2, 1)] := by kernel_rfl
def Tok.Ok (t : Tok) : Prop := I64 t.kind ∧ I64 t.n ∧ t.text.length ≤ reachBytes
theorem ty_tok {n : Nat} {ps : List PV} (hp : TyP Tryz.prog n 47 ps) : ∃ x : Tok, ps = x.enc ∧ x.Ok := by
  obtain ⟨m, rfl, hl, hf⟩ := TyP_struct (sz := 3) ft_tok (by kernel_rfl) hp
  obtain ⟨p0, p1, p2, rfl⟩ := len3p hl
  obtain ⟨k, hk, hkw⟩ := TyP_int ty_descOf_3 (hf 0 _ rfl)
  obtain ⟨s, hs, hsl⟩ := TyP_str ty_descOf_9 (hf 1 _ rfl)
  obtain ⟨a, ha, haw⟩ := TyP_int ty_descOf_3 (hf 2 _ rfl)
  simp at hk hs ha
  subst hk; subst hs; subst ha
  exact ⟨⟨k, s, a⟩, rfl, wf_I64 hkw, wf_I64 haw, hsl⟩
theorem argOf_str (p : PV) : argOf Tryz.prog 9 [p] = .c (.pv p) := by
  unfold argOf; rw [Tryz.underlying9]
theorem args2 {t u : TypeId} {pss : List (List PV)} {Q : Prop} (h : All2 (fun t p => ∃ n, TyP Tryz.prog n t p) [t, u] pss) (hq : ∀ n m p q, TyP Tryz.prog n t p → TyP Tryz.prog m u q → pss = [p, q] → Q) : Q := by
  cases h with
  | cons h1 h =>
  cases h with
  | cons h2 h =>
  cases h
  obtain ⟨n, h1⟩ := h1
  obtain ⟨m, h2⟩ := h2
  exact hq n m _ _ h1 h2 rfl
end Go.Abs
namespace Go.Abs
open Go Go.Proofs
set_option maxRecDepth 100000
theorem len5 {α : Type} {l : List α} (h : l.length = 5) : ∃ a b c d e, l = [a, b, c, d, e] := by
  match l, h with
  | [a, b, c, d, e], _ => exact ⟨a, b, c, d, e, rfl⟩
theorem ft_val : fieldTys Tryz.prog 49 = some [(3, 0, 1), (47, 1, 3), (22, 4, 1)] := by kernel_rfl
theorem allT_of {p : Tok → Prop} : ∀ {l : List Val}, (∀ v ∈ l, Ne.allV p v) → Ne.allT p l
  | [], _ => by rw [Ne.allT]; trivial
  | v :: l, h => by
    rw [Ne.allT]
    exact ⟨h v (by simp), allT_of fun x hx => h x (by simp [hx])⟩
theorem ty_val : ∀ (n : Nat) (ps : List PV), TyP Tryz.prog n 49 ps → ∃ x : Val, ps = x.enc ∧ Ne.allV (fun t => I64 t.n) x := by
  intro n
  induction n using Nat.strongRecOn with
  | _ n ih =>
    intro ps hp
    obtain ⟨m, rfl, hl, hf⟩ := TyP_struct (sz := 5) ft_val (by kernel_rfl) hp
    obtain ⟨p0, p1, p2, p3, p4, rfl⟩ := len5 hl
    obtain ⟨k, hk, hkw⟩ := TyP_int ty_descOf_3 (hf 0 _ rfl)
    obtain ⟨t, ht, hto⟩ := ty_tok (hf 1 _ rfl)
    obtain ⟨j, c, rfl, hc, hcl, hce⟩ := TyP_sl ty_descOf_22 (hf 2 _ rfl)
    obtain ⟨l, rfl, hlo⟩ := list_of (f := Val.enc) (Q := Ne.allV (fun t => I64 t.n)) fun el hel => ih j (by omega) el (hce el hel)
    simp [Tok.enc] at hk ht hc
    subst hk; subst hc
    obtain ⟨rfl, rfl, rfl⟩ := ht
    refine ⟨.mk k t l, ?_, ?_⟩
    · rw [Val.enc, encL_map]
    · rw [Ne.allV]
      exact ⟨hto.2.1, allT_of hlo⟩
theorem ty_vals {n : Nat} {ps : List PV} (hp : TyP Tryz.prog n 22 ps) : ∃ l : List Val, ps = [.sl (encL l)] ∧ Ne.allT (fun t => I64 t.n) l := by
  obtain ⟨j, c, rfl, rfl, hcl, hce⟩ := TyP_sl ty_descOf_22 hp
  obtain ⟨l, rfl, hlo⟩ := list_of (f := Val.enc) (Q := Ne.allV (fun t => I64 t.n)) fun el hel => ty_val j el (hce el hel)
  exact ⟨l, by rw [encL_map], allT_of hlo⟩
end Go.Abs
namespace Go.Abs
open Go Go.Proofs
set_option maxRecDepth 100000
theorem TyP_bool {P : Program} {t : TypeId} {n : Nat} {ps : List PV} (h : isBoolT P t = true) (hp : TyP P n t ps) : ∃ b, ps = [.bool b] := by
  cases n with
  | zero => exact hp.elim
  | succ n =>
    unfold isBoolT at h
    unfold TyP at hp
    split at h
    · rename_i hu
      rw [hu] at hp
      exact hp
    · cases h
theorem ft_dcl : fieldTys Tryz.prog 44 = some [(9, 0, 1), (22, 1, 1), (4, 2, 1)] := by kernel_rfl
theorem ty_dcl {n : Nat} {ps : List PV} (hp : TyP Tryz.prog n 44 ps) : ∃ x : Dcl, ps = x.enc ∧ DclI x := by
  obtain ⟨m, rfl, hl, hf⟩ := TyP_struct (sz := 3) ft_dcl (by kernel_rfl) hp
  obtain ⟨p0, p1, p2, rfl⟩ := len3p hl
  obtain ⟨s, hs, _⟩ := TyP_str ty_descOf_9 (hf 0 _ rfl)
  obtain ⟨l, hl2, hli⟩ := ty_vals (hf 1 _ rfl)
  obtain ⟨b, hb⟩ := TyP_bool ty_isBoolT_4 (hf 2 _ rfl)
  simp at hs hl2 hb
  subst hs; subst hl2; subst hb
  exact ⟨⟨s, l, b⟩, rfl, ⟨hli⟩⟩
theorem ty_dcls {n : Nat} {ps : List PV} (hp : TyP Tryz.prog n 23 ps) : ∃ l : List Dcl, ps = [.sl (encD l)] ∧ ∀ d ∈ l, DclI d := by
  obtain ⟨j, c, rfl, rfl, hcl, hce⟩ := TyP_sl ty_descOf_23 hp
  obtain ⟨l, rfl, hlo⟩ := list_of (f := Dcl.enc) (Q := DclI) fun el hel => ty_dcl (hce el hel)
  exact ⟨l, rfl, hlo⟩
def flatD : List TypeId := [4, 3, 9, 47, 90, 49, 22, 44, 23]
theorem flatD_ok : flatSet Tryz.prog flatD = true := by kernel_rfl
theorem argOf_dcls (p : PV) : argOf Tryz.prog 23 [p] = .c (.pv p) := by
  unfold argOf; rw [Tryz.underlying23]
end Go.Abs
namespace Go.Abs
open Go Go.Proofs
set_option maxRecDepth 100000
theorem DeclsBack_args (pss : List (List PV)) (h : All2 (fun t p => ∃ n, TyP Tryz.prog n t p) Tryz.f4.params.toList pss) :
    den K 4 (List.zipWith (argOf Tryz.prog) Tryz.f4.params.toList pss) [] = some (.ret (.c (.pv (.bool true))) []) := by
  have hp : Tryz.f4.params.toList = [23, 9] := rfl
  rw [hp] at h ⊢
  refine args2 h fun n m p q h1 h2 e => ?_
  subst e
  obtain ⟨l, rfl, hl⟩ := ty_dcls h1
  obtain ⟨s, rfl, _⟩ := TyP_str ty_descOf_9 h2
  simp only [List.zipWith_cons_cons, List.zipWith_nil_left, argOf_dcls, argOf_str]
  exact DeclsBack_den l s hl
end Go.Abs
