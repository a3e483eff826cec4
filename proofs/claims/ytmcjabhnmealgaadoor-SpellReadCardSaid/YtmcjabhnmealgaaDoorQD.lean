/-
  WHAT THE FUNCTIONS COMPUTE: selectors and their texts.
  WHAT THE FUNCTIONS COMPUTE: complex selectors and lists of them.
-/
import Derived.Test.YtmcjabhnmealgaaDoorQI
set_option linter.unusedSimpArgs false
set_option linter.unusedVariables false
namespace Go.Abs
open Go Go.Proofs
set_option maxRecDepth 10000
attribute [local go_sem] exL_seq exL_region exL_cond exL_block exL_scope exL_ret exL_skip exL_exit runRegion runOps stepOp guardA absOp takeOver opd avOf cvOf St.degAt St.put okPV okVal okAV absBin intBin strBin boolBin setBoxes if_true Bool.false_eq_true if_false Option.map_some Option.map_none Option.bind_some Option.bind_none thenO outOf upd List.toList_toArray isOwn steal appArgs inApps AV.deg CV.deg AV.gv AV.isIter absNext some_bne List.length_nil List.length_cons List.filterMap_cons List.filterMap_nil beq_iff_eq List.getElem?_cons_zero List.getElem?_cons_succ Option.getD_some K_hook hookB Bool.false_and Bool.and_false Bool.and_self K_P K_own absCall doCall getBoxes lend back idx dedup AV.ren CV.ren TV.ren AV.ptrs CV.ptrs zipBox AV.flat CV.flat absLoad absStore cellsOfAV setAt newBox markB bldTypes absFieldAddr absField absExtract absAssert noAssert absMkIface ifcOf CV.pv? content pushHead ownT fillCells reps pvs chunks enterSt leave resOf resVars resVar outBoxes lentOnly TV.deg TV.av LK CV.plain CV.noBld nilBin absUn bound List.map_cons List.map_nil List.all_cons List.all_nil List.any_cons List.any_nil List.contains_cons List.contains_nil List.elem_cons List.elem_nil List.cons_append List.nil_append List.append_nil List.flatMap_cons List.flatMap_nil List.zip_cons_cons List.zip_nil_left List.zip_nil_right List.take_succ_cons List.take_zero List.take_nil List.drop_succ_cons List.drop_zero List.drop_nil List.isEmpty_nil List.isEmpty_cons Bool.and_true Bool.true_and Bool.or_true Bool.true_or Bool.or_false Bool.false_or Bool.not_true Bool.not_false Nat.add_zero Nat.zero_add Option.isNone_none Option.isNone_some Option.getD_none true_and and_true not_true_eq_false not_false_eq_true decide_true decide_false Nat.le_refl and_self Bool.not_eq_true Nat.sub_self or_true true_or Option.some.injEq List.length_map List.nil_eq and_false false_and AV.live CV.live CV.liveIn K_keep firstReg Option.orElse_some Option.orElse_none head keepSlots keepBoxes Int.lt_irrefl List.length_append ite_self memOK logOps opKey lentBoxes Key.clash Key.sees Key.writes Nat.lt_irrefl gt_iff_lt nobox_at bot_at false_or or_false beq_self_eq_true Bool.true_beq Bool.false_beq

/-! ### Data -/

mutual
def Sim.enc : Sim → List PV
  | .mk k n v a b l => [.int .i64 k, .str n, .str v, .int .i64 a, .int .i64 b, .sl (Sim.encL l)]
def Sim.encL : List Sim → List (List PV)
  | [] => []
  | x :: l => x.enc :: Sim.encL l
end

theorem Sim.encL_map (l : List Sim) : Sim.encL l = l.map Sim.enc := by
  induction l with
  | nil => rfl
  | cons x l ih => simp only [Sim.encL, List.map_cons, ih]

theorem Sim.enc_mk (k : Int) (n v : List UInt8) (a b : Int) (l : List Sim) : (Sim.mk k n v a b l).enc = [.int .i64 k, .str n, .str v, .int .i64 a, .int .i64 b, .sl (l.map Sim.enc)] := by
  rw [Sim.enc, Sim.encL_map]

theorem Sim.enc_length (x : Sim) : x.enc.length = 6 := by
  cases x; rw [Sim.enc_mk]; rfl

/-- bounds that a reading gives -/
inductive Sim.Ok : Sim → Prop
  | mk {k : Int} {n v : List UInt8} {a b : Int} {l : List Sim} (ha : I64 a) (hb : I64 b) (hn : n.length ≤ reachBytes) (hv : v.length ≤ reachBytes) (hll : l.length ≤ reachBytes) (hl : ∀ x ∈ l, x.Ok) : (Sim.mk k n v a b l).Ok

/-- the builder behind a simple selector -/
def simB (b : BS) (x : Sim) : BS := if 1 ≤ x.kind ∧ x.kind ≤ 11 then .wr (b.text ++ simS x) else b
def simsB (b : BS) (l : List Sim) : BS := l.foldl simB b.live'

theorem simB_text (b : BS) (x : Sim) : (simB b x).text = b.text ++ simS x := by
  unfold simB
  split
  · rfl
  · rename_i h
    cases x with
    | mk k n v a c l =>
      simp only [Sim.kind] at h
      unfold simS
      rw [if_neg (by omega), if_neg (by omega), if_neg (by omega), if_neg (by omega), if_neg (by omega), if_neg (by omega), if_neg (by omega), if_neg (by omega), if_neg (by omega), if_neg (by omega), if_neg (by omega)]
      simp

theorem simB_live (b : BS) (x : Sim) (h : b.live' = b) : (simB b x).live' = simB b x := by
  unfold simB
  split
  · rfl
  · exact h

theorem foldl_text : ∀ (l : List Sim) (b : BS), (l.foldl simB b).text = b.text ++ simsS l
  | [], b => by simp [simsS]
  | x :: l, b => by rw [List.foldl_cons, foldl_text l, simB_text, simsS, List.append_assoc]
theorem simsB_text (b : BS) (l : List Sim) : (simsB b l).text = b.text ++ simsS l := by
  unfold simsB; rw [foldl_text, BS.live_text]

/-- the loop over some -/
abbrev simsH (b : BS) (l : List Sim) (i : Nat) : St :=
  { sl := upd (upd (upd (upd bot 8 (I i)) 7 (I l.length)) 6 (L (l.map Sim.enc))) 0 P0, bx := upd nobox 100000 (some (b.cells 100000)), nt := 16 }

/-- what is to be shown of one -/
def SimDen (x : Sim) : Prop := ∀ b : BS, (b.text ++ simS x).length < txtLim → den K 15 [P0, .agg (x.enc.map CV.pv)] [b.cells 100000] = some (.ret (.tup []) [(simB b x).cells 100000])

theorem simples_loop (all : List Sim) (hal : all.length < 9000000000000000000) : ∀ (rest : List Sim) (i : Nat) (b : BS), all.drop i = rest → (∀ x ∈ rest, SimDen x) → (b.text ++ simsS rest).length < txtLim → b.live' = b → i ≤ all.length →
    exL K 19 (.loop (loopAt Tryd.f19 1)) (simsH b all i) =
      some (.exit 0, { sl := upd (upd (upd (upd (upd bot 8 (I all.length)) 7 (I all.length)) 6 (L (all.map Sim.enc))) 0 P0) 9 (B false), bx := upd nobox 100000 (some ((rest.foldl simB b).cells 100000)), nt := 16 })
  | [], i, b, hd, hok, hlen, hb, hi => by
    have hin : i = all.length := by
      have := List.drop_eq_nil_iff.1 hd
      omega
    subst hin
    conv in loopAt _ _ => whnf
    rw [exL_loop]
    simp only [go_sem, Nat.reduceLT, reduceIte, reduceCtorEq, Nat.reduceEqDiff, apply_ite (Option.map (outOf _)), Nat.reduceBEq, Nat.reduceAdd, Nat.reduceSub, Nat.reduceLeDiff, Nat.reduceMul, ev_len_sl ty_descOf_30, ev_indexAddr ty_descOf_30, ty_szOf_32, ty_shapeT_32, ty_zeroCells_32, good_15, keep_19_1, cells_live, hb, List.foldl_nil]
  | x :: rest, i, b, hd, hok, hlen, hb, hi => by
    obtain ⟨h1, h2, h3⟩ := drop_cons hd
    have hl0 : (b.text ++ simS x).length < txtLim := by simp [simsS] at hlen ⊢; omega
    have hx := hok x (by simp) b hl0
    have hnext := simples_loop all hal rest (i + 1) (simB b x) h2 (fun y hy => hok y (by simp [hy])) (by rw [simB_text]; simpa [simsS] using hlen) (simB_live b x hb) (by omega)
    rw [List.foldl_cons]
    conv at hnext in loopAt _ _ => whnf
    conv in loopAt _ _ => whnf
    rw [exL_loop]
    have hget : (all.map Sim.enc)[(i : Int).toNat]? = some x.enc := by simp [h1]
    have hlt : decide ((i : Int) < (all.length : Int)) = true := lt_true (by omega)
    cases x with
    | mk k n v a c l =>
      rw [Sim.enc_mk] at hget hx
      simp only [List.map_cons, List.map_nil] at hx
      simp only [go_sem, Nat.reduceLT, reduceIte, reduceCtorEq, Nat.reduceEqDiff, apply_ite (Option.map (outOf _)), Nat.reduceBEq, Nat.reduceAdd, Nat.reduceSub, Nat.reduceLeDiff, Nat.reduceMul, ev_len_sl ty_descOf_30, ev_indexAddr ty_descOf_30, ty_szOf_32, ty_shapeT_32, ty_zeroCells_32, good_15, keep_19_1, cells_live, cells_lend, cells_back, hb, hlt, hget, Int.natCast_nonneg, hx, wrap_nat i (by omega)]
      rw [exL_head]
      simp only [go_sem, Nat.reduceLT, reduceIte, reduceCtorEq, Nat.reduceEqDiff, apply_ite (Option.map (outOf _)), Nat.reduceBEq, Nat.reduceAdd, Nat.reduceSub, Nat.reduceLeDiff, Nat.reduceMul, ev_len_sl ty_descOf_30, ev_indexAddr ty_descOf_30, ty_szOf_32, ty_shapeT_32, ty_zeroCells_32, good_15, keep_19_1, cells_live, simB_live _ _ hb]
      exact hnext

theorem simples_den (l : List Sim) (b : BS) (hal : l.length < 9000000000000000000) (hok : ∀ x ∈ l, SimDen x) (hlen : (b.text ++ simsS l).length < txtLim) :
    den K 19 [P0, L (l.map Sim.enc)] [b.cells 100000] = some (.ret (.tup []) [(simsB b l).cells 100000]) := by
  refine den_run rfl Tryd.func19 rfl Tryd.ntmps19 ⟨by simp, by simp [LK]⟩ ?_
  have hr : Tryd.f19.results = #[] := rfl
  have hnext := simples_loop l hal l 0 b.live' rfl hok (by rw [BS.live_text]; exact hlen) (by cases b <;> rfl) (by omega)
  conv at hnext in loopAt _ _ => whnf
  simp only [go_sem, Nat.reduceLT, reduceIte, reduceCtorEq, Nat.reduceEqDiff, apply_ite (Option.map (outOf _)), Nat.reduceBEq, Nat.reduceAdd, Nat.reduceSub, Nat.reduceLeDiff, Nat.reduceMul, ev_len_sl ty_descOf_30, ev_indexAddr ty_descOf_30, ty_szOf_32, ty_shapeT_32, ty_zeroCells_32, good_15, keep_19_1, cells_live]
  rw [exL_head]
  simp only [go_sem, Nat.reduceLT, reduceIte, reduceCtorEq, Nat.reduceEqDiff, apply_ite (Option.map (outOf _)), Nat.reduceBEq, Nat.reduceAdd, Nat.reduceSub, Nat.reduceLeDiff, Nat.reduceMul, ev_len_sl ty_descOf_30, ev_indexAddr ty_descOf_30, ty_szOf_32, ty_shapeT_32, ty_zeroCells_32, good_15, keep_19_1, cells_live]
  erw [hnext]
  simp only [go_sem, Nat.reduceLT, reduceIte, reduceCtorEq, Nat.reduceEqDiff, apply_ite (Option.map (outOf _)), Nat.reduceBEq, Nat.reduceAdd, Nat.reduceSub, Nat.reduceLeDiff, Nat.reduceMul, ev_len_sl ty_descOf_30, ev_indexAddr ty_descOf_30, ty_szOf_32, ty_shapeT_32, ty_zeroCells_32, good_15, keep_19_1, cells_live, cells_lent, hr]
  rfl

set_option maxHeartbeats 4000000 in
theorem sim_den (x : Sim) (hx : x.Ok) : SimDen x := by
  induction hx with
  | @mk k n v a c l ha hc hn hv hll hl ih =>
  intro b hlen
  rw [Sim.enc_mk]
  refine den_run rfl Tryd.func15 rfl Tryd.ntmps15 ⟨by simp, by simp [LK]⟩ ?_
  have hr : Tryd.f15.results = #[] := rfl
  have hk : k = 1 ∨ k = 2 ∨ k = 3 ∨ k = 4 ∨ k = 5 ∨ k = 6 ∨ k = 7 ∨ k = 8 ∨ k = 9 ∨ k = 10 ∨ k = 11 ∨ (k ≠ 1 ∧ k ≠ 2 ∧ k ≠ 3 ∧ k ≠ 4 ∧ k ≠ 5 ∧ k ≠ 6 ∧ k ≠ 7 ∧ k ≠ 8 ∧ k ≠ 9 ∧ k ≠ 10 ∧ k ≠ 11 ∧ ¬ (1 ≤ k ∧ k ≤ 11)) := by omega
  rcases hk with rfl | rfl | rfl | rfl | rfl | rfl | rfl | rfl | rfl | rfl | rfl | ⟨h1, h2, h3, h4, h5, h6, h7, h8, h9, h10, h11, h12⟩
  · have w := words_den [.s [42]] b (by simp [Wd.ok]) (by simpa [wordsS, Wd.text, simS] using hlen) (by simp)
    simp only [Wd.enc, wordsB, wordsS, List.map_cons, List.map_nil, List.flatMap_cons, List.flatMap_nil, Wd.text, List.append_nil, List.nil_append, List.cons_append] at w
    simp [go_sem, Nat.reduceLT, reduceIte, reduceCtorEq, Nat.reduceEqDiff, apply_ite (Option.map (outOf _)), Nat.reduceBEq, Nat.reduceAdd, Nat.reduceSub, Nat.reduceLeDiff, Nat.reduceMul, ty_fieldOff_32_0, ty_szOf_3, ty_shapeT_3, ty_concreteT_9, ev_buildSlice (len := 1) ty_descOf_78 ty_szOf_20 ty_zeroCells_20 ⟨rfl, by decide, by decide⟩, good_17, ty_fieldOff_32_1, ty_szOf_9, ty_shapeT_9, ev_buildSlice (len := 2) ty_descOf_78 ty_szOf_20 ty_zeroCells_20 ⟨rfl, by decide, by decide⟩, ev_buildSlice (len := 3) ty_descOf_78 ty_szOf_20 ty_zeroCells_20 ⟨rfl, by decide, by decide⟩, ty_fieldOff_32_2, good_28, ev_buildSlice (len := 5) ty_descOf_78 ty_szOf_20 ty_zeroCells_20 ⟨rfl, by decide, by decide⟩, ty_fieldOff_32_3, ty_fieldOff_32_4, good_9, ty_fieldOff_32_5, ty_szOf_30, ty_shapeT_30, good_19, hr, w, cells_lend, cells_back, cells_lent, simB, Sim.kind, simS]
  · have w := words_den [.s n] b (by simp [Wd.ok]) (by simpa [wordsS, Wd.text, simS] using hlen) (by simp)
    simp only [Wd.enc, wordsB, wordsS, List.map_cons, List.map_nil, List.flatMap_cons, List.flatMap_nil, Wd.text, List.append_nil, List.nil_append, List.cons_append] at w
    simp [go_sem, Nat.reduceLT, reduceIte, reduceCtorEq, Nat.reduceEqDiff, apply_ite (Option.map (outOf _)), Nat.reduceBEq, Nat.reduceAdd, Nat.reduceSub, Nat.reduceLeDiff, Nat.reduceMul, ty_fieldOff_32_0, ty_szOf_3, ty_shapeT_3, ty_concreteT_9, ev_buildSlice (len := 1) ty_descOf_78 ty_szOf_20 ty_zeroCells_20 ⟨rfl, by decide, by decide⟩, good_17, ty_fieldOff_32_1, ty_szOf_9, ty_shapeT_9, ev_buildSlice (len := 2) ty_descOf_78 ty_szOf_20 ty_zeroCells_20 ⟨rfl, by decide, by decide⟩, ev_buildSlice (len := 3) ty_descOf_78 ty_szOf_20 ty_zeroCells_20 ⟨rfl, by decide, by decide⟩, ty_fieldOff_32_2, good_28, ev_buildSlice (len := 5) ty_descOf_78 ty_szOf_20 ty_zeroCells_20 ⟨rfl, by decide, by decide⟩, ty_fieldOff_32_3, ty_fieldOff_32_4, good_9, ty_fieldOff_32_5, ty_szOf_30, ty_shapeT_30, good_19, hr, w, cells_lend, cells_back, cells_lent, simB, Sim.kind, simS]
  · have w := words_den [.s [35], .s n] b (by simp [Wd.ok]) (by simpa [wordsS, Wd.text, simS] using hlen) (by simp)
    simp only [Wd.enc, wordsB, wordsS, List.map_cons, List.map_nil, List.flatMap_cons, List.flatMap_nil, Wd.text, List.append_nil, List.nil_append, List.cons_append] at w
    simp [go_sem, Nat.reduceLT, reduceIte, reduceCtorEq, Nat.reduceEqDiff, apply_ite (Option.map (outOf _)), Nat.reduceBEq, Nat.reduceAdd, Nat.reduceSub, Nat.reduceLeDiff, Nat.reduceMul, ty_fieldOff_32_0, ty_szOf_3, ty_shapeT_3, ty_concreteT_9, ev_buildSlice (len := 1) ty_descOf_78 ty_szOf_20 ty_zeroCells_20 ⟨rfl, by decide, by decide⟩, good_17, ty_fieldOff_32_1, ty_szOf_9, ty_shapeT_9, ev_buildSlice (len := 2) ty_descOf_78 ty_szOf_20 ty_zeroCells_20 ⟨rfl, by decide, by decide⟩, ev_buildSlice (len := 3) ty_descOf_78 ty_szOf_20 ty_zeroCells_20 ⟨rfl, by decide, by decide⟩, ty_fieldOff_32_2, good_28, ev_buildSlice (len := 5) ty_descOf_78 ty_szOf_20 ty_zeroCells_20 ⟨rfl, by decide, by decide⟩, ty_fieldOff_32_3, ty_fieldOff_32_4, good_9, ty_fieldOff_32_5, ty_szOf_30, ty_shapeT_30, good_19, hr, w, cells_lend, cells_back, cells_lent, simB, Sim.kind, simS]
  · have w := words_den [.s [46], .s n] b (by simp [Wd.ok]) (by simpa [wordsS, Wd.text, simS] using hlen) (by simp)
    simp only [Wd.enc, wordsB, wordsS, List.map_cons, List.map_nil, List.flatMap_cons, List.flatMap_nil, Wd.text, List.append_nil, List.nil_append, List.cons_append] at w
    simp [go_sem, Nat.reduceLT, reduceIte, reduceCtorEq, Nat.reduceEqDiff, apply_ite (Option.map (outOf _)), Nat.reduceBEq, Nat.reduceAdd, Nat.reduceSub, Nat.reduceLeDiff, Nat.reduceMul, ty_fieldOff_32_0, ty_szOf_3, ty_shapeT_3, ty_concreteT_9, ev_buildSlice (len := 1) ty_descOf_78 ty_szOf_20 ty_zeroCells_20 ⟨rfl, by decide, by decide⟩, good_17, ty_fieldOff_32_1, ty_szOf_9, ty_shapeT_9, ev_buildSlice (len := 2) ty_descOf_78 ty_szOf_20 ty_zeroCells_20 ⟨rfl, by decide, by decide⟩, ev_buildSlice (len := 3) ty_descOf_78 ty_szOf_20 ty_zeroCells_20 ⟨rfl, by decide, by decide⟩, ty_fieldOff_32_2, good_28, ev_buildSlice (len := 5) ty_descOf_78 ty_szOf_20 ty_zeroCells_20 ⟨rfl, by decide, by decide⟩, ty_fieldOff_32_3, ty_fieldOff_32_4, good_9, ty_fieldOff_32_5, ty_szOf_30, ty_shapeT_30, good_19, hr, w, cells_lend, cells_back, cells_lent, simB, Sim.kind, simS]
  · have w := words_den [.s [91], .s n, .s [93]] b (by simp [Wd.ok]) (by simpa [wordsS, Wd.text, simS] using hlen) (by simp)
    simp only [Wd.enc, wordsB, wordsS, List.map_cons, List.map_nil, List.flatMap_cons, List.flatMap_nil, Wd.text, List.append_nil, List.nil_append, List.cons_append] at w
    simp [go_sem, Nat.reduceLT, reduceIte, reduceCtorEq, Nat.reduceEqDiff, apply_ite (Option.map (outOf _)), Nat.reduceBEq, Nat.reduceAdd, Nat.reduceSub, Nat.reduceLeDiff, Nat.reduceMul, ty_fieldOff_32_0, ty_szOf_3, ty_shapeT_3, ty_concreteT_9, ev_buildSlice (len := 1) ty_descOf_78 ty_szOf_20 ty_zeroCells_20 ⟨rfl, by decide, by decide⟩, good_17, ty_fieldOff_32_1, ty_szOf_9, ty_shapeT_9, ev_buildSlice (len := 2) ty_descOf_78 ty_szOf_20 ty_zeroCells_20 ⟨rfl, by decide, by decide⟩, ev_buildSlice (len := 3) ty_descOf_78 ty_szOf_20 ty_zeroCells_20 ⟨rfl, by decide, by decide⟩, ty_fieldOff_32_2, good_28, ev_buildSlice (len := 5) ty_descOf_78 ty_szOf_20 ty_zeroCells_20 ⟨rfl, by decide, by decide⟩, ty_fieldOff_32_3, ty_fieldOff_32_4, good_9, ty_fieldOff_32_5, ty_szOf_30, ty_shapeT_30, good_19, hr, w, cells_lend, cells_back, cells_lent, simB, Sim.kind, simS]
  · have w := words_den [.s [91], .s n, .s [61], .s (valueS v), .s [93]] b (by simp [Wd.ok]) (by simpa [wordsS, Wd.text, simS] using hlen) (by simp)
    simp only [Wd.enc, wordsB, wordsS, List.map_cons, List.map_nil, List.flatMap_cons, List.flatMap_nil, Wd.text, List.append_nil, List.nil_append, List.cons_append] at w
    have hvl : v.length < 1000000000000 := by
      have : v.length ≤ (valueS v).length := by unfold valueS; split <;> simp <;> omega
      simp [simS, txtLim] at hlen
      omega
    have hval := value_den v hvl
    simp [go_sem, Nat.reduceLT, reduceIte, reduceCtorEq, Nat.reduceEqDiff, apply_ite (Option.map (outOf _)), Nat.reduceBEq, Nat.reduceAdd, Nat.reduceSub, Nat.reduceLeDiff, Nat.reduceMul, ty_fieldOff_32_0, ty_szOf_3, ty_shapeT_3, ty_concreteT_9, ev_buildSlice (len := 1) ty_descOf_78 ty_szOf_20 ty_zeroCells_20 ⟨rfl, by decide, by decide⟩, good_17, ty_fieldOff_32_1, ty_szOf_9, ty_shapeT_9, ev_buildSlice (len := 2) ty_descOf_78 ty_szOf_20 ty_zeroCells_20 ⟨rfl, by decide, by decide⟩, ev_buildSlice (len := 3) ty_descOf_78 ty_szOf_20 ty_zeroCells_20 ⟨rfl, by decide, by decide⟩, ty_fieldOff_32_2, good_28, ev_buildSlice (len := 5) ty_descOf_78 ty_szOf_20 ty_zeroCells_20 ⟨rfl, by decide, by decide⟩, ty_fieldOff_32_3, ty_fieldOff_32_4, good_9, ty_fieldOff_32_5, ty_szOf_30, ty_shapeT_30, good_19, hr, w, hval, cells_lend, cells_back, cells_lent, simB, Sim.kind, simS]
  · have w := words_den [.s [58], .s n] b (by simp [Wd.ok]) (by simpa [wordsS, Wd.text, simS] using hlen) (by simp)
    simp only [Wd.enc, wordsB, wordsS, List.map_cons, List.map_nil, List.flatMap_cons, List.flatMap_nil, Wd.text, List.append_nil, List.nil_append, List.cons_append] at w
    simp [go_sem, Nat.reduceLT, reduceIte, reduceCtorEq, Nat.reduceEqDiff, apply_ite (Option.map (outOf _)), Nat.reduceBEq, Nat.reduceAdd, Nat.reduceSub, Nat.reduceLeDiff, Nat.reduceMul, ty_fieldOff_32_0, ty_szOf_3, ty_shapeT_3, ty_concreteT_9, ev_buildSlice (len := 1) ty_descOf_78 ty_szOf_20 ty_zeroCells_20 ⟨rfl, by decide, by decide⟩, good_17, ty_fieldOff_32_1, ty_szOf_9, ty_shapeT_9, ev_buildSlice (len := 2) ty_descOf_78 ty_szOf_20 ty_zeroCells_20 ⟨rfl, by decide, by decide⟩, ev_buildSlice (len := 3) ty_descOf_78 ty_szOf_20 ty_zeroCells_20 ⟨rfl, by decide, by decide⟩, ty_fieldOff_32_2, good_28, ev_buildSlice (len := 5) ty_descOf_78 ty_szOf_20 ty_zeroCells_20 ⟨rfl, by decide, by decide⟩, ty_fieldOff_32_3, ty_fieldOff_32_4, good_9, ty_fieldOff_32_5, ty_szOf_30, ty_shapeT_30, good_19, hr, w, cells_lend, cells_back, cells_lent, simB, Sim.kind, simS]
  · have w := words_den [.s [58, 110, 116, 104, 45, 99, 104, 105, 108, 100, 40], .s (nthS a c), .s [41]] b (by simp [Wd.ok]) (by simpa [wordsS, Wd.text, simS] using hlen) (by simp)
    simp only [Wd.enc, wordsB, wordsS, List.map_cons, List.map_nil, List.flatMap_cons, List.flatMap_nil, Wd.text, List.append_nil, List.nil_append, List.cons_append] at w
    have hnth := Nth_den a c ha hc
    simp [go_sem, Nat.reduceLT, reduceIte, reduceCtorEq, Nat.reduceEqDiff, apply_ite (Option.map (outOf _)), Nat.reduceBEq, Nat.reduceAdd, Nat.reduceSub, Nat.reduceLeDiff, Nat.reduceMul, ty_fieldOff_32_0, ty_szOf_3, ty_shapeT_3, ty_concreteT_9, ev_buildSlice (len := 1) ty_descOf_78 ty_szOf_20 ty_zeroCells_20 ⟨rfl, by decide, by decide⟩, good_17, ty_fieldOff_32_1, ty_szOf_9, ty_shapeT_9, ev_buildSlice (len := 2) ty_descOf_78 ty_szOf_20 ty_zeroCells_20 ⟨rfl, by decide, by decide⟩, ev_buildSlice (len := 3) ty_descOf_78 ty_szOf_20 ty_zeroCells_20 ⟨rfl, by decide, by decide⟩, ty_fieldOff_32_2, good_28, ev_buildSlice (len := 5) ty_descOf_78 ty_szOf_20 ty_zeroCells_20 ⟨rfl, by decide, by decide⟩, ty_fieldOff_32_3, ty_fieldOff_32_4, good_9, ty_fieldOff_32_5, ty_szOf_30, ty_shapeT_30, good_19, hr, w, hnth, cells_lend, cells_back, cells_lent, simB, Sim.kind, simS]
  · have w := words_den [.s [58, 114, 111, 111, 116]] b (by simp [Wd.ok]) (by simpa [wordsS, Wd.text, simS] using hlen) (by simp)
    simp only [Wd.enc, wordsB, wordsS, List.map_cons, List.map_nil, List.flatMap_cons, List.flatMap_nil, Wd.text, List.append_nil, List.nil_append, List.cons_append] at w
    simp [go_sem, Nat.reduceLT, reduceIte, reduceCtorEq, Nat.reduceEqDiff, apply_ite (Option.map (outOf _)), Nat.reduceBEq, Nat.reduceAdd, Nat.reduceSub, Nat.reduceLeDiff, Nat.reduceMul, ty_fieldOff_32_0, ty_szOf_3, ty_shapeT_3, ty_concreteT_9, ev_buildSlice (len := 1) ty_descOf_78 ty_szOf_20 ty_zeroCells_20 ⟨rfl, by decide, by decide⟩, good_17, ty_fieldOff_32_1, ty_szOf_9, ty_shapeT_9, ev_buildSlice (len := 2) ty_descOf_78 ty_szOf_20 ty_zeroCells_20 ⟨rfl, by decide, by decide⟩, ev_buildSlice (len := 3) ty_descOf_78 ty_szOf_20 ty_zeroCells_20 ⟨rfl, by decide, by decide⟩, ty_fieldOff_32_2, good_28, ev_buildSlice (len := 5) ty_descOf_78 ty_szOf_20 ty_zeroCells_20 ⟨rfl, by decide, by decide⟩, ty_fieldOff_32_3, ty_fieldOff_32_4, good_9, ty_fieldOff_32_5, ty_szOf_30, ty_shapeT_30, good_19, hr, w, cells_lend, cells_back, cells_lent, simB, Sim.kind, simS]
  · have w := words_den [.s [58, 101, 109, 112, 116, 121]] b (by simp [Wd.ok]) (by simpa [wordsS, Wd.text, simS] using hlen) (by simp)
    simp only [Wd.enc, wordsB, wordsS, List.map_cons, List.map_nil, List.flatMap_cons, List.flatMap_nil, Wd.text, List.append_nil, List.nil_append, List.cons_append] at w
    simp [go_sem, Nat.reduceLT, reduceIte, reduceCtorEq, Nat.reduceEqDiff, apply_ite (Option.map (outOf _)), Nat.reduceBEq, Nat.reduceAdd, Nat.reduceSub, Nat.reduceLeDiff, Nat.reduceMul, ty_fieldOff_32_0, ty_szOf_3, ty_shapeT_3, ty_concreteT_9, ev_buildSlice (len := 1) ty_descOf_78 ty_szOf_20 ty_zeroCells_20 ⟨rfl, by decide, by decide⟩, good_17, ty_fieldOff_32_1, ty_szOf_9, ty_shapeT_9, ev_buildSlice (len := 2) ty_descOf_78 ty_szOf_20 ty_zeroCells_20 ⟨rfl, by decide, by decide⟩, ev_buildSlice (len := 3) ty_descOf_78 ty_szOf_20 ty_zeroCells_20 ⟨rfl, by decide, by decide⟩, ty_fieldOff_32_2, good_28, ev_buildSlice (len := 5) ty_descOf_78 ty_szOf_20 ty_zeroCells_20 ⟨rfl, by decide, by decide⟩, ty_fieldOff_32_3, ty_fieldOff_32_4, good_9, ty_fieldOff_32_5, ty_szOf_30, ty_shapeT_30, good_19, hr, w, cells_lend, cells_back, cells_lent, simB, Sim.kind, simS]
  · have hlen' : (b.text ++ [58, 110, 111, 116, 40] ++ simsS l ++ [41]).length < txtLim := by simpa [simS] using hlen
    have w1 := words_den [.s [58, 110, 111, 116, 40]] b (by simp [Wd.ok]) (by simp [wordsS, Wd.text] at hlen' ⊢; omega) (by simp)
    have w2 := simples_den l (.wr (b.text ++ [58, 110, 111, 116, 40])) (by simp [reachBytes] at hll; omega) ih (by simp [BS.text] at hlen' ⊢; omega)
    have w3 := words_den [.s [41]] (simsB (.wr (b.text ++ [58, 110, 111, 116, 40])) l) (by simp [Wd.ok]) (by rw [simsB_text]; simp [wordsS, Wd.text, BS.text] at hlen' ⊢; omega) (by simp)
    simp only [simsB_text, text_wr, Wd.enc, wordsB, wordsS, List.map_cons, List.map_nil, List.flatMap_cons, List.flatMap_nil, Wd.text, List.append_nil, List.nil_append, List.cons_append] at w1 w2 w3
    simp [go_sem, Nat.reduceLT, reduceIte, reduceCtorEq, Nat.reduceEqDiff, apply_ite (Option.map (outOf _)), Nat.reduceBEq, Nat.reduceAdd, Nat.reduceSub, Nat.reduceLeDiff, Nat.reduceMul, ty_fieldOff_32_0, ty_szOf_3, ty_shapeT_3, ty_concreteT_9, ev_buildSlice (len := 1) ty_descOf_78 ty_szOf_20 ty_zeroCells_20 ⟨rfl, by decide, by decide⟩, good_17, ty_fieldOff_32_1, ty_szOf_9, ty_shapeT_9, ev_buildSlice (len := 2) ty_descOf_78 ty_szOf_20 ty_zeroCells_20 ⟨rfl, by decide, by decide⟩, ev_buildSlice (len := 3) ty_descOf_78 ty_szOf_20 ty_zeroCells_20 ⟨rfl, by decide, by decide⟩, ty_fieldOff_32_2, good_28, ev_buildSlice (len := 5) ty_descOf_78 ty_szOf_20 ty_zeroCells_20 ⟨rfl, by decide, by decide⟩, ty_fieldOff_32_3, ty_fieldOff_32_4, good_9, ty_fieldOff_32_5, ty_szOf_30, ty_shapeT_30, good_19, hr, w1, w2, w3, cells_lend, cells_back, cells_lent, simB, Sim.kind, simS]
  · simp [go_sem, Nat.reduceLT, reduceIte, reduceCtorEq, Nat.reduceEqDiff, apply_ite (Option.map (outOf _)), Nat.reduceBEq, Nat.reduceAdd, Nat.reduceSub, Nat.reduceLeDiff, Nat.reduceMul, ty_fieldOff_32_0, ty_szOf_3, ty_shapeT_3, ty_concreteT_9, ev_buildSlice (len := 1) ty_descOf_78 ty_szOf_20 ty_zeroCells_20 ⟨rfl, by decide, by decide⟩, good_17, ty_fieldOff_32_1, ty_szOf_9, ty_shapeT_9, ev_buildSlice (len := 2) ty_descOf_78 ty_szOf_20 ty_zeroCells_20 ⟨rfl, by decide, by decide⟩, ev_buildSlice (len := 3) ty_descOf_78 ty_szOf_20 ty_zeroCells_20 ⟨rfl, by decide, by decide⟩, ty_fieldOff_32_2, good_28, ev_buildSlice (len := 5) ty_descOf_78 ty_szOf_20 ty_zeroCells_20 ⟨rfl, by decide, by decide⟩, ty_fieldOff_32_3, ty_fieldOff_32_4, good_9, ty_fieldOff_32_5, ty_szOf_30, ty_shapeT_30, good_19, hr, cells_lend, cells_back, cells_lent, simB, Sim.kind, simS, h1, h2, h3, h4, h5, h6, h7, h8, h9, h10, h11, h12]

end Go.Abs

namespace Go.Abs
open Go Go.Proofs
set_option maxRecDepth 10000
attribute [local go_sem] exL_seq exL_region exL_cond exL_block exL_scope exL_ret exL_skip exL_exit runRegion runOps stepOp guardA absOp takeOver opd avOf cvOf St.degAt St.put okPV okVal okAV absBin intBin strBin boolBin setBoxes if_true Bool.false_eq_true if_false Option.map_some Option.map_none Option.bind_some Option.bind_none thenO outOf upd List.toList_toArray isOwn steal appArgs inApps AV.deg CV.deg AV.gv AV.isIter absNext some_bne List.length_nil List.length_cons List.filterMap_cons List.filterMap_nil beq_iff_eq List.getElem?_cons_zero List.getElem?_cons_succ Option.getD_some K_hook hookB Bool.false_and Bool.and_false Bool.and_self K_P K_own absCall doCall getBoxes lend back idx dedup AV.ren CV.ren TV.ren AV.ptrs CV.ptrs zipBox AV.flat CV.flat absLoad absStore cellsOfAV setAt newBox markB bldTypes absFieldAddr absField absExtract absAssert noAssert absMkIface ifcOf CV.pv? content pushHead ownT fillCells reps pvs chunks enterSt leave resOf resVars resVar outBoxes lentOnly TV.deg TV.av LK CV.plain CV.noBld nilBin absUn bound List.map_cons List.map_nil List.all_cons List.all_nil List.any_cons List.any_nil List.contains_cons List.contains_nil List.elem_cons List.elem_nil List.cons_append List.nil_append List.append_nil List.flatMap_cons List.flatMap_nil List.zip_cons_cons List.zip_nil_left List.zip_nil_right List.take_succ_cons List.take_zero List.take_nil List.drop_succ_cons List.drop_zero List.drop_nil List.isEmpty_nil List.isEmpty_cons Bool.and_true Bool.true_and Bool.or_true Bool.true_or Bool.or_false Bool.false_or Bool.not_true Bool.not_false Nat.add_zero Nat.zero_add Option.isNone_none Option.isNone_some Option.getD_none true_and and_true not_true_eq_false not_false_eq_true decide_true decide_false Nat.le_refl and_self Bool.not_eq_true Nat.sub_self or_true true_or Option.some.injEq List.length_map List.nil_eq and_false false_and AV.live CV.live CV.liveIn K_keep firstReg Option.orElse_some Option.orElse_none head keepSlots keepBoxes Int.lt_irrefl List.length_append ite_self memOK logOps opKey lentBoxes Key.clash Key.sees Key.writes Nat.lt_irrefl gt_iff_lt nobox_at bot_at false_or or_false beq_self_eq_true Bool.true_beq Bool.false_beq

def Prt.enc (p : Prt) : List PV := [.int .i64 p.comb, .sl (p.l.map Sim.enc)]
def Cpx.enc (c : Cpx) : List PV := [.sl (c.parts.map Prt.enc), .str c.pseudo]
theorem Prt.enc_mk (k : Int) (l : List Sim) : (Prt.mk k l).enc = [.int .i64 k, .sl (l.map Sim.enc)] := rfl
theorem Cpx.enc_mk (l : List Prt) (s : List UInt8) : (Cpx.mk l s).enc = [.sl (l.map Prt.enc), .str s] := rfl

structure Prt.Ok (p : Prt) : Prop where
  len : p.l.length ≤ reachBytes
  all : ∀ x ∈ p.l, x.Ok
structure Cpx.Ok (c : Cpx) : Prop where
  len : c.parts.length ≤ reachBytes
  all : ∀ p ∈ c.parts, p.Ok
  pse : c.pseudo.length ≤ reachBytes


def prtB (b : BS) (p : Prt) : BS := simsB (.wr (b.text ++ combS p.comb)) p.l
theorem prtB_text (b : BS) (p : Prt) : (prtB b p).text = b.text ++ prtS p := by
  unfold prtB prtS; rw [simsB_text, text_wr, List.append_assoc]
theorem prtB_live (b : BS) (p : Prt) : (prtB b p).live' = prtB b p := by
  unfold prtB simsB
  have : ∀ (l : List Sim) (b : BS), b.live' = b → (l.foldl simB b).live' = l.foldl simB b := by
    intro l
    induction l with
    | nil => intro b h; exact h
    | cons x l ih => intro b h; exact ih _ (simB_live b x h)
  exact this _ _ rfl
theorem prts_text : ∀ (l : List Prt) (b : BS), (l.foldl prtB b).text = b.text ++ l.flatMap prtS
  | [], b => by simp
  | p :: l, b => by rw [List.foldl_cons, prts_text l, prtB_text, List.flatMap_cons, List.append_assoc]

theorem I64_lens {n : Nat} (h : n ≤ reachBytes) : n < 9000000000000000000 := by simp [reachBytes] at h; omega

abbrev cpxH (b : BS) (c : Cpx) (i : Nat) : St :=
  { sl := upd (upd (upd (upd (upd bot 9 (I i)) 8 (I c.parts.length)) 7 (L (c.parts.map Prt.enc))) 3 (.c (.loc 3 0))) 1 (.c (.loc 1 0)), bx := upd (upd nobox 3 (some (b.cells 3))) 1 (some [.pv (.sl (c.parts.map Prt.enc)), .pv (.str c.pseudo)]), nt := 34 }

theorem Complex_loop (c : Cpx) (hal : c.parts.length ≤ reachBytes) : ∀ (rest : List Prt) (i : Nat) (b : BS), c.parts.drop i = rest → (∀ p ∈ rest, p.Ok) → (b.text ++ rest.flatMap prtS).length < txtLim → b.live' = b → i ≤ c.parts.length →
    exL K 10 (.loop (loopAt Tryd.f10 3)) (cpxH b c i) =
      some (.exit 0, { sl := upd (upd (upd (upd (upd (upd bot 9 (I c.parts.length)) 8 (I c.parts.length)) 7 (L (c.parts.map Prt.enc))) 3 (.c (.loc 3 0))) 1 (.c (.loc 1 0))) 10 (B false), bx := upd (upd nobox 3 (some ((rest.foldl prtB b).cells 3))) 1 (some [.pv (.sl (c.parts.map Prt.enc)), .pv (.str c.pseudo)]), nt := 34 })
  | [], i, b, hd, hok, hlen, hb, hi => by
    have hin : i = c.parts.length := by
      have := List.drop_eq_nil_iff.1 hd
      omega
    subst hin
    conv in loopAt _ _ => whnf
    rw [exL_loop]
    simp only [go_sem, Nat.reduceLT, reduceIte, reduceCtorEq, Nat.reduceEqDiff, apply_ite (Option.map (outOf _)), Nat.reduceBEq, Nat.reduceAdd, Nat.reduceSub, Nat.reduceLeDiff, Nat.reduceMul, ty_zeroCells_53, ty_fieldOff_38_0, ty_szOf_36, ty_shapeT_36, ev_len_sl ty_descOf_36, ev_indexAddr ty_descOf_36, ty_szOf_46, ty_shapeT_46, ty_zeroCells_46, ty_fieldOff_46_0, ty_szOf_3, ty_shapeT_3, good_18, ty_concreteT_9, ev_buildSlice (len := 1) ty_descOf_78 ty_szOf_20 ty_zeroCells_20 ⟨rfl, by decide, by decide⟩, good_17, ty_fieldOff_46_1, ty_szOf_30, ty_shapeT_30, good_19, ty_fieldOff_38_1, ty_szOf_9, ty_shapeT_9, ev_buildSlice (len := 2) ty_descOf_78 ty_szOf_20 ty_zeroCells_20 ⟨rfl, by decide, by decide⟩, ty_fieldOff_53_0, ty_szOf_51, good_16, keep_10_3, cells_live, hb, List.foldl_nil]
  | ⟨k, l⟩ :: rest, i, b, hd, hok, hlen, hb, hi => by
    obtain ⟨h1, h2, h3⟩ := drop_cons hd
    have hp := hok ⟨k, l⟩ (by simp)
    have hp1 := hp.len
    simp only at hp1
    have hnext := Complex_loop c hal rest (i + 1) (prtB b ⟨k, l⟩) h2 (fun y hy => hok y (by simp [hy])) (by rw [prtB_text]; simpa using hlen) (prtB_live b _) (by omega)
    rw [List.foldl_cons]
    conv at hnext in loopAt _ _ => whnf
    conv in loopAt _ _ => whnf
    rw [exL_loop]
    have hget : (c.parts.map Prt.enc)[(i : Int).toNat]? = some [.int .i64 k, .sl (l.map Sim.enc)] := by simp [h1, Prt.enc]
    have hlt : decide ((i : Int) < (c.parts.length : Int)) = true := lt_true (by omega)
    have hcomb := comb_den k
    have hlen' : (b.text ++ combS k ++ simsS l).length < txtLim := by simp [prtS] at hlen ⊢; omega
    have w1 := words_den [.s (combS k)] b (by simp [Wd.ok]) (by simp [wordsS, Wd.text] at hlen' ⊢; omega) (by simp)
    have w2 := simples_den l (.wr (b.text ++ combS k)) (I64_lens hp1) (fun x hx => sim_den x (hp.all x hx)) (by rw [text_wr]; exact hlen')
    simp only [Wd.enc, wordsB, wordsS, List.map_cons, List.map_nil, List.flatMap_cons, List.flatMap_nil, Wd.text, List.append_nil] at w1
    have hi2 : i + 1 < 9223372036854775807 := by have := I64_lens hal; omega
    simp only [go_sem, Nat.reduceLT, reduceIte, reduceCtorEq, Nat.reduceEqDiff, apply_ite (Option.map (outOf _)), Nat.reduceBEq, Nat.reduceAdd, Nat.reduceSub, Nat.reduceLeDiff, Nat.reduceMul, ty_zeroCells_53, ty_fieldOff_38_0, ty_szOf_36, ty_shapeT_36, ev_len_sl ty_descOf_36, ev_indexAddr ty_descOf_36, ty_szOf_46, ty_shapeT_46, ty_zeroCells_46, ty_fieldOff_46_0, ty_szOf_3, ty_shapeT_3, good_18, ty_concreteT_9, ev_buildSlice (len := 1) ty_descOf_78 ty_szOf_20 ty_zeroCells_20 ⟨rfl, by decide, by decide⟩, good_17, ty_fieldOff_46_1, ty_szOf_30, ty_shapeT_30, good_19, ty_fieldOff_38_1, ty_szOf_9, ty_shapeT_9, ev_buildSlice (len := 2) ty_descOf_78 ty_szOf_20 ty_zeroCells_20 ⟨rfl, by decide, by decide⟩, ty_fieldOff_53_0, ty_szOf_51, good_16, keep_10_3, cells_live, cells_lend, cells_back, hb, hlt, hget, Int.natCast_nonneg, hcomb, w1, w2, wrap_nat i (by omega)]
    rw [exL_head]
    have hpl := prtB_live b ⟨k, l⟩
    unfold prtB at hpl hnext
    simp only [go_sem, Nat.reduceLT, reduceIte, reduceCtorEq, Nat.reduceEqDiff, apply_ite (Option.map (outOf _)), Nat.reduceBEq, Nat.reduceAdd, Nat.reduceSub, Nat.reduceLeDiff, Nat.reduceMul, ty_zeroCells_53, ty_fieldOff_38_0, ty_szOf_36, ty_shapeT_36, ev_len_sl ty_descOf_36, ev_indexAddr ty_descOf_36, ty_szOf_46, ty_shapeT_46, ty_zeroCells_46, ty_fieldOff_46_0, ty_szOf_3, ty_shapeT_3, good_18, ty_concreteT_9, ev_buildSlice (len := 1) ty_descOf_78 ty_szOf_20 ty_zeroCells_20 ⟨rfl, by decide, by decide⟩, good_17, ty_fieldOff_46_1, ty_szOf_30, ty_shapeT_30, good_19, ty_fieldOff_38_1, ty_szOf_9, ty_shapeT_9, ev_buildSlice (len := 2) ty_descOf_78 ty_szOf_20 ty_zeroCells_20 ⟨rfl, by decide, by decide⟩, ty_fieldOff_53_0, ty_szOf_51, good_16, keep_10_3, cells_live] at hpl hnext ⊢
    simp only [hpl]
    exact hnext

theorem String_at (b : BS) (h : b.text.length < txtLim) : ∃ cs, den K 16 [P0] [b.cells 100000] = some (.ret (T b.text) [cs]) := ⟨_, String_den b h⟩

set_option maxHeartbeats 1000000 in
theorem Complex_den (c : Cpx) (hc : c.Ok) (hlen : (cpxS c).length < txtLim) : den K 10 [.agg (c.enc.map CV.pv)] [] = some (.ret (T (cpxS c)) []) := by
  obtain ⟨ps, s⟩ := c
  have hl1 : (ps.flatMap prtS).length < txtLim := by rw [cpxS, List.length_append] at hlen; exact Nat.lt_of_le_of_lt (Nat.le_add_right _ _) hlen
  have hnext := Complex_loop ⟨ps, s⟩ hc.len ps 0 .live rfl hc.all (by simpa [BS.text] using hl1) rfl (by omega)
  have ht := prts_text ps .live
  simp only [text_live, text_fresh, List.nil_append] at ht
  rw [Cpx.enc_mk]
  refine den_run rfl Tryd.func10 rfl Tryd.ntmps10 ⟨by simp, by simp [LK]⟩ ?_
  have hr : Tryd.f10.results = #[.tmp 2] := rfl
  conv at hnext in loopAt _ _ => whnf
  simp only [go_sem, Nat.reduceLT, reduceIte, reduceCtorEq, Nat.reduceEqDiff, apply_ite (Option.map (outOf _)), Nat.reduceBEq, Nat.reduceAdd, Nat.reduceSub, Nat.reduceLeDiff, Nat.reduceMul, ty_zeroCells_53, ty_fieldOff_38_0, ty_szOf_36, ty_shapeT_36, ev_len_sl ty_descOf_36, ev_indexAddr ty_descOf_36, ty_szOf_46, ty_shapeT_46, ty_zeroCells_46, ty_fieldOff_46_0, ty_szOf_3, ty_shapeT_3, good_18, ty_concreteT_9, ev_buildSlice (len := 1) ty_descOf_78 ty_szOf_20 ty_zeroCells_20 ⟨rfl, by decide, by decide⟩, good_17, ty_fieldOff_46_1, ty_szOf_30, ty_shapeT_30, good_19, ty_fieldOff_38_1, ty_szOf_9, ty_shapeT_9, ev_buildSlice (len := 2) ty_descOf_78 ty_szOf_20 ty_zeroCells_20 ⟨rfl, by decide, by decide⟩, ty_fieldOff_53_0, ty_szOf_51, good_16, keep_10_3, cells_live]
  rw [exL_head]
  simp only [go_sem, Nat.reduceLT, reduceIte, reduceCtorEq, Nat.reduceEqDiff, apply_ite (Option.map (outOf _)), Nat.reduceBEq, Nat.reduceAdd, Nat.reduceSub, Nat.reduceLeDiff, Nat.reduceMul, ty_zeroCells_53, ty_fieldOff_38_0, ty_szOf_36, ty_shapeT_36, ev_len_sl ty_descOf_36, ev_indexAddr ty_descOf_36, ty_szOf_46, ty_shapeT_46, ty_zeroCells_46, ty_fieldOff_46_0, ty_szOf_3, ty_shapeT_3, good_18, ty_concreteT_9, ev_buildSlice (len := 1) ty_descOf_78 ty_szOf_20 ty_zeroCells_20 ⟨rfl, by decide, by decide⟩, good_17, ty_fieldOff_46_1, ty_szOf_30, ty_shapeT_30, good_19, ty_fieldOff_38_1, ty_szOf_9, ty_shapeT_9, ev_buildSlice (len := 2) ty_descOf_78 ty_szOf_20 ty_zeroCells_20 ⟨rfl, by decide, by decide⟩, ty_fieldOff_53_0, ty_szOf_51, good_16, keep_10_3, cells_live]
  have hf : [CV.bld, CV.own 0 []] = BS.cells 3 .live := rfl
  rw [hf]
  erw [hnext]
  have hpse : cpxS ⟨ps, s⟩ = ps.flatMap prtS ++ pseS s := rfl
  rw [hpse] at hlen ⊢
  by_cases hs : s = []
  · subst hs
    obtain ⟨cs, hst⟩ := String_at (ps.foldl prtB .live) (by rw [ht]; exact hl1)
    simp [go_sem, Nat.reduceLT, reduceIte, reduceCtorEq, Nat.reduceEqDiff, apply_ite (Option.map (outOf _)), Nat.reduceBEq, Nat.reduceAdd, Nat.reduceSub, Nat.reduceLeDiff, Nat.reduceMul, ty_zeroCells_53, ty_fieldOff_38_0, ty_szOf_36, ty_shapeT_36, ev_len_sl ty_descOf_36, ev_indexAddr ty_descOf_36, ty_szOf_46, ty_shapeT_46, ty_zeroCells_46, ty_fieldOff_46_0, ty_szOf_3, ty_shapeT_3, good_18, ty_concreteT_9, ev_buildSlice (len := 1) ty_descOf_78 ty_szOf_20 ty_zeroCells_20 ⟨rfl, by decide, by decide⟩, good_17, ty_fieldOff_46_1, ty_szOf_30, ty_shapeT_30, good_19, ty_fieldOff_38_1, ty_szOf_9, ty_shapeT_9, ev_buildSlice (len := 2) ty_descOf_78 ty_szOf_20 ty_zeroCells_20 ⟨rfl, by decide, by decide⟩, ty_fieldOff_53_0, ty_szOf_51, good_16, keep_10_3, cells_live, cells_lend, cells_back, hr, hst, ht, pseS]
  · have e : (s != []) = true := by simp [hs]
    have w := words_den [.s [58, 58], .s s] (ps.foldl prtB .live) (by simp [Wd.ok]) (by rw [ht]; simpa [wordsS, Wd.text, pseS, hs] using hlen) (by simp)
    simp only [Wd.enc, wordsB, wordsS, List.map_cons, List.map_nil, List.flatMap_cons, List.flatMap_nil, Wd.text, List.append_nil, List.nil_append, List.cons_append, ht] at w
    obtain ⟨cs, hst⟩ := String_at (.wr (ps.flatMap prtS ++ 58 :: 58 :: s)) (by rw [text_wr]; simpa [pseS, hs] using hlen)
    rw [text_wr] at hst
    simp [go_sem, Nat.reduceLT, reduceIte, reduceCtorEq, Nat.reduceEqDiff, apply_ite (Option.map (outOf _)), Nat.reduceBEq, Nat.reduceAdd, Nat.reduceSub, Nat.reduceLeDiff, Nat.reduceMul, ty_zeroCells_53, ty_fieldOff_38_0, ty_szOf_36, ty_shapeT_36, ev_len_sl ty_descOf_36, ev_indexAddr ty_descOf_36, ty_szOf_46, ty_shapeT_46, ty_zeroCells_46, ty_fieldOff_46_0, ty_szOf_3, ty_shapeT_3, good_18, ty_concreteT_9, ev_buildSlice (len := 1) ty_descOf_78 ty_szOf_20 ty_zeroCells_20 ⟨rfl, by decide, by decide⟩, good_17, ty_fieldOff_46_1, ty_szOf_30, ty_shapeT_30, good_19, ty_fieldOff_38_1, ty_szOf_9, ty_shapeT_9, ev_buildSlice (len := 2) ty_descOf_78 ty_szOf_20 ty_zeroCells_20 ⟨rfl, by decide, by decide⟩, ty_fieldOff_53_0, ty_szOf_51, good_16, keep_10_3, cells_live, cells_lend, cells_back, hr, hst, w, pseS, hs, e]

theorem Simple_den (x : Sim) (hx : x.Ok) (hlen : (simS x).length < txtLim) : den K 8 [.agg (x.enc.map CV.pv)] [] = some (.ret (T (simS x)) []) := by
  have h1 := sim_den x hx .fresh (by simpa [BS.text] using hlen)
  have ht := simB_text .fresh x
  simp only [text_live, text_fresh, List.nil_append] at ht
  obtain ⟨cs, hst⟩ := String_at (simB .fresh x) (by rw [ht]; exact hlen)
  rw [ht] at hst
  obtain ⟨k, n, v, a, c, l⟩ := x
  rw [Sim.enc_mk] at h1 ⊢
  simp only [List.map_cons, List.map_nil] at h1
  refine den_run rfl Tryd.func8 rfl Tryd.ntmps8 ⟨by simp, by simp [LK]⟩ ?_
  have hr : Tryd.f8.results = #[.tmp 2] := rfl
  have hf : BS.cells 100000 .fresh = [CV.bld, CV.nils] := rfl
  rw [hf] at h1
  simp [go_sem, Nat.reduceLT, reduceIte, reduceCtorEq, Nat.reduceEqDiff, apply_ite (Option.map (outOf _)), Nat.reduceBEq, Nat.reduceAdd, Nat.reduceSub, Nat.reduceLeDiff, Nat.reduceMul, ty_zeroCells_53, ty_shapeT_32, good_15, ty_fieldOff_53_0, ty_szOf_51, good_16, cells_live, cells_lend, cells_back, hr, h1, hst]

/-! ### Lists -/

def listS (l : List Cpx) : List UInt8 := Lib.join (l.map cpxS) [44]

abbrev strC (l : List (List UInt8)) : List (List PV) := l.map fun s => [.str s]

abbrev listH (w : List Cpx) (e : TypeId) (l : List Cpx) (i : Nat) : St :=
  { sl := upd (upd (upd (upd bot 8 (I i)) 7 (I l.length)) 6 (L (l.map Cpx.enc))) 3 (.c (.own e (strC (w.map cpxS)))), bx := nobox, nt := 20 }

theorem lens_str (l : List (List UInt8)) : lens 1 (strC l) = true := by simp [lens]
theorem lens_one (s : List UInt8) : lens 1 [[PV.str s]] = true := rfl

theorem List_loop (l : List Cpx) (hal : l.length < 1000000) : ∀ (rest : List Cpx) (i : Nat) (w : List Cpx) (e : TypeId), l.drop i = rest → (∀ c ∈ rest, c.Ok ∧ (cpxS c).length < txtLim) → (w = [] ∨ e = 9) → w.length = i → i ≤ l.length →
    ∃ e', exL K 6 (.loop (loopAt Tryd.f6 3)) (listH w e l i) =
      some (.exit 0, { sl := upd (upd (upd (upd (upd bot 8 (I l.length)) 7 (I l.length)) 6 (L (l.map Cpx.enc))) 3 (.c (.own e' (strC ((w ++ rest).map cpxS))))) 9 (B false), bx := nobox, nt := 20 })
  | [], i, w, e, hd, hok, he, hw, hi => by
    have hin : i = l.length := by
      have := List.drop_eq_nil_iff.1 hd
      omega
    subst hin
    refine ⟨e, ?_⟩
    conv in loopAt _ _ => whnf
    rw [exL_loop]
    simp only [go_sem, Nat.reduceLT, reduceIte, reduceCtorEq, Nat.reduceEqDiff, apply_ite (Option.map (outOf _)), Nat.reduceBEq, Nat.reduceAdd, Nat.reduceSub, Nat.reduceLeDiff, Nat.reduceMul, ev_len_sl ty_descOf_23, ev_indexAddr ty_descOf_23, ty_szOf_38, ty_shapeT_38, ty_zeroCells_38, good_10, ev_buildSlice (len := 1) ty_descOf_43 ty_szOf_9 ty_zeroCells_9 ⟨rfl, by decide, by decide⟩, ev_append ty_appInfo_43, ev_appNew_sl ty_descOf_43, good_13, keep_6_3, cells_live]
  | ⟨ps, s⟩ :: rest, i, w, e, hd, hok, he, hw, hi => by
    obtain ⟨h1, h2, h3⟩ := drop_cons hd
    obtain ⟨hp, hcl⟩ := hok ⟨ps, s⟩ (by simp)
    obtain ⟨e', hnext⟩ := List_loop l hal rest (i + 1) (w ++ [⟨ps, s⟩]) 9 h2 (fun y hy => hok y (by simp [hy])) (.inr rfl) (by simp [hw]) (by omega)
    refine ⟨e', ?_⟩
    conv at hnext in loopAt _ _ => whnf
    conv in loopAt _ _ => whnf
    rw [exL_loop]
    have hget : (l.map Cpx.enc)[(i : Int).toNat]? = some [.sl (ps.map Prt.enc), .str s] := by simp [h1, Cpx.enc]
    have hlt : decide ((i : Int) < (l.length : Int)) = true := lt_true (by omega)
    have hc := Complex_den _ hp hcl
    rw [Cpx.enc_mk] at hc
    simp only [List.map_cons, List.map_nil] at hc
    have hlim : w.length + 1 < appLim := by simp [appLim]; omega
    have hown : (e = 9 ∨ (strC (w.map cpxS)).isEmpty = true) = True := by
      rcases he with h | h
      · subst h; simp
      · subst h; simp
    simp only [go_sem, Nat.reduceLT, reduceIte, reduceCtorEq, Nat.reduceEqDiff, apply_ite (Option.map (outOf _)), Nat.reduceBEq, Nat.reduceAdd, Nat.reduceSub, Nat.reduceLeDiff, Nat.reduceMul, ev_len_sl ty_descOf_23, ev_indexAddr ty_descOf_23, ty_szOf_38, ty_shapeT_38, ty_zeroCells_38, good_10, ev_buildSlice (len := 1) ty_descOf_43 ty_szOf_9 ty_zeroCells_9 ⟨rfl, by decide, by decide⟩, ev_append ty_appInfo_43, ev_appNew_sl ty_descOf_43, good_13, keep_6_3, cells_live, cells_lend, cells_back, hlt, hget, Int.natCast_nonneg, hc, hlim, lens_str, lens_one, hown, wrap_nat i (by omega)]
    rw [exL_head]
    simp only [go_sem, Nat.reduceLT, reduceIte, reduceCtorEq, Nat.reduceEqDiff, apply_ite (Option.map (outOf _)), Nat.reduceBEq, Nat.reduceAdd, Nat.reduceSub, Nat.reduceLeDiff, Nat.reduceMul, ev_len_sl ty_descOf_23, ev_indexAddr ty_descOf_23, ty_szOf_38, ty_shapeT_38, ty_zeroCells_38, good_10, ev_buildSlice (len := 1) ty_descOf_43 ty_szOf_9 ty_zeroCells_9 ⟨rfl, by decide, by decide⟩, ev_append ty_appInfo_43, ev_appNew_sl ty_descOf_43, good_13, keep_6_3, cells_live]
    have e1 : strC ((w ++ [(⟨ps, s⟩ : Cpx)]).map cpxS) = strC (w.map cpxS) ++ [[PV.str (cpxS ⟨ps, s⟩)]] := by simp
    have e2 : w ++ [(⟨ps, s⟩ : Cpx)] ++ rest = w ++ ⟨ps, s⟩ :: rest := by simp
    unfold listH at hnext
    rw [e1, e2] at hnext
    exact hnext

theorem strsOf_strC : ∀ l : List (List UInt8), strsOf (strC l) = some l
  | [] => rfl
  | s :: l => by
    show strsOf ([PV.str s] :: strC l) = _
    unfold strsOf
    rw [strsOf_strC l]; rfl

theorem List_den (l : List Cpx) (hal : l.length < 1000000) (hok : ∀ c ∈ l, c.Ok ∧ (cpxS c).length < txtLim) (hlen : (listS l).length < txtLim) : den K 6 [L (l.map Cpx.enc)] [] = some (.ret (T (listS l)) []) := by
  obtain ⟨e', hnext⟩ := List_loop l hal l 0 [] 0 rfl hok (.inl rfl) rfl (by omega)
  refine den_run rfl Tryd.func6 rfl Tryd.ntmps6 ⟨by simp, by simp [LK]⟩ ?_
  have hr : Tryd.f6.results = #[.tmp 2] := rfl
  conv at hnext in loopAt _ _ => whnf
  have hj : den K 13 [L (strC (l.map cpxS)), T [44]] [] = some (.ret (T (listS l)) []) := by
    refine prim_run (F := pJoin) rfl ?_
    have h1 : (strC (l.map cpxS)).length ≤ joinLim ∧ (Lib.join (l.map cpxS) [44]).length ≤ joinLim := ⟨by simp [joinLim]; omega, by
      have : (listS l).length < 4294967296 := hlen
      unfold listS at this
      simp only [joinLim]; omega⟩
    simp only [pJoin, strsOf_strC]
    rw [if_pos h1]; rfl
  simp only [go_sem, Nat.reduceLT, reduceIte, reduceCtorEq, Nat.reduceEqDiff, apply_ite (Option.map (outOf _)), Nat.reduceBEq, Nat.reduceAdd, Nat.reduceSub, Nat.reduceLeDiff, Nat.reduceMul, ev_len_sl ty_descOf_23, ev_indexAddr ty_descOf_23, ty_szOf_38, ty_shapeT_38, ty_zeroCells_38, good_10, ev_buildSlice (len := 1) ty_descOf_43 ty_szOf_9 ty_zeroCells_9 ⟨rfl, by decide, by decide⟩, ev_append ty_appInfo_43, ev_appNew_sl ty_descOf_43, good_13, keep_6_3, cells_live]
  rw [exL_head]
  simp only [go_sem, Nat.reduceLT, reduceIte, reduceCtorEq, Nat.reduceEqDiff, apply_ite (Option.map (outOf _)), Nat.reduceBEq, Nat.reduceAdd, Nat.reduceSub, Nat.reduceLeDiff, Nat.reduceMul, ev_len_sl ty_descOf_23, ev_indexAddr ty_descOf_23, ty_szOf_38, ty_shapeT_38, ty_zeroCells_38, good_10, ev_buildSlice (len := 1) ty_descOf_43 ty_szOf_9 ty_zeroCells_9 ⟨rfl, by decide, by decide⟩, ev_append ty_appInfo_43, ev_appNew_sl ty_descOf_43, good_13, keep_6_3, cells_live]
  erw [hnext]
  simp only [go_sem, Nat.reduceLT, reduceIte, reduceCtorEq, Nat.reduceEqDiff, apply_ite (Option.map (outOf _)), Nat.reduceBEq, Nat.reduceAdd, Nat.reduceSub, Nat.reduceLeDiff, Nat.reduceMul, ev_len_sl ty_descOf_23, ev_indexAddr ty_descOf_23, ty_szOf_38, ty_shapeT_38, ty_zeroCells_38, good_10, ev_buildSlice (len := 1) ty_descOf_43 ty_szOf_9 ty_zeroCells_9 ⟨rfl, by decide, by decide⟩, ev_append ty_appInfo_43, ev_appNew_sl ty_descOf_43, good_13, keep_6_3, cells_live, cells_lent, hr, hj]

end Go.Abs
