/-
  winnowinglaw03.SplitTells returns true for every input without a ring, and each argument reads behind the call as it read before: the tied card.
  SplitTells, as the interpreter answers it: true, whatever the values, the sign and the text are.
  WHAT READS AS THE ARGUMENTS: the statement SplitTells.
-/
import Derived.Test.YtjfkppbgcgleaaaGreatDoorCards
import Derived.Test.YtjfkppbgcgleaaaGreatDoorTie
import Derived.ProofKit
import Derived.Deep.DeepHandedRow
import Derived.Test.YtjfkppbgcgleaaaGreatDoorQ7
set_option linter.unusedSimpArgs false
set_option linter.unusedVariables false
namespace Go.Abs
open Go Go.Proofs
set_option maxRecDepth 10000
attribute [local go_sem] exL_seq exL_region exL_cond exL_block exL_scope exL_ret exL_skip exL_exit runRegion runOps stepOp guardA absOp takeOver opd avOf cvOf St.degAt St.put okPV okVal okAV absBin intBin strBin boolBin setBoxes if_true Bool.false_eq_true if_false Option.map_some Option.map_none Option.bind_some Option.bind_none thenO outOf upd List.toList_toArray isOwn steal appArgs inApps AV.deg CV.deg AV.gv AV.isIter absNext some_bne List.length_nil List.length_cons List.filterMap_cons List.filterMap_nil beq_iff_eq List.getElem?_cons_zero List.getElem?_cons_succ Option.getD_some K_hook hookB Bool.false_and Bool.and_false Bool.and_self K_P K_own absCall doCall getBoxes lend back idx dedup AV.ren CV.ren TV.ren AV.ptrs CV.ptrs zipBox AV.flat CV.flat absLoad absStore cellsOfAV setAt newBox markB bldTypes absFieldAddr absField absExtract absAssert noAssert absMkIface ifcOf CV.pv? content pushHead ownT fillCells reps pvs chunks enterSt leave resOf resVars resVar outBoxes lentOnly TV.deg TV.av LK CV.plain CV.noBld nilBin absUn bound List.map_cons List.map_nil List.all_cons List.all_nil List.any_cons List.any_nil List.contains_cons List.contains_nil List.elem_cons List.elem_nil List.cons_append List.nil_append List.append_nil List.flatMap_cons List.flatMap_nil List.zip_cons_cons List.zip_nil_left List.zip_nil_right List.take_succ_cons List.take_zero List.take_nil List.drop_succ_cons List.drop_zero List.drop_nil List.isEmpty_nil List.isEmpty_cons Bool.and_true Bool.true_and Bool.or_true Bool.true_or Bool.or_false Bool.false_or Bool.not_true Bool.not_false Nat.add_zero Nat.zero_add Option.isNone_none Option.isNone_some Option.getD_none true_and and_true not_true_eq_false not_false_eq_true decide_true decide_false Nat.le_refl and_self Bool.not_eq_true Nat.sub_self or_true true_or Option.some.injEq List.length_map List.nil_eq and_false false_and AV.live CV.live CV.liveIn K_keep firstReg Option.orElse_some Option.orElse_none head keepSlots keepBoxes Int.lt_irrefl List.length_append ite_self memOK logOps opKey lentBoxes Key.clash Key.sees Key.writes Nat.lt_irrefl gt_iff_lt nobox_at bot_at false_or or_false beq_self_eq_true Bool.true_beq Bool.false_beq
set_option maxHeartbeats 8000000 in
theorem SplitTells_den (l : List Val) (d s : List UInt8) (hI : Ne.allT (fun t => I64 t.n) l) : den K 3 [L (encL l), T d, T s] [] = some (.ret (B true) []) := by
  have hf := fixed3_den
  have hs := SmallV_den l 200 (by omega) (by omega)
  refine den_run rfl rfl Tryz.func3 rfl Tryz.ntmps3 ⟨by simp, by simp [LK]⟩ ?_
  have hr : Tryz.f3.results = #[.tmp 6] := rfl
  cases hsm : decide (0 ≤ Ne.few 100 200 l)
  · rw [hsm] at hs
    simp only [go_sem, Nat.reduceLT, reduceIte, reduceCtorEq, Nat.reduceEqDiff, apply_ite (Option.map (outOf _)), Nat.reduceBEq, Nat.reduceAdd, Nat.reduceSub, Nat.reduceLeDiff, Nat.reduceMul, good_6, ev_len_str ty_descOf_9, good_7, good_8, good_9, good_10, good_12, good_13, good_11, good_15, good_14, good_16, good_17, good_18, good_19, good_20, good_21, hr, hf, hs]
  rw [hsm] at hs
  cases hd : decide ((100 : Int) < (d.length : Int))
  case true => simp only [go_sem, Nat.reduceLT, reduceIte, reduceCtorEq, Nat.reduceEqDiff, apply_ite (Option.map (outOf _)), Nat.reduceBEq, Nat.reduceAdd, Nat.reduceSub, Nat.reduceLeDiff, Nat.reduceMul, good_6, ev_len_str ty_descOf_9, good_7, good_8, good_9, good_10, good_12, good_13, good_11, good_15, good_14, good_16, good_17, good_18, good_19, good_20, good_21, hr, hf, hs, hd]
  cases ht : decide ((1000 : Int) < (s.length : Int))
  case true => simp only [go_sem, Nat.reduceLT, reduceIte, reduceCtorEq, Nat.reduceEqDiff, apply_ite (Option.map (outOf _)), Nat.reduceBEq, Nat.reduceAdd, Nat.reduceSub, Nat.reduceLeDiff, Nat.reduceMul, good_6, ev_len_str ty_descOf_9, good_7, good_8, good_9, good_10, good_12, good_13, good_11, good_15, good_14, good_16, good_17, good_18, good_19, good_20, good_21, hr, hf, hs, hd, ht]
  have hsl : s.length ≤ 1000 := by
    have := of_decide_eq_false ht
    omega
  obtain ⟨hsz, hlt⟩ := few_facts (of_decide_eq_true hsm)
  have hfs := flat_small (by decide) hI hlt
  have hlen := Ne.length_size l
  have hal := Tk.all_len s
  have r1 := ReadV_den s (by omega) (by omega)
  have r2 := ReadV3_den s (by omega) (by omega)
  have a1 := At_den l d (by omega)
  have a2 := AtS_den l d (by omega)
  have t1 := TrimS_den l (by omega)
  have t2 := Trim_den l (by omega)
  have hts := size_trim l
  have m1 := VSame2_den (Sl.trim l) (by omega) (Sl.trim l) (by omega)
  unfold VSame2Den at m1
  rw [same_refl] at m1
  have hatl := at_length d l
  have q1 := Lists_den (Sl.at_ d l) (by omega) (fun p hp => by have := at_sizes d l p hp; omega)
  have hcf := cut_flat_size (Sl.isSign d) l
  rw [cut_at] at hcf
  have hjl := join_length d (Sl.at_ d l)
  have hjs := join_size d (Sl.at_ d l)
  have j1 := JoinS_den d (Sl.at_ d l) (by omega) (by omega)
  have j2 := Join3_den d (Sl.at_ d l) (by omega) (by omega)
  have m2 := VSame2_den (Sl.join d (Sl.at_ d l)) (by omega) (Sl.join d (Sl.at_ d l)) (by omega)
  unfold VSame2Den at m2
  rw [same_refl] at m2
  have hwl := Sl.words_length l
  have w1 := WordsS_den l (by omega)
  have w2 := Words3_den l (by omega)
  have q2 := Lists_den (Sl.words l) (by omega) (fun p hp => by have := words_sizes l p hp; omega)
  have htx := text_vals (l := l) (m := 100) (by omega) (by omega) hfs
  have x1 := TextV_den l (by omega) (tokOk_of (by omega) hfs) (by simp only [txtLim]; omega)
  have x2 := TextV3_den l (by omega) (tokOk_of (by omega) hfs) (by simp only [txtLim]; omega)
  have hbb : (Sl.textS l == Sl.textS l) = true := by simp
  have e00 : ((0 : Int) == 0) = true := rfl
  have e20 : ((20 : Int) == 20) = true := rfl
  cases ha : Sl.readS s with
  | none =>
    unfold readAV at r1
    unfold readAV3 at r2
    rw [ha] at r1 r2
    have m3 := same2_nil3
    simp (maxSteps := 10000000) only [go_sem, Nat.reduceLT, reduceIte, reduceCtorEq, Nat.reduceEqDiff, apply_ite (Option.map (outOf _)), Nat.reduceBEq, Nat.reduceAdd, Nat.reduceSub, Nat.reduceLeDiff, Nat.reduceMul, good_6, ev_len_str ty_descOf_9, good_7, good_8, good_9, good_10, good_12, good_13, good_11, good_15, good_14, good_16, good_17, good_18, good_19, good_20, good_21, hr, hf, hs, hd, ht, r1, r2, a1, a2, t1, t2, m1, q1, j1, j2, m2, w1, w2, q2, x1, x2, hbb, m3, e20, TV.flat]
  | some a =>
    obtain ⟨hra, _⟩ := read_small hsl ha
    unfold readAV at r1
    unfold readAV3 at r2
    rw [ha] at r1 r2
    have m3 := VSame2_den a (by omega) a (by omega)
    unfold VSame2Den at m3
    rw [same_refl] at m3
    simp (maxSteps := 10000000) only [go_sem, Nat.reduceLT, reduceIte, reduceCtorEq, Nat.reduceEqDiff, apply_ite (Option.map (outOf _)), Nat.reduceBEq, Nat.reduceAdd, Nat.reduceSub, Nat.reduceLeDiff, Nat.reduceMul, good_6, ev_len_str ty_descOf_9, good_7, good_8, good_9, good_10, good_12, good_13, good_11, good_15, good_14, good_16, good_17, good_18, good_19, good_20, good_21, hr, hf, hs, hd, ht, r1, r2, a1, a2, t1, t2, m1, q1, j1, j2, m2, w1, w2, q2, x1, x2, hbb, m3, e00, TV.flat]
end Go.Abs
namespace Go.Abs
open Go Go.Proofs
set_option maxRecDepth 100000
theorem SplitTells_args (pss : List (List PV)) (h : All2 (fun t p => ∃ n, TyP Tryz.prog n t p) Tryz.f3.params.toList pss) :
    den K 3 (List.zipWith (argOf Tryz.prog) Tryz.f3.params.toList pss) [] = some (.ret (.c (.pv (.bool true))) []) := by
  have hp : Tryz.f3.params.toList = [22, 9, 9] := rfl
  rw [hp] at h ⊢
  refine args3 h fun n m k p q r h1 h2 h3 e => ?_
  subst e
  obtain ⟨a, rfl, ha⟩ := ty_vals h1
  obtain ⟨d, rfl, _⟩ := TyP_str ty_descOf_9 h2
  obtain ⟨s, rfl, _⟩ := TyP_str ty_descOf_9 h3
  simp only [List.zipWith_cons_cons, List.zipWith_nil_left, argOf_vals, argOf_str]
  exact SplitTells_den a d s ha
end Go.Abs
namespace Go.Proofs.YtjfkppbgcgleaaaGreatDoor.SplitTells
open Go.ChangeShapes Go.WideShapes Go.ChangeAt Go.RowKit
theorem own : ownKnob Tryz.prog.godebug = none := by kernel_rfl
def layInto (cs : List Value) : Obj → Obj
  | .cells _ t frozen => .cells cs.toArray t frozen
  | o => o
noncomputable def laidWorld (os : Os) : World :=
  { World.holding Tryz.prog os ⟨#[], #[], []⟩ with
    heap := (((World.holding Tryz.prog os ⟨#[], #[], []⟩).heap.modify 2
      (layInto (([0, 1, 28, 2, 29, 14, 24, 3, 30, 22, 20, 15, 25, 17, 4, 8, 31, 27, 13, 23, 21, 19, 16, 7, 26, 12, 18, 6, 11, 5, 10, 9] : List Int).map fun n => Value.int .u8 n))).modify 3
      (layInto (([0, 1, 56, 2, 57, 49, 28, 3, 61, 58, 42, 50, 38, 29, 17, 4, 62, 47, 59, 36, 45, 43, 51, 22, 53, 39, 33, 30, 24, 18, 12, 5, 63, 55, 48, 27, 60, 41, 37, 16, 46, 35, 44, 21, 52, 32, 23, 11, 54, 26, 40, 15, 34, 20, 31, 10, 25, 14, 19, 9, 13, 8, 7, 6] : List Int).map fun n => Value.int .u8 n))).modify 1
      (layInto ((List.range 20).map fun i => Value.int .u64 ((10 ^ i : Nat) : Int))) }
noncomputable def wArgs : Array Value := #[.slice none 0 0, .string ⟨#[]⟩, .string ⟨#[]⟩]
theorem laid_met (os : Os) : laidMet Tryz.prog Rows.splitTellsRow.laid ((laidWorld os).forCall (fun _ _ => 0) ⟨#[], wArgs, []⟩).memory :=
  laidMet_of_run' 8 (by kernel_rfl) (by kernel_rfl)
theorem reads (os : Os) {H : Type} (enc : TypeId × Value → H) : ∃ places, DataW.whole enc Tryz.prog ((laidWorld os).forCall (fun _ _ => 0) ⟨#[], wArgs, []⟩).memory Tryz.f3.params.toList Rows.splitTellsSpec.vars false wArgs.toList 8 = some ([.nil, .lit (.string []), .lit (.string [])], [], places) :=
  ⟨[], by kernel_rfl⟩
set_option maxRecDepth 100000 in
theorem lifted (os : Os) (started : os.Started) (H : Type) (enc : TypeId × Value → H) (F : Stop.Interp) :
    ReturnsInHanded {} Tryz.checked os 3 .any ((OpenSpec.ofChange Rows.splitTellsSpec).preRow enc Tryz.prog Tryz.f3 Rows.splitTellsRow.domain false Rows.splitTellsRow.laid) (((OpenSpec.ofChange Rows.splitTellsSpec).at F).post enc Tryz.prog Tryz.f3 false true false false) := by
  obtain ⟨places, hx⟩ := reads os enc
  refine returnsInHanded_of_row (C := Tryz.checked) (s := OpenSpec.ofChange Rows.splitTellsSpec) own started (by kernel_rfl) Tryz.func3
    (witness_row_at (enc := enc) (C := Tryz.checked) false (laidWorld os) wArgs rfl (by kernel_rfl) (by kernel_rfl) (by kernel_rfl)
      (OpenSpec.preRow_of_cond 8 hx (by kernel_rfl) (fun k hk => by cases hk) (by kernel_rfl) (laid_met os))) ?_
  intro W base args ds gs before hval hW _ _ hwt hL hsh _
  have hgs : gs = [] := by
    obtain ⟨_, _, _, hV, _⟩ := hW
    cases gs with
    | nil => rfl
    | cons g gs => exact hV.elim
  subst hgs
  have hwt' : (DataW.weightsEach Tryz.prog Tryz.f3.params.toList ds).all (· ≤ reachBytes) = true := by
    have e : Tryz.f3.params.toList ++ (OpenSpec.ofChange Rows.splitTellsSpec).bare.plain.varTypes Tryz.prog = Tryz.f3.params.toList := List.append_nil _
    rw [List.append_nil] at hwt
    exact hwt
  exact Go.Abs.law_ok (base := base) (L := Go.Abs.flatN) (laid := Rows.splitTellsRow.laid) (spec := Rows.splitTellsSpec) (by kernel_rfl) Go.Abs.flatN_ok (by decide) rfl rfl (fun ds hd => by
      match ds, hd with
      | [a, b, c], _ => rfl) (by simp [Rows.splitTellsRow]) (by kernel_rfl) Go.Abs.SplitTells_args hval hW hwt' hL hsh
theorem said : Rows.SplitTellsSaid :=
  OpenClaim.holds_of_cond 3 Tryz.f3 rfl rfl rfl rfl rfl rfl rfl ⟨rfl, rfl, rfl, rfl, rfl⟩ rfl rfl rfl rfl rfl (by kernel_rfl) Tryz.func3 (by kernel_rfl)
    (of_decide_eq_true (by kernel_rfl)) (by unfold Func.isWrapper; first | (rw [if_pos (by decide +kernel)]; kernel_rfl) | (rw [if_neg (by decide +kernel)]; exact ⟨rfl, rfl⟩))
    (fun os started H enc _ F => by rw [OpenClaim.pre_eq_preRow]; exact lifted os started H enc F)
theorem plain (f : FuncId) (fn : Func) (hf : Tryz.pinned.checked.prog.funcNamed "winnowing/winnowinglaw03.SplitTells" = some f) (hfn : Tryz.pinned.checked.prog.funcs[f]? = some fn) :
    true = Tryz.pinned.checked.prog.looks [] ∧ ∀ (j : Nat) t, fn.params[j]? = some t → Tryz.pinned.checked.prog.wantsStandIn t = false := by
  obtain rfl : f = 3 := Option.some.inj ((show Tryz.prog.funcNamed "winnowing/winnowinglaw03.SplitTells" = some 3 by kernel_rfl).symm.trans hf) |>.symm
  obtain rfl : fn = Tryz.f3 := (Option.some.inj (Tryz.func3.symm.trans hfn)).symm
  refine ⟨by kernel_rfl, fun j t ht => ?_⟩
  have hm := Array.mem_toList_iff.2 (Array.mem_of_getElem? ht)
  have h1 : ∀ t ∈ Tryz.f3.params.toList, t ∈ Go.Abs.flatN := by decide
  have h2 : Go.Abs.flatN.all (fun t => !Tryz.prog.wantsStandIn t) = true := by kernel_rfl
  have h3 := List.all_eq_true.1 h2 t (h1 t hm)
  have h4 : Tryz.prog.wantsStandIn t = false := by simpa using h3
  exact h4
theorem card : Rows.SplitTellsCardSaid :=
  Claim7.holds_tied_plain_at .later [] _ _ _ _ said (fun _ h => by cases h) (by kernel_rfl) (fun _ h => by cases h) splitTells_row_tie rfl ⟨rfl, rfl⟩ (by kernel_rfl) rfl plain (by kernel_rfl)
end Go.Proofs.YtjfkppbgcgleaaaGreatDoor.SplitTells
