/-
  THE READER OF VALUES (nest's until, one), as an interpreter of its own runs it: what it answers. (The functions that ask it are run by the main interpreter, which has nest.Parse as a primitive.)
  THE ABSTRACT INTERPRETER: nest.Parse as a primitive: walked by hand (it defers a function that recovers), round what the reader answers.
  THE ABSTRACT INTERPRETER: nest.Parse as a primitive: that its answer is what the program does.
-/
import Derived.Test.YtegabgmehebimaaDoorQG
import Derived.Test.YtegabgmehebimaaDoorQF
import Derived.Test.YtegabgmehebimaaDoorQE
import Derived.Defers
import Derived.Recover
set_option linter.unusedSimpArgs false
set_option linter.unusedVariables false
namespace Go.Abs.NR
open Go Go.Proofs Go.Abs
set_option maxRecDepth 10000
attribute [local go_sem] exL_seq exL_cond exL_block exL_scope exL_ret exL_skip exL_exit runRegion runOps stepOp guardA absOp takeOver opd avOf cvOf St.degAt St.put okPV okVal okAV absBin intBin strBin boolBin setBoxes if_true Bool.false_eq_true if_false Option.map_some Option.map_none Option.bind_some Option.bind_none thenO outOf upd List.toList_toArray isOwn steal appArgs inApps AV.deg CV.deg AV.gv AV.isIter absNext some_bne List.length_nil List.length_cons List.filterMap_cons List.filterMap_nil beq_iff_eq List.getElem?_cons_zero List.getElem?_cons_succ Option.getD_some Bool.false_and Bool.and_false Bool.and_self absCall doCall getBoxes lend back idx dedup AV.ren CV.ren TV.ren AV.ptrs CV.ptrs zipBox AV.flat CV.flat absLoad absStore cellsOfAV setAt newBox markB bldTypes absFieldAddr absField absExtract absAssert noAssert absMkIface ifcOf CV.pv? content pushHead ownT fillCells reps pvs chunks enterSt leave resOf resVars resVar outBoxes lentOnly TV.deg TV.av LK CV.plain CV.noBld nilBin absUn bound List.map_cons List.map_nil List.all_cons List.all_nil List.any_cons List.any_nil List.contains_cons List.contains_nil List.elem_cons List.elem_nil List.cons_append List.nil_append List.append_nil List.flatMap_cons List.flatMap_nil List.zip_cons_cons List.zip_nil_left List.zip_nil_right List.take_succ_cons List.take_zero List.take_nil List.drop_succ_cons List.drop_zero List.drop_nil List.isEmpty_nil List.isEmpty_cons Bool.and_true Bool.true_and Bool.or_true Bool.true_or Bool.or_false Bool.false_or Bool.not_true Bool.not_false Nat.add_zero Nat.zero_add Option.isNone_none Option.isNone_some Option.getD_none true_and and_true not_true_eq_false not_false_eq_true decide_true decide_false Nat.le_refl and_self Bool.not_eq_true Nat.sub_self or_true true_or Option.some.injEq List.length_map List.nil_eq and_false false_and AV.live CV.live CV.liveIn firstReg Option.orElse_some Option.orElse_none head keepSlots keepBoxes Int.lt_irrefl List.length_append ite_self memOK logOps opKey lentBoxes Key.clash Key.sees Key.writes Nat.lt_irrefl gt_iff_lt nobox_at bot_at false_or or_false beq_self_eq_true Bool.true_beq Bool.false_beq

theorem ty_fieldOff_50_0 : fieldOff Tryd.prog 50 0 = Option.some (0, 22) := by kernel_rfl
theorem ty_szOf_22 : szOf Tryd.prog 22 = Option.some 1 := by kernel_rfl
theorem ty_shapeT_22 : shapeT Tryd.prog 22 = Option.some Option.none := by kernel_rfl
theorem ty_descOf_22 : descOf Tryd.prog 22 = Option.some (Go.Abs.Desc.sl 38 Bool.false) := by kernel_rfl
theorem ty_szOf_38 : szOf Tryd.prog 38 = Option.some 3 := by kernel_rfl
theorem ty_shapeT_38 : shapeT Tryd.prog 38 = Option.some (Option.some 3) := by kernel_rfl
theorem ty_zeroCells_38 : zeroCells Tryd.prog 38 = Option.some [Go.Abs.CV.pv (Go.Abs.PV.int Go.IntKind.i64 0), Go.Abs.CV.pv (Go.Abs.PV.str []), Go.Abs.CV.pv (Go.Abs.PV.int Go.IntKind.i64 0)] := by kernel_rfl
theorem ty_isPtrT_70 : isPtrT Tryd.prog 70 = Bool.true := by kernel_rfl
theorem ty_descOf_23 : descOf Tryd.prog 23 = Option.some (Go.Abs.Desc.sl 40 Bool.false) := by kernel_rfl
theorem ty_szOf_40 : szOf Tryd.prog 40 = Option.some 5 := by kernel_rfl
theorem ty_zeroCells_40 : zeroCells Tryd.prog 40 = Option.some [Go.Abs.CV.pv (Go.Abs.PV.int Go.IntKind.i64 0), Go.Abs.CV.pv (Go.Abs.PV.int Go.IntKind.i64 0), Go.Abs.CV.pv (Go.Abs.PV.str []), Go.Abs.CV.pv (Go.Abs.PV.int Go.IntKind.i64 0), Go.Abs.CV.nils] := by kernel_rfl
theorem ty_appInfo_23 : appInfo Tryd.prog 23 = Option.some (40, 5) := by kernel_rfl
theorem ty_shapeT_40 : shapeT Tryd.prog 40 = Option.some (Option.some 5) := by kernel_rfl
theorem ty_placesOf_40 : placesOf Tryd.prog 40 = Option.some [(0, 1), (1, 3), (4, 1)] := by kernel_rfl
theorem ty_fieldOff_50_1 : fieldOff Tryd.prog 50 1 = Option.some (1, 3) := by kernel_rfl
theorem ty_szOf_3 : szOf Tryd.prog 3 = Option.some 1 := by kernel_rfl
theorem ty_shapeT_3 : shapeT Tryd.prog 3 = Option.some Option.none := by kernel_rfl
theorem ty_zeroCells_46 : zeroCells Tryd.prog 46 = Option.some [] := by kernel_rfl
theorem ty_placesOf_46 : placesOf Tryd.prog 46 = Option.some [] := by kernel_rfl
theorem ty_concreteT_46 : concreteT Tryd.prog 46 = Bool.true := by kernel_rfl
theorem ty_fieldOff_40_1 : fieldOff Tryd.prog 40 1 = Option.some (1, 38) := by kernel_rfl
theorem ty_fieldOff_40_2 : fieldOff Tryd.prog 40 2 = Option.some (4, 23) := by kernel_rfl
theorem ty_szOf_23 : szOf Tryd.prog 23 = Option.some 1 := by kernel_rfl
theorem ty_zeroCells_56 : zeroCells Tryd.prog 56 = Option.some [Go.Abs.CV.pv (Go.Abs.PV.str []), Go.Abs.CV.pv (Go.Abs.PV.str [])] := by kernel_rfl
theorem ty_szOf_56 : szOf Tryd.prog 56 = Option.some 2 := by kernel_rfl
theorem ty_fieldOff_56_1 : fieldOff Tryd.prog 56 1 = Option.some (1, 9) := by kernel_rfl
theorem ty_szOf_9 : szOf Tryd.prog 9 = Option.some 1 := by kernel_rfl
theorem ty_shapeT_9 : shapeT Tryd.prog 9 = Option.some Option.none := by kernel_rfl
theorem ty_placesOf_38 : placesOf Tryd.prog 38 = Option.some [(0, 1), (1, 1), (2, 1)] := by kernel_rfl

def keepN (f r : Nat) : List Nat × List Nat := if f == 28 && r == 2 then ([0, 1, 2, 7], [100000, 100001]) else ([], [])
def prN (f : Nat) : Option Prim := if f == 30 then some pPairs else if f == 56 then some pOpens else none
def ownN (f : Nat) : Bool := f == 30
def goodsN : List Nat := [30, 56, 31, 32, 43, 28]
noncomputable def KN : Cfg := { P := Tryd.prog, pr := prN, keep := keepN, ownRet := ownN, good := goodsN.contains, hook := fun _ _ => false }

theorem N_own (f : FuncId) (h : (f == 30) = false) : KN.ownRet f = false := h
theorem N_ownP : KN.ownRet 30 = true := rfl
theorem N_hook (f i : Nat) : KN.hook f i = false := rfl
theorem regionN (f : FuncId) (id : Nat) (ops : Array Oper) (draw : Bool) (S : St) : exL KN f (.region id ops draw) S = runRegion KN (den KN) ops.toList draw S := exL_region f id ops draw S (N_hook f id)
theorem N_P : KN.P = Tryd.prog := rfl
theorem N_keep (f r : Nat) : KN.keep f r = keepN f r := rfl
theorem keep_u : keepN 28 2 = ([0, 1, 2, 7], [100000, 100001]) := by decide
theorem good_o : KN.good 56 = true := rfl
theorem good_p : KN.good 30 = true := rfl
theorem good_d : KN.good 31 = true := rfl
theorem good_c : KN.good 32 = true := rfl
theorem good_1 : KN.good 43 = true := rfl
theorem good_u : KN.good 28 = true := rfl

abbrev I (n : Int) : AV := .c (.pv (.int .i64 n))
abbrev T (l : List UInt8) : AV := .c (.pv (.str l))
abbrev L (l : List (List PV)) : AV := .c (.pv (.sl l))
abbrev P0 : AV := .c (.loc 100000 0)

theorem den_runN {f : FuncId} {fn : Func} {x : Code} {nt : Nat} {args : List AV} {bxs : List (List CV)} {r : Res} (hp : prN f = none) (hf : Tryd.prog.funcs[f]? = some fn) (hx : fn.body = some x) (hn : fn.ntmps = nt)
    (hl : args.length ≤ nt ∧ nt < LK) (h : (exL KN f x (enterSt nt args bxs)).bind (fun r => leave KN f fn bxs.length (some r)) = some r) : den KN f args bxs = some r := by
  rw [den_eq (K := KN) hp hf hx, hn, if_pos hl]
  exact h
theorem den_runE {α : Type} {f : FuncId} {fn : Func} {x : Code} {nt : Nat} {args : List AV} {bxs : List (List CV)} {r : α → Res} (hp : prN f = none) (hf : Tryd.prog.funcs[f]? = some fn) (hx : fn.body = some x) (hn : fn.ntmps = nt)
    (hl : args.length ≤ nt ∧ nt < LK) (h : ∃ b, (exL KN f x (enterSt nt args bxs)).bind (fun r => leave KN f fn bxs.length (some r)) = some (r b)) : ∃ b, den KN f args bxs = some (r b) := by
  obtain ⟨b, h⟩ := h
  exact ⟨b, den_runN hp hf hx hn hl h⟩
theorem prim_runN {f : FuncId} {F : Prim} {args : List AV} {bxs cs : List (List CV)} {v : AV} (h : prN f = some F) (hF : F args bxs = some (v, cs)) : den KN f args bxs = some (.ret v cs) := by
  rw [den_prim (K := KN) h, hF]; rfl

theorem opens_den (t : Tok) : den KN 56 [.agg t.cells] [] = some (.ret (I (Ne.opens t)) []) := prim_runN (F := pOpens) rfl rfl
theorem pairs_den : den KN 30 [] [] = some (.ret (.c (.cmap pairsE)) []) := prim_runN (F := pPairs) rfl rfl

theorem delim_den (s : List UInt8) : den KN 31 [T s] [] = some (.ret (.agg [.pv (.int .i64 7), .pv (.str s), .pv (.int .i64 0)]) []) := by
  refine den_runN rfl Tryd.func31 rfl Tryd.ntmps31 ⟨by simp, by simp [LK]⟩ ?_
  have hr : Tryd.f31.results = #[.cell 2 38] := rfl
  simp only [go_sem, Nat.reduceLT, reduceIte, reduceCtorEq, Nat.reduceEqDiff, apply_ite (Option.map (outOf _)), Nat.reduceBEq, Nat.reduceAdd, Nat.reduceSub, Nat.reduceLeDiff, Nat.reduceMul, regionN, N_own, N_P, ty_shapeT_38, ty_zeroCells_38, ev_build ty_zeroCells_38 ty_placesOf_38, ty_szOf_38, hr]

theorem look_map : Tryd.prog.underlying 58 = some (.map 3 56) := by kernel_rfl
theorem look_int : isIntK Tryd.prog 3 .i64 = true := by kernel_rfl
theorem look_zero : tvZero Tryd.prog 56 = some (.agg [.pv (.str []), .pv (.str [])]) := by kernel_rfl

theorem look_2 : absLookup Tryd.prog 58 (.c (.cmap pairsE)) (I 2) true = some (.tup [.agg [.pv (.str [40]), .pv (.str [41])], .c (.pv (.bool true))]) := by
  unfold absLookup
  rw [look_map]
  simp only
  rw [look_int, if_pos (by rfl)]
  rfl
theorem look_3 : absLookup Tryd.prog 58 (.c (.cmap pairsE)) (I 3) true = some (.tup [.agg [.pv (.str [91]), .pv (.str [93])], .c (.pv (.bool true))]) := by
  unfold absLookup
  rw [look_map]
  simp only
  rw [look_int, if_pos (by rfl)]
  rfl
theorem look_4 : absLookup Tryd.prog 58 (.c (.cmap pairsE)) (I 4) true = some (.tup [.agg [.pv (.str [123]), .pv (.str [125])], .c (.pv (.bool true))]) := by
  unfold absLookup
  rw [look_map]
  simp only
  rw [look_int, if_pos (by rfl)]
  rfl
theorem look_no (k : Int) (h2 : k ≠ 2) (h3 : k ≠ 3) (h4 : k ≠ 4) : absLookup Tryd.prog 58 (.c (.cmap pairsE)) (I k) true = some (.tup [.agg [.pv (.str []), .pv (.str [])], .c (.pv (.bool false))]) := by
  have hf : pairsE.find? (keyIs .i64 k) = none := by
    rw [List.find?_eq_none]
    intro e he
    simp only [pairsE, List.mem_cons, List.not_mem_nil, or_false] at he
    rcases he with rfl | rfl | rfl <;> simp [keyIs, h2, h3, h4]
  unfold absLookup
  rw [look_map]
  simp only
  rw [look_int, if_pos (by rfl), hf]
  simp only [look_zero]

theorem closing_den (k : Int) : den KN 32 [I k] [] = some (.ret (.agg (Ne.closeT k).cells) []) := by
  refine den_runN rfl Tryd.func32 rfl Tryd.ntmps32 ⟨by simp, by simp [LK]⟩ ?_
  have hr : Tryd.f32.results = #[.cell 2 38] := rfl
  have hp := pairs_den
  have d1 := delim_den [41]
  have d2 := delim_den [93]
  have d3 := delim_den [125]
  by_cases h2 : k = 2
  · subst h2
    simp only [go_sem, Nat.reduceLT, reduceIte, reduceCtorEq, Nat.reduceEqDiff, apply_ite (Option.map (outOf _)), Nat.reduceBEq, Nat.reduceAdd, Nat.reduceSub, Nat.reduceLeDiff, Nat.reduceMul, regionN, N_own, N_ownP, N_P, ty_shapeT_38, ty_zeroCells_38, ty_zeroCells_56, ty_szOf_56, ty_fieldOff_56_1, ty_szOf_9, ty_shapeT_9, ty_szOf_38, hr, hp, look_2, d1, d2, d3, good_p, good_d]
    rfl
  by_cases h3 : k = 3
  · subst h3
    simp only [go_sem, Nat.reduceLT, reduceIte, reduceCtorEq, Nat.reduceEqDiff, apply_ite (Option.map (outOf _)), Nat.reduceBEq, Nat.reduceAdd, Nat.reduceSub, Nat.reduceLeDiff, Nat.reduceMul, regionN, N_own, N_ownP, N_P, ty_shapeT_38, ty_zeroCells_38, ty_zeroCells_56, ty_szOf_56, ty_fieldOff_56_1, ty_szOf_9, ty_shapeT_9, ty_szOf_38, hr, hp, look_3, d1, d2, d3, good_p, good_d]
    rfl
  by_cases h4 : k = 4
  · subst h4
    simp only [go_sem, Nat.reduceLT, reduceIte, reduceCtorEq, Nat.reduceEqDiff, apply_ite (Option.map (outOf _)), Nat.reduceBEq, Nat.reduceAdd, Nat.reduceSub, Nat.reduceLeDiff, Nat.reduceMul, regionN, N_own, N_ownP, N_P, ty_shapeT_38, ty_zeroCells_38, ty_zeroCells_56, ty_szOf_56, ty_fieldOff_56_1, ty_szOf_9, ty_shapeT_9, ty_szOf_38, hr, hp, look_4, d1, d2, d3, good_p, good_d]
    rfl
  have hl := look_no k h2 h3 h4
  have hv : Ne.closeT k = ⟨7, [41], 0⟩ := by simp [Ne.closeT, Ne.closeC, h3, h4]
  rw [hv]
  simp only [go_sem, Nat.reduceLT, reduceIte, reduceCtorEq, Nat.reduceEqDiff, apply_ite (Option.map (outOf _)), Nat.reduceBEq, Nat.reduceAdd, Nat.reduceSub, Nat.reduceLeDiff, Nat.reduceMul, regionN, N_own, N_ownP, N_P, ty_shapeT_38, ty_zeroCells_38, ty_zeroCells_56, ty_szOf_56, ty_fieldOff_56_1, ty_szOf_9, ty_shapeT_9, ty_szOf_38, hr, hp, hl, d1, d2, d3, good_p, good_d]
  rfl

theorem tok_eq (k k' n n' : Int) (t t' : List UInt8) : structEq Tryd.prog 38 [.int .i64 k, .str t, .int .i64 n] [.int .i64 k', .str t', .int .i64 n'] = some ((k == k') && ((t == t') && ((n == n') && true))) := by kernel_rfl
theorem tok_beq (a b : Tok) : ((a.kind == b.kind) && ((a.text == b.text) && ((a.n == b.n) && true))) = decide (a = b) := by
  obtain ⟨k, t, n⟩ := a
  obtain ⟨k', t', n'⟩ := b
  rw [Bool.eq_iff_iff, decide_eq_true_eq]
  simp [Tok.mk.injEq]
theorem lens_toks (l : List Tok) : lens 3 (l.map Tok.enc) = true := by simp [lens, Tok.enc]
theorem lens_vals (l : List Val) : lens 5 (encL l) = true := by
  rw [encL_map]
  simp only [lens, List.all_map, List.all_eq_true, Function.comp_apply, beq_iff_eq]
  intro v _
  exact enc_len v
theorem lens_val (a b c d e : PV) : lens 5 [[a, b, c, d, e]] = true := rfl

/-- the reader -/
abbrev rdr (l : List Tok) (deep : Int) : List CV := [.pv (.sl (l.map Tok.enc)), .pv (.int .i64 deep)]
abbrev errD : CV := .pv (.ifa 46 [])
abbrev closeA (k : Int) : List CV := [.pv (.int .i64 7), .pv (.str [Ne.closeC k]), .pv (.int .i64 0)]
abbrev tokA (t : Tok) : List CV := [.pv (.int .i64 t.kind), .pv (.str t.text), .pv (.int .i64 t.n)]

theorem opensA (t : Tok) : den KN 56 [.agg (tokA t)] [] = some (.ret (I (Ne.opens t)) []) := opens_den t
theorem closingA (k : Int) : den KN 32 [I k] [] = some (.ret (.agg (closeA k)) []) := closing_den k

theorem one_tok (t : Tok) (l : List Tok) (deep wi : Int) (h : Ne.opens t = 0) : den KN 43 [P0, .agg (tokA t), I wi] [rdr l deep] =
    some (.ret (.agg [.pv (.int .i64 1), .pv (.int .i64 t.kind), .pv (.str t.text), .pv (.int .i64 t.n), .nils]) [rdr l deep]) := by
  refine den_runN rfl Tryd.func43 rfl Tryd.ntmps43 ⟨by simp, by simp [LK]⟩ ?_
  have hr : Tryd.f43.results = #[.cell 6 40] := rfl
  have ho := opensA t
  rw [h] at ho
  simp only [go_sem, Nat.reduceLT, reduceIte, reduceCtorEq, Nat.reduceEqDiff, apply_ite (Option.map (outOf _)), Nat.reduceBEq, Nat.reduceAdd, Nat.reduceSub, Nat.reduceLeDiff, Nat.reduceMul, regionN, N_own, N_ownP, N_P, N_keep, keep_u, ty_shapeT_40, ty_zeroCells_40, ty_shapeT_38, ev_build ty_zeroCells_40 ty_placesOf_40, ty_szOf_40, ty_fieldOff_50_1, ty_szOf_3, ty_shapeT_3, ev_build ty_zeroCells_46 ty_placesOf_46, ty_concreteT_46, ty_fieldOff_40_1, ty_szOf_38, ty_zeroCells_38, ty_fieldOff_40_2, ty_szOf_23, hr, ho, good_o]

theorem one_deep (t : Tok) (l : List Tok) (deep wi : Int) (h : Ne.opens t ≠ 0) (hw : deep ≤ wi) : den KN 43 [P0, .agg (tokA t), I wi] [rdr l deep] = some (.pan errD [rdr l deep]) := by
  refine den_runN rfl Tryd.func43 rfl Tryd.ntmps43 ⟨by simp, by simp [LK]⟩ ?_
  have ho := opensA t
  have e0 : (Ne.opens t == 0) = false := by rw [beq_eq_false_iff_ne]; exact h
  have e1 : decide (deep ≤ wi) = true := decide_eq_true hw
  simp only [go_sem, Nat.reduceLT, reduceIte, reduceCtorEq, Nat.reduceEqDiff, apply_ite (Option.map (outOf _)), Nat.reduceBEq, Nat.reduceAdd, Nat.reduceSub, Nat.reduceLeDiff, Nat.reduceMul, regionN, N_own, N_ownP, N_P, N_keep, keep_u, ty_shapeT_40, ty_zeroCells_40, ty_shapeT_38, ev_build ty_zeroCells_40 ty_placesOf_40, ty_szOf_40, ty_fieldOff_50_1, ty_szOf_3, ty_shapeT_3, ev_build ty_zeroCells_46 ty_placesOf_46, ty_concreteT_46, ty_fieldOff_40_1, ty_szOf_38, ty_zeroCells_38, ty_fieldOff_40_2, ty_szOf_23, ho, good_o, e0, e1]

theorem one_in (t : Tok) (l rest : List Tok) (vs : List Val) (deep wi : Int) (h : Ne.opens t ≠ 0) (hw : wi < deep) (hd : 0 ≤ wi ∧ deep < 1000)
    (hu : den KN 28 [P0, .c (.loc 100001 0), I (wi + 1)] [rdr l deep, closeA (Ne.opens t)] = some (.ret (L (encL vs)) [rdr rest deep, closeA (Ne.opens t)])) :
    den KN 43 [P0, .agg (tokA t), I wi] [rdr l deep] =
      some (.ret (.agg (.pv (.int .i64 (Ne.opens t)) :: (tokA (if Ne.opens t = 5 then t else Ne.tok0) ++ [.pv (.sl (encL vs))]))) [rdr rest deep]) := by
  refine den_runN rfl Tryd.func43 rfl Tryd.ntmps43 ⟨by simp, by simp [LK]⟩ ?_
  have hr : Tryd.f43.results = #[.cell 6 40] := rfl
  have ho := opensA t
  have hc := closingA (Ne.opens t)
  have e0 : (Ne.opens t == 0) = false := by rw [beq_eq_false_iff_ne]; exact h
  have e1 : decide (deep ≤ wi) = false := decide_eq_false (by omega)
  have ew : IntKind.i64.wrap (wi + 1) = wi + 1 := IntWalk.i64_in _ (by omega)
  by_cases h5 : Ne.opens t = 5
  · have e5 : (Ne.opens t == 5) = true := by rw [beq_iff_eq]; exact h5
    rw [if_pos h5]
    simp only [go_sem, Nat.reduceLT, reduceIte, reduceCtorEq, Nat.reduceEqDiff, apply_ite (Option.map (outOf _)), Nat.reduceBEq, Nat.reduceAdd, Nat.reduceSub, Nat.reduceLeDiff, Nat.reduceMul, regionN, N_own, N_ownP, N_P, N_keep, keep_u, ty_shapeT_40, ty_zeroCells_40, ty_shapeT_38, ev_build ty_zeroCells_40 ty_placesOf_40, ty_szOf_40, ty_fieldOff_50_1, ty_szOf_3, ty_shapeT_3, ev_build ty_zeroCells_46 ty_placesOf_46, ty_concreteT_46, ty_fieldOff_40_1, ty_szOf_38, ty_zeroCells_38, ty_fieldOff_40_2, ty_szOf_23, hr, ho, hc, hu, good_o, good_c, good_u, e0, e1, e5, ew]
  · have e5 : (Ne.opens t == 5) = false := by rw [beq_eq_false_iff_ne]; exact h5
    rw [if_neg h5]
    simp only [go_sem, Nat.reduceLT, reduceIte, reduceCtorEq, Nat.reduceEqDiff, apply_ite (Option.map (outOf _)), Nat.reduceBEq, Nat.reduceAdd, Nat.reduceSub, Nat.reduceLeDiff, Nat.reduceMul, regionN, N_own, N_ownP, N_P, N_keep, keep_u, ty_shapeT_40, ty_zeroCells_40, ty_shapeT_38, ev_build ty_zeroCells_40 ty_placesOf_40, ty_szOf_40, ty_fieldOff_50_1, ty_szOf_3, ty_shapeT_3, ev_build ty_zeroCells_46 ty_placesOf_46, ty_concreteT_46, ty_fieldOff_40_1, ty_szOf_38, ty_zeroCells_38, ty_fieldOff_40_2, ty_szOf_23, hr, ho, hc, hu, good_o, good_c, good_u, e0, e1, e5, ew, Ne.tok0]

theorem one_pan (t : Tok) (l : List Tok) (deep wi : Int) (b1 b2 : List CV) (h : Ne.opens t ≠ 0) (hw : wi < deep) (hd : 0 ≤ wi ∧ deep < 1000)
    (hu : den KN 28 [P0, .c (.loc 100001 0), I (wi + 1)] [rdr l deep, closeA (Ne.opens t)] = some (.pan errD [b1, b2])) :
    ∃ b, den KN 43 [P0, .agg (tokA t), I wi] [rdr l deep] = some (.pan errD [b]) := by
  refine den_runE rfl Tryd.func43 rfl Tryd.ntmps43 ⟨by simp, by simp [LK]⟩ ?_
  have ho := opensA t
  have hc := closingA (Ne.opens t)
  have e0 : (Ne.opens t == 0) = false := by rw [beq_eq_false_iff_ne]; exact h
  have e1 : decide (deep ≤ wi) = false := decide_eq_false (by omega)
  have ew : IntKind.i64.wrap (wi + 1) = wi + 1 := IntWalk.i64_in _ (by omega)
  by_cases h5 : Ne.opens t = 5
  · have e5 : (Ne.opens t == 5) = true := by rw [beq_iff_eq]; exact h5
    simp only [go_sem, Nat.reduceLT, reduceIte, reduceCtorEq, Nat.reduceEqDiff, apply_ite (Option.map (outOf _)), Nat.reduceBEq, Nat.reduceAdd, Nat.reduceSub, Nat.reduceLeDiff, Nat.reduceMul, regionN, N_own, N_ownP, N_P, N_keep, keep_u, ty_shapeT_40, ty_zeroCells_40, ty_shapeT_38, ev_build ty_zeroCells_40 ty_placesOf_40, ty_szOf_40, ty_fieldOff_50_1, ty_szOf_3, ty_shapeT_3, ev_build ty_zeroCells_46 ty_placesOf_46, ty_concreteT_46, ty_fieldOff_40_1, ty_szOf_38, ty_zeroCells_38, ty_fieldOff_40_2, ty_szOf_23, ho, hc, hu, good_o, good_c, good_u, e0, e1, e5, ew]
    exact ⟨_, rfl⟩
  · have e5 : (Ne.opens t == 5) = false := by rw [beq_eq_false_iff_ne]; exact h5
    simp only [go_sem, Nat.reduceLT, reduceIte, reduceCtorEq, Nat.reduceEqDiff, apply_ite (Option.map (outOf _)), Nat.reduceBEq, Nat.reduceAdd, Nat.reduceSub, Nat.reduceLeDiff, Nat.reduceMul, regionN, N_own, N_ownP, N_P, N_keep, keep_u, ty_shapeT_40, ty_zeroCells_40, ty_shapeT_38, ev_build ty_zeroCells_40 ty_placesOf_40, ty_szOf_40, ty_fieldOff_50_1, ty_szOf_3, ty_shapeT_3, ev_build ty_zeroCells_46 ty_placesOf_46, ty_concreteT_46, ty_fieldOff_40_1, ty_szOf_38, ty_zeroCells_38, ty_fieldOff_40_2, ty_szOf_23, ho, hc, hu, good_o, good_c, good_u, e0, e1, e5, ew]
    exact ⟨_, rfl⟩

theorem exL_headN (f : FuncId) (a : Code) (S : St) : exL KN f (.loop a) S = exL KN f (.loop a) (head (keepN f ((firstReg a).getD 0)) S) := by
  rw [exL_loop, exL_loop (S := head _ S), N_keep, head_head]

/-- how the last token is lent: not at all, or in a box -/
inductive Kd : Int → AV → Option (List CV) → List (List CV) → Prop
  | top : Kd 0 (.c .nilp) none []
  | inner (k : Int) (h : 0 < k) : Kd k (.c (.loc 100001 0)) (some (closeA k)) [closeA k]

abbrev uH (l : List Tok) (deep wi : Int) (ka : AV) (kb : Option (List CV)) (e : Nat) (acc : List Val) : St :=
  { sl := upd (upd (upd (upd bot 7 (.c (.own e (encL acc)))) 2 (I wi)) 1 ka) 0 P0, bx := upd (upd nobox 100001 kb) 100000 (some (rdr l deep)), nt := 46 }

/-- what the loop comes to -/
def ULoop (l : List Tok) (kind : Int) (left : Nat) (deep wi : Int) (ka : AV) (kb : Option (List CV)) (acc : List Val) (o : Out) (S : St) : Prop :=
  match Ne.until_ kind left l with
  | some (vs, rest) => o = .exit 0 ∧ S.nt = 46 ∧ (∃ e, S.sl 7 = .c (.own e (encL (acc ++ vs)))) ∧ S.bx 100000 = some (rdr rest deep) ∧ S.bx 100001 = kb
  | none => o = .pan errD ∧ (∃ b, S.bx 100000 = some b) ∧ S.bx 100001 = kb

def UDen (l : List Tok) (kind : Int) (left : Nat) (deep wi : Int) (ka : AV) (kl : List (List CV)) : Prop :=
  match Ne.until_ kind left l with
  | some (vs, rest) => den KN 28 [P0, ka, I wi] (rdr l deep :: kl) = some (.ret (L (encL vs)) (rdr rest deep :: kl))
  | none => ∃ b, den KN 28 [P0, ka, I wi] (rdr l deep :: kl) = some (.pan errD (b :: kl))

noncomputable def ulp : Code := .loop (loopAt Tryd.f28 2)

theorem u_den {l : List Tok} {kind : Int} {left : Nat} {deep wi : Int} {ka : AV} {kb : Option (List CV)} {kl : List (List CV)} (hk : Kd kind ka kb kl)
    (h : Ends (exL KN 28 ulp (uH l deep wi ka kb 0 [])) (ULoop l kind left deep wi ka kb [])) : UDen l kind left deep wi ka kl := by
  have hr : Tryd.f28.results = #[.tmp 6] := rfl
  unfold ulp at h
  conv at h in loopAt _ _ => whnf
  obtain ⟨o, S', w, hq⟩ := h
  unfold ULoop at hq
  unfold UDen
  cases hu : Ne.until_ kind left l with
  | some x =>
    obtain ⟨vs, rest⟩ := x
    rw [hu] at hq
    obtain ⟨rfl, hn, ⟨e, h7⟩, hb, hb2⟩ := hq
    rw [List.nil_append] at h7
    simp only
    refine den_runN rfl Tryd.func28 rfl Tryd.ntmps28 ⟨by simp, by simp [LK]⟩ ?_
    cases hk with
    | top =>
      simp only [go_sem, Nat.reduceLT, reduceIte, reduceCtorEq, Nat.reduceEqDiff, apply_ite (Option.map (outOf _)), Nat.reduceBEq, Nat.reduceAdd, Nat.reduceSub, Nat.reduceLeDiff, Nat.reduceMul, regionN, N_own, N_ownP, N_P, N_keep, keep_u, ty_fieldOff_50_0, ty_szOf_22, ty_shapeT_22, ev_len_sl ty_descOf_22, ev_indexAddr ty_descOf_22, ty_szOf_38, ty_shapeT_38, ty_zeroCells_38, ev_slice_sl ty_descOf_22 ty_szOf_38, ty_isPtrT_70, ev_buildSlice (len := 1) ty_descOf_23 ty_szOf_40 ty_zeroCells_40 ⟨rfl, by decide, by decide⟩, ev_append ty_appInfo_23, ev_appNew_sl ty_descOf_23, hr]
      rw [exL_headN]
      simp only [go_sem, Nat.reduceLT, reduceIte, reduceCtorEq, Nat.reduceEqDiff, apply_ite (Option.map (outOf _)), Nat.reduceBEq, Nat.reduceAdd, Nat.reduceSub, Nat.reduceLeDiff, Nat.reduceMul, regionN, N_own, N_ownP, N_P, N_keep, keep_u, ty_fieldOff_50_0, ty_szOf_22, ty_shapeT_22, ev_len_sl ty_descOf_22, ev_indexAddr ty_descOf_22, ty_szOf_38, ty_shapeT_38, ty_zeroCells_38, ev_slice_sl ty_descOf_22 ty_szOf_38, ty_isPtrT_70, ev_buildSlice (len := 1) ty_descOf_23 ty_szOf_40 ty_zeroCells_40 ⟨rfl, by decide, by decide⟩, ev_append ty_appInfo_23, ev_appNew_sl ty_descOf_23]
      erw [w]
      simp only [go_sem, Nat.reduceLT, reduceIte, reduceCtorEq, Nat.reduceEqDiff, apply_ite (Option.map (outOf _)), Nat.reduceBEq, Nat.reduceAdd, Nat.reduceSub, Nat.reduceLeDiff, Nat.reduceMul, regionN, N_own, N_ownP, N_P, N_keep, keep_u, ty_fieldOff_50_0, ty_szOf_22, ty_shapeT_22, ev_len_sl ty_descOf_22, ev_indexAddr ty_descOf_22, ty_szOf_38, ty_shapeT_38, ty_zeroCells_38, ev_slice_sl ty_descOf_22 ty_szOf_38, ty_isPtrT_70, ev_buildSlice (len := 1) ty_descOf_23 ty_szOf_40 ty_zeroCells_40 ⟨rfl, by decide, by decide⟩, ev_append ty_appInfo_23, ev_appNew_sl ty_descOf_23, hr, hn, h7, hb, hb2]
    | inner k hk =>
      simp only [go_sem, Nat.reduceLT, reduceIte, reduceCtorEq, Nat.reduceEqDiff, apply_ite (Option.map (outOf _)), Nat.reduceBEq, Nat.reduceAdd, Nat.reduceSub, Nat.reduceLeDiff, Nat.reduceMul, regionN, N_own, N_ownP, N_P, N_keep, keep_u, ty_fieldOff_50_0, ty_szOf_22, ty_shapeT_22, ev_len_sl ty_descOf_22, ev_indexAddr ty_descOf_22, ty_szOf_38, ty_shapeT_38, ty_zeroCells_38, ev_slice_sl ty_descOf_22 ty_szOf_38, ty_isPtrT_70, ev_buildSlice (len := 1) ty_descOf_23 ty_szOf_40 ty_zeroCells_40 ⟨rfl, by decide, by decide⟩, ev_append ty_appInfo_23, ev_appNew_sl ty_descOf_23, hr]
      rw [exL_headN]
      simp only [go_sem, Nat.reduceLT, reduceIte, reduceCtorEq, Nat.reduceEqDiff, apply_ite (Option.map (outOf _)), Nat.reduceBEq, Nat.reduceAdd, Nat.reduceSub, Nat.reduceLeDiff, Nat.reduceMul, regionN, N_own, N_ownP, N_P, N_keep, keep_u, ty_fieldOff_50_0, ty_szOf_22, ty_shapeT_22, ev_len_sl ty_descOf_22, ev_indexAddr ty_descOf_22, ty_szOf_38, ty_shapeT_38, ty_zeroCells_38, ev_slice_sl ty_descOf_22 ty_szOf_38, ty_isPtrT_70, ev_buildSlice (len := 1) ty_descOf_23 ty_szOf_40 ty_zeroCells_40 ⟨rfl, by decide, by decide⟩, ev_append ty_appInfo_23, ev_appNew_sl ty_descOf_23]
      erw [w]
      simp only [go_sem, Nat.reduceLT, reduceIte, reduceCtorEq, Nat.reduceEqDiff, apply_ite (Option.map (outOf _)), Nat.reduceBEq, Nat.reduceAdd, Nat.reduceSub, Nat.reduceLeDiff, Nat.reduceMul, regionN, N_own, N_ownP, N_P, N_keep, keep_u, ty_fieldOff_50_0, ty_szOf_22, ty_shapeT_22, ev_len_sl ty_descOf_22, ev_indexAddr ty_descOf_22, ty_szOf_38, ty_shapeT_38, ty_zeroCells_38, ev_slice_sl ty_descOf_22 ty_szOf_38, ty_isPtrT_70, ev_buildSlice (len := 1) ty_descOf_23 ty_szOf_40 ty_zeroCells_40 ⟨rfl, by decide, by decide⟩, ev_append ty_appInfo_23, ev_appNew_sl ty_descOf_23, hr, hn, h7, hb, hb2]
  | none =>
    rw [hu] at hq
    obtain ⟨rfl, ⟨b, hb⟩, hb2⟩ := hq
    simp only
    refine den_runE rfl Tryd.func28 rfl Tryd.ntmps28 ⟨by simp, by simp [LK]⟩ ?_
    cases hk with
    | top =>
      simp only [go_sem, Nat.reduceLT, reduceIte, reduceCtorEq, Nat.reduceEqDiff, apply_ite (Option.map (outOf _)), Nat.reduceBEq, Nat.reduceAdd, Nat.reduceSub, Nat.reduceLeDiff, Nat.reduceMul, regionN, N_own, N_ownP, N_P, N_keep, keep_u, ty_fieldOff_50_0, ty_szOf_22, ty_shapeT_22, ev_len_sl ty_descOf_22, ev_indexAddr ty_descOf_22, ty_szOf_38, ty_shapeT_38, ty_zeroCells_38, ev_slice_sl ty_descOf_22 ty_szOf_38, ty_isPtrT_70, ev_buildSlice (len := 1) ty_descOf_23 ty_szOf_40 ty_zeroCells_40 ⟨rfl, by decide, by decide⟩, ev_append ty_appInfo_23, ev_appNew_sl ty_descOf_23, hr]
      rw [exL_headN]
      simp only [go_sem, Nat.reduceLT, reduceIte, reduceCtorEq, Nat.reduceEqDiff, apply_ite (Option.map (outOf _)), Nat.reduceBEq, Nat.reduceAdd, Nat.reduceSub, Nat.reduceLeDiff, Nat.reduceMul, regionN, N_own, N_ownP, N_P, N_keep, keep_u, ty_fieldOff_50_0, ty_szOf_22, ty_shapeT_22, ev_len_sl ty_descOf_22, ev_indexAddr ty_descOf_22, ty_szOf_38, ty_shapeT_38, ty_zeroCells_38, ev_slice_sl ty_descOf_22 ty_szOf_38, ty_isPtrT_70, ev_buildSlice (len := 1) ty_descOf_23 ty_szOf_40 ty_zeroCells_40 ⟨rfl, by decide, by decide⟩, ev_append ty_appInfo_23, ev_appNew_sl ty_descOf_23]
      erw [w]
      simp only [go_sem, Nat.reduceLT, reduceIte, reduceCtorEq, Nat.reduceEqDiff, apply_ite (Option.map (outOf _)), Nat.reduceBEq, Nat.reduceAdd, Nat.reduceSub, Nat.reduceLeDiff, Nat.reduceMul, regionN, N_own, N_ownP, N_P, N_keep, keep_u, ty_fieldOff_50_0, ty_szOf_22, ty_shapeT_22, ev_len_sl ty_descOf_22, ev_indexAddr ty_descOf_22, ty_szOf_38, ty_shapeT_38, ty_zeroCells_38, ev_slice_sl ty_descOf_22 ty_szOf_38, ty_isPtrT_70, ev_buildSlice (len := 1) ty_descOf_23 ty_szOf_40 ty_zeroCells_40 ⟨rfl, by decide, by decide⟩, ev_append ty_appInfo_23, ev_appNew_sl ty_descOf_23, hb, hb2]
      exact ⟨_, rfl⟩
    | inner k hk =>
      simp only [go_sem, Nat.reduceLT, reduceIte, reduceCtorEq, Nat.reduceEqDiff, apply_ite (Option.map (outOf _)), Nat.reduceBEq, Nat.reduceAdd, Nat.reduceSub, Nat.reduceLeDiff, Nat.reduceMul, regionN, N_own, N_ownP, N_P, N_keep, keep_u, ty_fieldOff_50_0, ty_szOf_22, ty_shapeT_22, ev_len_sl ty_descOf_22, ev_indexAddr ty_descOf_22, ty_szOf_38, ty_shapeT_38, ty_zeroCells_38, ev_slice_sl ty_descOf_22 ty_szOf_38, ty_isPtrT_70, ev_buildSlice (len := 1) ty_descOf_23 ty_szOf_40 ty_zeroCells_40 ⟨rfl, by decide, by decide⟩, ev_append ty_appInfo_23, ev_appNew_sl ty_descOf_23, hr]
      rw [exL_headN]
      simp only [go_sem, Nat.reduceLT, reduceIte, reduceCtorEq, Nat.reduceEqDiff, apply_ite (Option.map (outOf _)), Nat.reduceBEq, Nat.reduceAdd, Nat.reduceSub, Nat.reduceLeDiff, Nat.reduceMul, regionN, N_own, N_ownP, N_P, N_keep, keep_u, ty_fieldOff_50_0, ty_szOf_22, ty_shapeT_22, ev_len_sl ty_descOf_22, ev_indexAddr ty_descOf_22, ty_szOf_38, ty_shapeT_38, ty_zeroCells_38, ev_slice_sl ty_descOf_22 ty_szOf_38, ty_isPtrT_70, ev_buildSlice (len := 1) ty_descOf_23 ty_szOf_40 ty_zeroCells_40 ⟨rfl, by decide, by decide⟩, ev_append ty_appInfo_23, ev_appNew_sl ty_descOf_23]
      erw [w]
      simp only [go_sem, Nat.reduceLT, reduceIte, reduceCtorEq, Nat.reduceEqDiff, apply_ite (Option.map (outOf _)), Nat.reduceBEq, Nat.reduceAdd, Nat.reduceSub, Nat.reduceLeDiff, Nat.reduceMul, regionN, N_own, N_ownP, N_P, N_keep, keep_u, ty_fieldOff_50_0, ty_szOf_22, ty_shapeT_22, ev_len_sl ty_descOf_22, ev_indexAddr ty_descOf_22, ty_szOf_38, ty_shapeT_38, ty_zeroCells_38, ev_slice_sl ty_descOf_22 ty_szOf_38, ty_isPtrT_70, ev_buildSlice (len := 1) ty_descOf_23 ty_szOf_40 ty_zeroCells_40 ⟨rfl, by decide, by decide⟩, ev_append ty_appInfo_23, ev_appNew_sl ty_descOf_23, hb, hb2]
      exact ⟨_, rfl⟩

theorem kd_last {kind : Int} {ka : AV} {kb : Option (List CV)} {kl : List (List CV)} (hk : Kd kind ka kb kl) (t : Tok) :
    (kb = none ∧ ka = .c .nilp ∧ Ne.isLast kind t = false) ∨ (kb = some (closeA kind) ∧ ka = .c (.loc 100001 0) ∧
      Ne.isLast kind t = ((t.kind == 7) && ((t.text == [Ne.closeC kind]) && ((t.n == 0) && true)))) := by
  cases hk with
  | top => exact .inl ⟨rfl, rfl, Ne.last_zero t⟩
  | inner k h =>
    refine .inr ⟨rfl, rfl, ?_⟩
    have := tok_beq t (Ne.closeT kind)
    unfold Ne.isLast
    rw [decide_eq_true h, Bool.true_and, ← this]
    rfl


theorem u_nil {kind : Int} {left : Nat} {deep wi : Int} {ka : AV} {kb : Option (List CV)} {kl : List (List CV)} (hk : Kd kind ka kb kl) (e : Nat) (acc : List Val) :
    Ends (exL KN 28 ulp (uH [] deep wi ka kb e acc)) (ULoop [] kind left deep wi ka kb acc) := by
  unfold ULoop
  rw [Ne.until_nil]
  unfold ulp
  have e00 : decide ((0 : Int) < ((0 : Nat) : Int)) = false := by decide
  conv in loopAt _ _ => whnf
  rw [exL_loop]
  cases hk with
  | top =>
    simp only [go_sem, Nat.reduceLT, reduceIte, reduceCtorEq, Nat.reduceEqDiff, apply_ite (Option.map (outOf _)), Nat.reduceBEq, Nat.reduceAdd, Nat.reduceSub, Nat.reduceLeDiff, Nat.reduceMul, regionN, N_own, N_ownP, N_P, N_keep, keep_u, ty_fieldOff_50_0, ty_szOf_22, ty_shapeT_22, ev_len_sl ty_descOf_22, ev_indexAddr ty_descOf_22, ty_szOf_38, ty_shapeT_38, ty_zeroCells_38, ev_slice_sl ty_descOf_22 ty_szOf_38, ty_isPtrT_70, ev_buildSlice (len := 1) ty_descOf_23 ty_szOf_40 ty_zeroCells_40 ⟨rfl, by decide, by decide⟩, ev_append ty_appInfo_23, ev_appNew_sl ty_descOf_23, ends_some, e00]
    exact ⟨⟨e, rfl⟩, rfl⟩
  | inner k h =>
    simp only [go_sem, Nat.reduceLT, reduceIte, reduceCtorEq, Nat.reduceEqDiff, apply_ite (Option.map (outOf _)), Nat.reduceBEq, Nat.reduceAdd, Nat.reduceSub, Nat.reduceLeDiff, Nat.reduceMul, regionN, N_own, N_ownP, N_P, N_keep, keep_u, ty_fieldOff_50_0, ty_szOf_22, ty_shapeT_22, ev_len_sl ty_descOf_22, ev_indexAddr ty_descOf_22, ty_szOf_38, ty_shapeT_38, ty_zeroCells_38, ev_slice_sl ty_descOf_22 ty_szOf_38, ty_isPtrT_70, ev_buildSlice (len := 1) ty_descOf_23 ty_szOf_40 ty_zeroCells_40 ⟨rfl, by decide, by decide⟩, ev_append ty_appInfo_23, ev_appNew_sl ty_descOf_23, ends_some, e00]
    exact ⟨⟨e, rfl⟩, rfl⟩

theorem u_last {t : Tok} {l : List Tok} {kind : Int} {left : Nat} {deep wi : Int} {ka : AV} {kb : Option (List CV)} {kl : List (List CV)} (hk : Kd kind ka kb kl) (h : Ne.isLast kind t = true) (e : Nat) (acc : List Val) :
    Ends (exL KN 28 ulp (uH (t :: l) deep wi ka kb e acc)) (ULoop (t :: l) kind left deep wi ka kb acc) := by
  have e0 : (t :: l).map Tok.enc = [.int .i64 t.kind, .str t.text, .int .i64 t.n] :: l.map Tok.enc := rfl
  have hlt : decide ((0 : Int) < ((l.length + 1 : Nat) : Int)) = true := decide_eq_true (by omega)
  have htk : (l.map Tok.enc).take l.length = l.map Tok.enc := List.take_of_length_le (by simp)
  have h01 : (0 : Int) ≤ 1 := by decide
  have h1l : (1 : Int) ≤ ((l.length + 1 : Nat) : Int) := by omega
  have hlens : lens 3 ([.int .i64 t.kind, .str t.text, .int .i64 t.n] :: l.map Tok.enc) = true := lens_toks (t :: l)
  have hu := Ne.until_cons kind left t l
  rw [h, if_pos rfl] at hu
  unfold ULoop
  rw [hu]
  have heq := tok_eq t.kind 7 t.n 0 t.text [Ne.closeC kind]
  have hkd := kd_last hk t
  rw [h] at hkd
  rcases hkd with ⟨_, _, hf⟩ | ⟨rfl, rfl, hf⟩
  · cases hf
  · rw [← hf] at heq
    unfold ulp
    conv in loopAt _ _ => whnf
    rw [exL_loop]
    simp only [go_sem, Nat.reduceLT, reduceIte, reduceCtorEq, Nat.reduceEqDiff, apply_ite (Option.map (outOf _)), Nat.reduceBEq, Nat.reduceAdd, Nat.reduceSub, Nat.reduceLeDiff, Nat.reduceMul, regionN, N_own, N_ownP, N_P, N_keep, keep_u, ty_fieldOff_50_0, ty_szOf_22, ty_shapeT_22, ev_len_sl ty_descOf_22, ev_indexAddr ty_descOf_22, ty_szOf_38, ty_shapeT_38, ty_zeroCells_38, ev_slice_sl ty_descOf_22 ty_szOf_38, ty_isPtrT_70, ev_buildSlice (len := 1) ty_descOf_23 ty_szOf_40 ty_zeroCells_40 ⟨rfl, by decide, by decide⟩, ev_append ty_appInfo_23, ev_appNew_sl ty_descOf_23, ends_some, e0, hlt, hlens, htk, h01, h1l, Int.le_refl, Int.toNat_zero, Int.toNat_one, heq]
    exact ⟨e, rfl⟩

theorem u_step {t : Tok} {l rest : List Tok} {kind : Int} {deep wi : Int} {ka : AV} {kb : Option (List CV)} {kl : List (List CV)} (hk : Kd kind ka kb kl) (h : Ne.isLast kind t = false) (e : Nat) (acc acc' : List Val)
    (he : e = 40 ∨ acc = []) (hacc : acc.length < 1000000) {a b c d : PV} {z : CV} {x : List (List PV)} (hz : (z = .nils ∧ x = []) ∨ z = .pv (.sl x)) (henc : encL acc' = encL acc ++ [[a, b, c, d, .sl x]])
    (hone : den KN 43 [P0, .agg (tokA t), I wi] [rdr l deep] = some (.ret (.agg [.pv a, .pv b, .pv c, .pv d, z]) [rdr rest deep])) :
    exL KN 28 ulp (uH (t :: l) deep wi ka kb e acc) = exL KN 28 ulp (uH rest deep wi ka kb 40 acc') := by
  have e0 : (t :: l).map Tok.enc = [.int .i64 t.kind, .str t.text, .int .i64 t.n] :: l.map Tok.enc := rfl
  have hlt : decide ((0 : Int) < ((l.length + 1 : Nat) : Int)) = true := decide_eq_true (by omega)
  have htk : (l.map Tok.enc).take l.length = l.map Tok.enc := List.take_of_length_le (by simp)
  have h01 : (0 : Int) ≤ 1 := by decide
  have h1l : (1 : Int) ≤ ((l.length + 1 : Nat) : Int) := by omega
  have hlens : lens 3 ([.int .i64 t.kind, .str t.text, .int .i64 t.n] :: l.map Tok.enc) = true := lens_toks (t :: l)
  have heq := tok_eq t.kind 7 t.n 0 t.text [Ne.closeC kind]
  have hkd := kd_last hk t
  rw [h] at hkd
  have hown : e = 40 ∨ (encL acc).isEmpty = true := by
    rcases he with rfl | rfl
    · exact .inl rfl
    · exact .inr rfl
  have hlim : acc.length + 1 < appLim := by unfold appLim; omega
  have hlv := lens_vals acc
  unfold ulp
  conv in loopAt _ _ => whnf
  conv in loopAt _ _ => whnf
  conv => lhs; rw [exL_loop]
  symm at henc
  rcases hkd with ⟨rfl, rfl, hf⟩ | ⟨rfl, rfl, hf⟩
  · rcases hz with ⟨rfl, rfl⟩ | rfl
    · simp only [go_sem, Nat.reduceLT, reduceIte, reduceCtorEq, Nat.reduceEqDiff, apply_ite (Option.map (outOf _)), Nat.reduceBEq, Nat.reduceAdd, Nat.reduceSub, Nat.reduceLeDiff, Nat.reduceMul, regionN, N_own, N_ownP, N_P, N_keep, keep_u, ty_fieldOff_50_0, ty_szOf_22, ty_shapeT_22, ev_len_sl ty_descOf_22, ev_indexAddr ty_descOf_22, ty_szOf_38, ty_shapeT_38, ty_zeroCells_38, ev_slice_sl ty_descOf_22 ty_szOf_38, ty_isPtrT_70, ev_buildSlice (len := 1) ty_descOf_23 ty_szOf_40 ty_zeroCells_40 ⟨rfl, by decide, by decide⟩, ev_append ty_appInfo_23, ev_appNew_sl ty_descOf_23, e0, hlt, hlens, htk, h01, h1l, Int.le_refl, Int.toNat_zero, Int.toNat_one, heq, hone, good_1, encL_len, hlim, hlv, lens_val, hown, henc]
      rw [exL_headN]
      simp only [go_sem, Nat.reduceLT, reduceIte, reduceCtorEq, Nat.reduceEqDiff, apply_ite (Option.map (outOf _)), Nat.reduceBEq, Nat.reduceAdd, Nat.reduceSub, Nat.reduceLeDiff, Nat.reduceMul, regionN, N_own, N_ownP, N_P, N_keep, keep_u, ty_fieldOff_50_0, ty_szOf_22, ty_shapeT_22, ev_len_sl ty_descOf_22, ev_indexAddr ty_descOf_22, ty_szOf_38, ty_shapeT_38, ty_zeroCells_38, ev_slice_sl ty_descOf_22 ty_szOf_38, ty_isPtrT_70, ev_buildSlice (len := 1) ty_descOf_23 ty_szOf_40 ty_zeroCells_40 ⟨rfl, by decide, by decide⟩, ev_append ty_appInfo_23, ev_appNew_sl ty_descOf_23]
    · simp only [go_sem, Nat.reduceLT, reduceIte, reduceCtorEq, Nat.reduceEqDiff, apply_ite (Option.map (outOf _)), Nat.reduceBEq, Nat.reduceAdd, Nat.reduceSub, Nat.reduceLeDiff, Nat.reduceMul, regionN, N_own, N_ownP, N_P, N_keep, keep_u, ty_fieldOff_50_0, ty_szOf_22, ty_shapeT_22, ev_len_sl ty_descOf_22, ev_indexAddr ty_descOf_22, ty_szOf_38, ty_shapeT_38, ty_zeroCells_38, ev_slice_sl ty_descOf_22 ty_szOf_38, ty_isPtrT_70, ev_buildSlice (len := 1) ty_descOf_23 ty_szOf_40 ty_zeroCells_40 ⟨rfl, by decide, by decide⟩, ev_append ty_appInfo_23, ev_appNew_sl ty_descOf_23, e0, hlt, hlens, htk, h01, h1l, Int.le_refl, Int.toNat_zero, Int.toNat_one, heq, hone, good_1, encL_len, hlim, hlv, lens_val, hown, henc]
      rw [exL_headN]
      simp only [go_sem, Nat.reduceLT, reduceIte, reduceCtorEq, Nat.reduceEqDiff, apply_ite (Option.map (outOf _)), Nat.reduceBEq, Nat.reduceAdd, Nat.reduceSub, Nat.reduceLeDiff, Nat.reduceMul, regionN, N_own, N_ownP, N_P, N_keep, keep_u, ty_fieldOff_50_0, ty_szOf_22, ty_shapeT_22, ev_len_sl ty_descOf_22, ev_indexAddr ty_descOf_22, ty_szOf_38, ty_shapeT_38, ty_zeroCells_38, ev_slice_sl ty_descOf_22 ty_szOf_38, ty_isPtrT_70, ev_buildSlice (len := 1) ty_descOf_23 ty_szOf_40 ty_zeroCells_40 ⟨rfl, by decide, by decide⟩, ev_append ty_appInfo_23, ev_appNew_sl ty_descOf_23]
  · rw [← hf] at heq
    rcases hz with ⟨rfl, rfl⟩ | rfl
    · simp only [go_sem, Nat.reduceLT, reduceIte, reduceCtorEq, Nat.reduceEqDiff, apply_ite (Option.map (outOf _)), Nat.reduceBEq, Nat.reduceAdd, Nat.reduceSub, Nat.reduceLeDiff, Nat.reduceMul, regionN, N_own, N_ownP, N_P, N_keep, keep_u, ty_fieldOff_50_0, ty_szOf_22, ty_shapeT_22, ev_len_sl ty_descOf_22, ev_indexAddr ty_descOf_22, ty_szOf_38, ty_shapeT_38, ty_zeroCells_38, ev_slice_sl ty_descOf_22 ty_szOf_38, ty_isPtrT_70, ev_buildSlice (len := 1) ty_descOf_23 ty_szOf_40 ty_zeroCells_40 ⟨rfl, by decide, by decide⟩, ev_append ty_appInfo_23, ev_appNew_sl ty_descOf_23, e0, hlt, hlens, htk, h01, h1l, Int.le_refl, Int.toNat_zero, Int.toNat_one, heq, hone, good_1, encL_len, hlim, hlv, lens_val, hown, henc]
      rw [exL_headN]
      simp only [go_sem, Nat.reduceLT, reduceIte, reduceCtorEq, Nat.reduceEqDiff, apply_ite (Option.map (outOf _)), Nat.reduceBEq, Nat.reduceAdd, Nat.reduceSub, Nat.reduceLeDiff, Nat.reduceMul, regionN, N_own, N_ownP, N_P, N_keep, keep_u, ty_fieldOff_50_0, ty_szOf_22, ty_shapeT_22, ev_len_sl ty_descOf_22, ev_indexAddr ty_descOf_22, ty_szOf_38, ty_shapeT_38, ty_zeroCells_38, ev_slice_sl ty_descOf_22 ty_szOf_38, ty_isPtrT_70, ev_buildSlice (len := 1) ty_descOf_23 ty_szOf_40 ty_zeroCells_40 ⟨rfl, by decide, by decide⟩, ev_append ty_appInfo_23, ev_appNew_sl ty_descOf_23]
    · simp only [go_sem, Nat.reduceLT, reduceIte, reduceCtorEq, Nat.reduceEqDiff, apply_ite (Option.map (outOf _)), Nat.reduceBEq, Nat.reduceAdd, Nat.reduceSub, Nat.reduceLeDiff, Nat.reduceMul, regionN, N_own, N_ownP, N_P, N_keep, keep_u, ty_fieldOff_50_0, ty_szOf_22, ty_shapeT_22, ev_len_sl ty_descOf_22, ev_indexAddr ty_descOf_22, ty_szOf_38, ty_shapeT_38, ty_zeroCells_38, ev_slice_sl ty_descOf_22 ty_szOf_38, ty_isPtrT_70, ev_buildSlice (len := 1) ty_descOf_23 ty_szOf_40 ty_zeroCells_40 ⟨rfl, by decide, by decide⟩, ev_append ty_appInfo_23, ev_appNew_sl ty_descOf_23, e0, hlt, hlens, htk, h01, h1l, Int.le_refl, Int.toNat_zero, Int.toNat_one, heq, hone, good_1, encL_len, hlim, hlv, lens_val, hown, henc]
      rw [exL_headN]
      simp only [go_sem, Nat.reduceLT, reduceIte, reduceCtorEq, Nat.reduceEqDiff, apply_ite (Option.map (outOf _)), Nat.reduceBEq, Nat.reduceAdd, Nat.reduceSub, Nat.reduceLeDiff, Nat.reduceMul, regionN, N_own, N_ownP, N_P, N_keep, keep_u, ty_fieldOff_50_0, ty_szOf_22, ty_shapeT_22, ev_len_sl ty_descOf_22, ev_indexAddr ty_descOf_22, ty_szOf_38, ty_shapeT_38, ty_zeroCells_38, ev_slice_sl ty_descOf_22 ty_szOf_38, ty_isPtrT_70, ev_buildSlice (len := 1) ty_descOf_23 ty_szOf_40 ty_zeroCells_40 ⟨rfl, by decide, by decide⟩, ev_append ty_appInfo_23, ev_appNew_sl ty_descOf_23]

theorem u_stop {t : Tok} {l : List Tok} {kind : Int} {deep wi : Int} {ka : AV} {kb : Option (List CV)} {kl : List (List CV)} (hk : Kd kind ka kb kl) (h : Ne.isLast kind t = false) (e : Nat) (acc : List Val) {b : List CV}
    (hone : den KN 43 [P0, .agg (tokA t), I wi] [rdr l deep] = some (.pan errD [b])) :
    Ends (exL KN 28 ulp (uH (t :: l) deep wi ka kb e acc)) fun o S => o = .pan errD ∧ (∃ b, S.bx 100000 = some b) ∧ S.bx 100001 = kb := by
  have e0 : (t :: l).map Tok.enc = [.int .i64 t.kind, .str t.text, .int .i64 t.n] :: l.map Tok.enc := rfl
  have hlt : decide ((0 : Int) < ((l.length + 1 : Nat) : Int)) = true := decide_eq_true (by omega)
  have htk : (l.map Tok.enc).take l.length = l.map Tok.enc := List.take_of_length_le (by simp)
  have h01 : (0 : Int) ≤ 1 := by decide
  have h1l : (1 : Int) ≤ ((l.length + 1 : Nat) : Int) := by omega
  have hlens : lens 3 ([.int .i64 t.kind, .str t.text, .int .i64 t.n] :: l.map Tok.enc) = true := lens_toks (t :: l)
  have heq := tok_eq t.kind 7 t.n 0 t.text [Ne.closeC kind]
  have hkd := kd_last hk t
  rw [h] at hkd
  unfold ulp
  conv in loopAt _ _ => whnf
  rw [exL_loop]
  rcases hkd with ⟨rfl, rfl, hf⟩ | ⟨rfl, rfl, hf⟩
  · simp only [go_sem, Nat.reduceLT, reduceIte, reduceCtorEq, Nat.reduceEqDiff, apply_ite (Option.map (outOf _)), Nat.reduceBEq, Nat.reduceAdd, Nat.reduceSub, Nat.reduceLeDiff, Nat.reduceMul, regionN, N_own, N_ownP, N_P, N_keep, keep_u, ty_fieldOff_50_0, ty_szOf_22, ty_shapeT_22, ev_len_sl ty_descOf_22, ev_indexAddr ty_descOf_22, ty_szOf_38, ty_shapeT_38, ty_zeroCells_38, ev_slice_sl ty_descOf_22 ty_szOf_38, ty_isPtrT_70, ev_buildSlice (len := 1) ty_descOf_23 ty_szOf_40 ty_zeroCells_40 ⟨rfl, by decide, by decide⟩, ev_append ty_appInfo_23, ev_appNew_sl ty_descOf_23, e0, hlt, hlens, htk, h01, h1l, Int.le_refl, Int.toNat_zero, Int.toNat_one, heq, hone, good_1, ends_some]
    exact ⟨_, rfl⟩
  · rw [← hf] at heq
    simp only [go_sem, Nat.reduceLT, reduceIte, reduceCtorEq, Nat.reduceEqDiff, apply_ite (Option.map (outOf _)), Nat.reduceBEq, Nat.reduceAdd, Nat.reduceSub, Nat.reduceLeDiff, Nat.reduceMul, regionN, N_own, N_ownP, N_P, N_keep, keep_u, ty_fieldOff_50_0, ty_szOf_22, ty_shapeT_22, ev_len_sl ty_descOf_22, ev_indexAddr ty_descOf_22, ty_szOf_38, ty_shapeT_38, ty_zeroCells_38, ev_slice_sl ty_descOf_22 ty_szOf_38, ty_isPtrT_70, ev_buildSlice (len := 1) ty_descOf_23 ty_szOf_40 ty_zeroCells_40 ⟨rfl, by decide, by decide⟩, ev_append ty_appInfo_23, ev_appNew_sl ty_descOf_23, e0, hlt, hlens, htk, h01, h1l, Int.le_refl, Int.toNat_zero, Int.toNat_one, heq, hone, good_1, ends_some]
    exact ⟨_, rfl⟩

theorem enc_snoc (acc : List Val) (k : Int) (t : Tok) (vs : List Val) : encL (acc ++ [.mk k t vs]) = encL acc ++ [[.int .i64 k, .int .i64 t.kind, .str t.text, .int .i64 t.n, .sl (encL vs)]] := by
  rw [encL_app]; rfl

theorem opens_pos {t : Tok} (h : Ne.opens t ≠ 0) : 0 < Ne.opens t := by
  rcases Ne.opens_vals t with h1 | h1 | h1 | h1 | h1 <;> omega

theorem u_loop (deep : Int) (hd : deep < 1000) : ∀ (m : Nat) (l : List Tok), l.length ≤ m → ∀ (kind : Int) (left : Nat) (wi : Int) (ka : AV) (kb : Option (List CV)) (kl : List (List CV)), Kd kind ka kb kl → wi + left = deep → 0 ≤ wi →
    ∀ (e : Nat) (acc : List Val), acc.length + l.length ≤ 1000000 → (e = 40 ∨ acc = []) →
    Ends (exL KN 28 ulp (uH l deep wi ka kb e acc)) (ULoop l kind left deep wi ka kb acc) := by
  intro m
  induction m with
  | zero =>
    intro l hl kind left wi ka kb kl hk hw hw0 e acc hacc he
    obtain rfl : l = [] := List.eq_nil_of_length_eq_zero (by omega)
    exact u_nil hk e acc
  | succ m ih =>
    intro l hl kind left wi ka kb kl hk hw hw0 e acc hacc he
    cases l with
    | nil => exact u_nil hk e acc
    | cons t l =>
      rw [List.length_cons] at hl hacc
      have hu := Ne.until_cons kind left t l
      cases hb : Ne.isLast kind t with
      | true => exact u_last hk hb e acc
      | false =>
        rw [hb, if_neg (by simp)] at hu
        by_cases h0 : Ne.opens t = 0
        · rw [if_pos h0] at hu
          have hs := u_step hk hb e acc (acc ++ [.mk 1 t []]) he (by omega) (.inl ⟨rfl, rfl⟩) (enc_snoc acc 1 t []) (one_tok t l deep wi h0)
          rw [hs]
          have hlen2 : (acc ++ [Val.mk 1 t []]).length + l.length ≤ 1000000 := by rw [List.length_append, List.length_singleton]; omega
          have hll : l.length ≤ m := by omega
          have hi := ih l hll kind left wi ka kb kl hk hw hw0 40 (acc ++ [.mk 1 t []]) hlen2 (Or.inl rfl)
          refine ends_imp hi fun o S q => ?_
          unfold ULoop at q ⊢
          rw [hu]
          cases hv : Ne.until_ kind left l with
          | none => rw [hv] at q; exact q
          | some x =>
            rw [hv] at q
            obtain ⟨q1, q2, ⟨e', q3⟩, q4⟩ := q
            exact ⟨q1, q2, ⟨e', by rw [q3, List.append_assoc]; rfl⟩, q4⟩
        · rw [if_neg h0] at hu
          cases left with
          | zero =>
            refine ends_imp (u_stop hk hb e acc (one_deep t l deep wi h0 (by omega))) fun o S q => ?_
            unfold ULoop
            rw [hu]
            exact q
          | succ n =>
            have hpos := opens_pos h0
            have hll : l.length ≤ m := by omega
            have hlen0 : ([] : List Val).length + l.length ≤ 1000000 := by rw [List.length_nil]; omega
            have hw1 : wi + 1 + (n : Int) = deep := by omega
            have hi0 := ih l hll (Ne.opens t) n (wi + 1) _ _ _ (.inner (Ne.opens t) hpos) hw1 (by omega) 0 [] hlen0 (Or.inr rfl)
            have hin := u_den (left := n) (.inner (Ne.opens t) hpos) hi0
            unfold UDen at hin
            simp only at hu
            cases hv : Ne.until_ (Ne.opens t) n l with
            | none =>
              rw [hv] at hin hu
              obtain ⟨b, hin⟩ := hin
              obtain ⟨b', ho⟩ := one_pan t l deep wi _ _ h0 (by omega) ⟨hw0, hd⟩ hin
              refine ends_imp (u_stop hk hb e acc ho) fun o S q => ?_
              unfold ULoop
              rw [hu]
              exact q
            | some x =>
              obtain ⟨vs, rest⟩ := x
              rw [hv] at hin hu
              have ho := one_in t l rest vs deep wi h0 (by omega) ⟨hw0, hd⟩ hin
              have hlen := Ne.until_len hv
              have hs := u_step hk hb e acc (acc ++ [.mk (Ne.opens t) (if Ne.opens t = 5 then t else Ne.tok0) vs]) he (by omega) (.inr rfl) (enc_snoc acc (Ne.opens t) _ vs) ho
              rw [hs]
              simp only at hlen hu
              have hlen2 : (acc ++ [Val.mk (Ne.opens t) (if Ne.opens t = 5 then t else Ne.tok0) vs]).length + rest.length ≤ 1000000 := by rw [List.length_append, List.length_singleton]; omega
              have hll : rest.length ≤ m := by omega
              have hi := ih rest hll kind (n + 1) wi ka kb kl hk hw hw0 40 (acc ++ [.mk (Ne.opens t) (if Ne.opens t = 5 then t else Ne.tok0) vs]) hlen2 (Or.inl rfl)
              refine ends_imp hi fun o S q => ?_
              unfold ULoop at q ⊢
              rw [hu]
              cases hv2 : Ne.until_ kind (n + 1) rest with
              | none => rw [hv2] at q; exact q
              | some x =>
                rw [hv2] at q
                obtain ⟨q1, q2, ⟨e', q3⟩, q4⟩ := q
                exact ⟨q1, q2, ⟨e', by rw [q3, List.append_assoc]; rfl⟩, q4⟩

/-- WHAT THE READER ANSWERS, ASKED FOR ALL -/
theorem until_all (l : List Tok) (hl : l.length ≤ 1000000) (deep : Nat) (hd : deep < 1000) : UDen l 0 deep deep 0 (.c .nilp) [] :=
  u_den .top (u_loop deep (by omega) l.length l (Nat.le_refl _) 0 deep 0 _ _ _ .top (by omega) (by omega) 0 [] (by rw [List.length_nil]; omega) (.inr rfl))
end Go.Abs.NR

namespace Go.Abs
open Go Go.Proofs Go.RowKit

/-! ### the walk -/

theorem frozen_of_heap {w : World} {b : Nat} {cs : Array Value} {ty : TypeId} (h : w.heap[b]? = some (.cells cs ty (0, 0))) (o : Nat) : w.frozen? ⟨b, o, none⟩ = false := by
  unfold World.frozen?
  rw [h]
  simp
theorem heap_set_other (w : World) (a : Addr) (v : Value) {b : Nat} (h : b ≠ a.block) : (w.setCell a v).heap[b]? = w.heap[b]? := by
  simp only [World.setCell, Array.getElem?_modify]
  rw [if_neg (by omega)]

set_option maxRecDepth 100000 in
set_option maxHeartbeats 4000000 in
theorem catch_panicking (bp be : Nat) (older : List PanicEntry) (w : World) (x y : Value) (tp te : TypeId) (hne : bp ≠ be) (h1 : w.heap[bp]? = some (.cells #[x] tp (0, 0))) (h2 : w.heap[be]? = some (.cells #[y] te (0, 0))) :
    CallsD Tryd.prog 27 #[.pointer (some ⟨bp, 0, none⟩), .pointer (some ⟨be, 0, none⟩)] (.panicking ({ v := .iface 46 (.agg #[]), recovered := false } :: older)) w fun e u' w' =>
      e = .returned (.tuple #[]) ∧ u' = .panicking ({ v := .iface 46 (.agg #[]), recovered := true } :: older) ∧
        w' = ((w.alloc (.cells #[] 46)).setCell ⟨bp, 0, none⟩ (.slice none 0 0)).setCell ⟨be, 0, none⟩ (.int .i64 20) := by
  have hta : ∀ w : World, (Instr.typeAssert (.iface 46 (.agg #[])) 20 46 true).run Tryd.prog w = .ok (.tuple #[.agg #[], .bool true]) w := fun _ => by kernel_rfl
  have k1 : (w.alloc (.cells #[] 46)).heap[bp]? = some (.cells #[x] tp (0, 0)) := (heap_old w _ bp (Array.getElem?_eq_some_iff.1 h1).1).trans h1
  have k2 : (w.alloc (.cells #[] 46)).heap[be]? = some (.cells #[y] te (0, 0)) := (heap_old w _ be (Array.getElem?_eq_some_iff.1 h2).1).trans h2
  have k3 : ((w.alloc (.cells #[] 46)).setCell ⟨bp, 0, none⟩ (.slice none 0 0)).heap[be]? = some (.cells #[y] te (0, 0)) := (heap_set_other _ _ _ (by simpa using hne.symm)).trans k2
  have c1 : (w.alloc (.cells #[] 46)).cell? ⟨bp, 0, none⟩ = some x := cell_of_heap k1 0
  have f1 := frozen_of_heap k1 0
  have c3 : ((w.alloc (.cells #[] 46)).setCell ⟨bp, 0, none⟩ (.slice none 0 0)).cell? ⟨be, 0, none⟩ = some y := cell_of_heap k3 0
  have f3 := frozen_of_heap k3 0
  clear k1 k2 k3 h1 h2 hne
  refine callsD_of_wpS Tryd.func27 rfl fun c₀ cs hu => ?_
  apply wpS_seq
  apply wpS_region
  simp [wpOpsS, go_sem, recoverD, hu, Tryd.ntmps27, Exit.thenS]
  refine wpS_of_wp ?_
  go_wp2
  simp [bodyPostS, results, Tryd.results27]

theorem catch_idle (pv pe : Addr) (w : World) :
    CallsD Tryd.prog 27 #[.pointer (some pv), .pointer (some pe)] .returning w fun e u' w' => e = .returned (.tuple #[]) ∧ u' = .returning ∧ w' = w := by
  refine callsD_of_wpS Tryd.func27 rfl fun c₀ cs hu => ?_
  apply wpS_seq
  apply wpS_region
  simp [wpOpsS, go_sem, recoverD, hu, Tryd.ntmps27, Exit.thenS]
  refine wpS_of_wp ?_
  go_wp2
  cases c₀
  simp_all [bodyPostS, results, Tryd.results27]

abbrev slV : Obj := .cells #[.slice none 0 0] 23
abbrev inE : Obj := .cells #[.int .i64 0] 27
abbrev rdO (x : Value) (deep : Int) : Obj := .cells #[x, .int .i64 deep] 50

set_option maxRecDepth 100000 in
set_option maxHeartbeats 4000000 in
theorem parse_no (x : Value) (deep : Int) (w : World) (hd : deep < 1 ∨ 60 < deep) :
    Calls Tryd.prog 11 #[x, .int .i64 deep] w fun e w' => e = .returned (.tuple #[.slice none 0 0, .int .i64 1]) ∧
      w' = (w.alloc (.cells #[.slice none 0 0] 23)).alloc (.cells #[.int .i64 1] 27) := by
  have hmf : ∀ (fn : Fn) (first cap : Array Value) (w : World), (Instr.makeFunc fn first cap).run Tryd.prog w = .ok (.func fn first cap) w := fun _ _ _ _ => rfl
  go_enter_defers Tryd.func11, Tryd.ntmps11
  go_wp2
  all_goals simp [bodyPostD, Leaves, results, Tryd.results11, go_sem]

set_option maxRecDepth 100000 in
set_option maxHeartbeats 4000000 in
theorem parse_yes (pa : Option Addr) (pn pc : Nat) (deep : Int) (w : World) (hd : ¬ deep < 1) (hd2 : ¬ 60 < deep) (Qr : Option Addr → Nat → Nat → World → Prop) (Qp : World → Prop)
    (hu : Calls Tryd.prog 28 #[.pointer (some ⟨w.heap.size + 2, 0, none⟩), .pointer none, .int .i64 0] (((w.alloc slV).alloc inE).alloc (rdO (.slice pa pn pc) deep)) fun e w' =>
      w'.heap[w.heap.size]? = some slV ∧ w'.heap[w.heap.size + 1]? = some inE ∧ ((∃ va vn vc, e = .returned (.slice va vn vc) ∧ Qr va vn vc w') ∨ (e = .panicked [{ v := .iface 46 (.agg #[]), recovered := false }] ∧ Qp w'))) :
    Calls Tryd.prog 11 #[.slice pa pn pc, .int .i64 deep] w fun e w'' =>
      (∃ va vn vc w', Qr va vn vc w' ∧ e = .returned (.tuple #[.slice va vn vc, .int .i64 0]) ∧ w'' = (w'.setCell ⟨w.heap.size, 0, none⟩ (.slice va vn vc)).setCell ⟨w.heap.size + 1, 0, none⟩ (.int .i64 0)) ∨
      (∃ w', Qp w' ∧ e = .returned (.tuple #[.slice none 0 0, .int .i64 20]) ∧ w'' = ((w'.alloc (.cells #[] 46)).setCell ⟨w.heap.size, 0, none⟩ (.slice none 0 0)).setCell ⟨w.heap.size + 1, 0, none⟩ (.int .i64 20)) := by
  have hmf : ∀ (fn : Fn) (first cap : Array Value) (w : World), (Instr.makeFunc fn first cap).run Tryd.prog w = .ok (.func fn first cap) w := fun _ _ _ _ => rfl
  go_enter_defers Tryd.func11, Tryd.ntmps11
  go_wp2_with (go_at_call 28; refine hu.mono ?_)
  intro e w' k1 k2 hq
  have c1 : w'.cell? ⟨w.heap.size, 0, none⟩ = some (.slice none 0 0) := cell_of_heap k1 0
  have f1 := frozen_of_heap k1 0
  rcases hq with ⟨va, vn, vc, rfl, hq⟩ | ⟨rfl, hq⟩
  · have k3 : (w'.setCell ⟨w.heap.size, 0, none⟩ (.slice va vn vc)).heap[w.heap.size + 1]? = some inE := (heap_set_other _ _ _ (by simp)).trans k2
    have c3 : (w'.setCell ⟨w.heap.size, 0, none⟩ (.slice va vn vc)).cell? ⟨w.heap.size + 1, 0, none⟩ = some (.int .i64 0) := cell_of_heap k3 0
    have f3 := frozen_of_heap k3 0
    go_wp2
    refine leaves_cons (f := 27) (args := #[.pointer (some ⟨w.heap.size, 0, none⟩), .pointer (some ⟨w.heap.size + 1, 0, none⟩)]) (by simp) (by simp [go_sem]) ?_
    refine (catch_idle _ _ _).mono ?_
    rintro e u' w'' ⟨rfl, rfl, rfl⟩
    have e1 : ((w'.setCell ⟨w.heap.size, 0, none⟩ (.slice va vn vc)).setCell ⟨w.heap.size + 1, 0, none⟩ (.int .i64 0)).cell? ⟨w.heap.size, 0, none⟩ = some (.slice va vn vc) := by
      rw [World.cell?_setCell_other _ _ _ _ (by simp)]
      exact World.cell?_setCell_same _ _ _ c1
    have e2 : ((w'.setCell ⟨w.heap.size, 0, none⟩ (.slice va vn vc)).setCell ⟨w.heap.size + 1, 0, none⟩ (.int .i64 0)).cell? ⟨w.heap.size + 1, 0, none⟩ = some (.int .i64 0) := World.cell?_setCell_same _ _ _ c3
    refine ⟨.tuple #[.slice va vn vc, .int .i64 0], ?_, .inl ⟨va, vn, vc, w', hq, rfl, rfl⟩⟩
    simp [results, Tryd.results11, go_sem, e1, e2]
  · go_wp2
    refine leaves_cons (f := 27) (args := #[.pointer (some ⟨w.heap.size, 0, none⟩), .pointer (some ⟨w.heap.size + 1, 0, none⟩)]) (by simp) (by simp [go_sem]) ?_
    refine (catch_panicking _ _ [] _ _ _ _ _ (by simp) k1 k2).mono ?_
    rintro e u' w'' ⟨rfl, rfl, rfl⟩
    have g1 : (w'.alloc (.cells #[] 46)).heap[w.heap.size]? = some slV := (heap_old w' _ _ (Array.getElem?_eq_some_iff.1 k1).1).trans k1
    have g2 : (w'.alloc (.cells #[] 46)).heap[w.heap.size + 1]? = some inE := (heap_old w' _ _ (Array.getElem?_eq_some_iff.1 k2).1).trans k2
    have k3 : ((w'.alloc (.cells #[] 46)).setCell ⟨w.heap.size, 0, none⟩ (.slice none 0 0)).heap[w.heap.size + 1]? = some inE := (heap_set_other _ _ _ (by simp)).trans g2
    have d1 : (w'.alloc (.cells #[] 46)).cell? ⟨w.heap.size, 0, none⟩ = some (.slice none 0 0) := cell_of_heap g1 0
    have d3 : ((w'.alloc (.cells #[] 46)).setCell ⟨w.heap.size, 0, none⟩ (.slice none 0 0)).cell? ⟨w.heap.size + 1, 0, none⟩ = some (.int .i64 0) := cell_of_heap k3 0
    have e1 : (((w'.alloc (.cells #[] 46)).setCell ⟨w.heap.size, 0, none⟩ (.slice none 0 0)).setCell ⟨w.heap.size + 1, 0, none⟩ (.int .i64 20)).cell? ⟨w.heap.size, 0, none⟩ = some (.slice none 0 0) := by
      rw [World.cell?_setCell_other _ _ _ _ (by simp)]
      exact World.cell?_setCell_same _ _ _ d1
    have e2 : (((w'.alloc (.cells #[] 46)).setCell ⟨w.heap.size, 0, none⟩ (.slice none 0 0)).setCell ⟨w.heap.size + 1, 0, none⟩ (.int .i64 20)).cell? ⟨w.heap.size + 1, 0, none⟩ = some (.int .i64 20) := World.cell?_setCell_same _ _ _ d3
    refine ⟨.tuple #[.slice none 0 0, .int .i64 20], ?_, .inr ⟨w', hq, rfl, rfl⟩⟩
    simp [results, Tryd.results11, go_sem, e1, e2]
end Go.Abs

namespace Go.Abs
open Go Go.Proofs Go.RowKit
open NR (goodsN prN)

def goodBN (P : Program) (f : Nat) : Bool :=
  match P.funcs[f]? with
  | some fn => fn.name != "runtime.NumGoroutine" && (match fn.body with | some c => codeOK (fun _ => false) c | none => false)
  | none => false
theorem goodsN_ok : goodsN.all (goodBN Tryd.prog) = true := by kernel_rfl

theorem KN_prog : Prog NR.KN := by
  refine ⟨by kernel_rfl, fun g hg => ?_, fun f F args bxs x _ hF hx => ?_⟩
  · have h1 : g ∈ goodsN := by simpa [NR.KN] using hg
    have h2 := List.all_eq_true.1 goodsN_ok g h1
    unfold goodBN at h2
    split at h2
    · rename_i fn hfn
      simp only [Bool.and_eq_true] at h2
      obtain ⟨h3, h4⟩ := h2
      split at h4
      · rename_i c hc
        exact ⟨fn, c, hfn, by simpa using h3, hc, h4⟩
      · cases h4
    · cases h2
  · have h2 : prN f = some F := hF
    unfold prN at h2
    split at h2
    · rename_i hf
      cases h2
      obtain rfl : f = 30 := by simpa using hf
      exact pPairs_ok hx
    · split at h2
      · rename_i hf
        cases h2
        obtain rfl : f = 56 := by simpa using hf
        exact pOpens_ok hx
      · cases h2

/-! ### tokens of data -/

def decT : List PV → Option Tok
  | [.int .i64 k, .str s, .int .i64 n] => some ⟨k, s, n⟩
  | _ => none
def decTs : List (List PV) → Option (List Tok)
  | [] => some []
  | c :: l => match decT c, decTs l with
    | some t, some m => some (t :: m)
    | _, _ => none
theorem dec_enc : ∀ l : List Tok, decTs (l.map Tok.enc) = some l
  | [] => rfl
  | t :: l => by
    rw [List.map_cons, decTs, dec_enc l]; rfl
theorem decT_enc {c : List PV} {t : Tok} (h : decT c = some t) : c = t.enc := by
  unfold decT at h
  split at h
  · cases h; rfl
  · cases h
theorem enc_dec : ∀ {c : List (List PV)} {l : List Tok}, decTs c = some l → c = l.map Tok.enc
  | [], l, h => by cases h; rfl
  | c :: cs, l, h => by
    unfold decTs at h
    split at h
    · rename_i t m h1 h2
      cases h
      rw [List.map_cons, ← decT_enc h1, ← enc_dec h2]
    · cases h

/-- what nest.Parse answers -/
def parseR (deep : Int) (l : List Tok) : AV :=
  if deep < 1 ∨ 60 < deep then .tup [.c (.pv (.sl [])), .c (.pv (.int .i64 1))]
  else match Ne.until_ 0 deep.toNat l with
    | some x => .tup [.c (.pv (.sl (encL x.1))), .c (.pv (.int .i64 0))]
    | none => .tup [.c (.pv (.sl [])), .c (.pv (.int .i64 20))]

def pParse : Prim
  | [.c (.pv (.sl c)), .c (.pv (.int .i64 deep))], [] => (match decTs c with
    | some l => if l.length ≤ 1000000 then some (parseR deep l, []) else none
    | none => none)
  | [.c .nils, .c (.pv (.int .i64 deep))], [] => some (parseR deep [], [])
  | _, _ => none

/-! ### that it does -/

section
variable {G G2 : Gh} {w w' w'' : World}

theorem parse_ext {x : Value} {deep : Int} (hw : WI G w) (hb0 : ∀ s, G.bb s = none) (hx : Ext (G.box LK (w.heap.size + 2)) (((w.alloc slV).alloc inE).alloc (rdO x deep)) G2 w') (hw2 : WI G2 w')
    (hs : w'.heap.size ≤ w''.heap.size) (ho : w''.os = w'.os) (hp : w''.output = w'.output) (ht : w''.tape = w'.tape) (hh : ∀ b, b < w'.heap.size → b ≠ w.heap.size → b ≠ w.heap.size + 1 → w''.heap[b]? = w'.heap[b]?) :
    Ext G w { G2 with bb := G.bb } w'' ∧ WI { G2 with bb := G.bb } w'' := by
  have hsz : (((w.alloc slV).alloc inE).alloc (rdO x deep)).heap.size = w.heap.size + 3 := by rw [alloc_size, alloc_size, alloc_size]
  have hold : ∀ b, b < w.heap.size → (((w.alloc slV).alloc inE).alloc (rdO x deep)).heap[b]? = w.heap[b]? := fun b hb => by
    rw [heap_old _ _ _ (by rw [alloc_size, alloc_size]; omega), heap_old _ _ _ (by rw [alloc_size]; omega), heap_old _ _ _ hb]
  have how : ∀ b, b ≠ w.heap.size + 2 → (G.box LK (w.heap.size + 2)).ow b = G.ow b := fun b hb => by
    show upd G.ow (w.heap.size + 2) _ b = _
    unfold upd; rw [if_neg hb]
  have hnI : ∀ b, w.heap.size ≤ b → b < w.heap.size + 2 → ∀ o, G2.I b o = none := fun b h1 h2 o => by
    have h3 := hx.old b (by rw [hsz]; omega) ((how b (by omega)).trans (hw.fresh b h1).2)
    exact (h3.2.2 o).trans ((hw.fresh b h1).1 o)
  have hold2 : ∀ b, b < w.heap.size → G.ow b = none → G2.ow b = none ∧ w''.heap[b]? = w.heap[b]? ∧ ∀ o, G2.I b o = G.I b o := fun b hb hn => by
    have h3 := hx.old b (by rw [hsz]; omega) ((how b (by omega)).trans hn)
    have := hx.size
    rw [hsz] at this
    exact ⟨h3.1, (hh b (by omega) (by omega) (by omega)).trans (h3.2.1.trans (hold b hb)), h3.2.2⟩
  have hsize := hx.size
  rw [hsz] at hsize
  refine ⟨⟨hx.I, hold2, by omega, ho.trans hx.os, hp.trans hx.output, ht.trans hx.tape, fun _ _ => rfl⟩, ⟨fun b o y h => ?_, fun b hb => hw2.fresh b (by omega), hw2.boxI, fun s b hb => absurd (show G.bb s = some b from hb) (by rw [hb0]; simp), hw.tab.map fun b hb hn => ⟨(hold2 b hb hn).1, (hold2 b hb hn).2.1⟩⟩⟩
  have h1 : G2.I b o = some y := h
  have hlt := I_lt hw2 h1
  have e : w''.heap[b]? = w'.heap[b]? := hh b hlt (fun e => by rw [e, hnI _ (Nat.le_refl _) (by omega)] at h1; cases h1) (fun e => by rw [e, hnI _ (by omega) (by omega)] at h1; cases h1)
  have := hw2.cell b o y h1
  unfold World.cell? at this ⊢
  rw [e]
  exact this

theorem box_WI {o : Obj} (hw : WI G w) {k : Nat} (hk : G.bb k = none) : WI (G.box k w.heap.size) (w.alloc o) := by
  refine ⟨fun b o y hI => ?_, fun b hb => ?_, fun b s hb o => ?_, fun s b hb => ?_, hw.tab.map fun c hc ho => ⟨?_, heap_old w _ c hc⟩⟩
  · rw [cell_alloc_old w _ (I_lt hw hI)]; exact hw.cell b o y hI
  · rw [alloc_size] at hb
    refine ⟨(hw.fresh b (by omega)).1, ?_⟩
    show upd G.ow w.heap.size _ b = none
    unfold upd; rw [if_neg (by omega)]; exact (hw.fresh b (by omega)).2
  · have hb' : upd G.ow w.heap.size (some (.box k)) b = some (.box s) := hb
    unfold upd at hb'
    split at hb'
    · rename_i he; subst he; exact (hw.fresh _ (Nat.le_refl _)).1 o
    · exact hw.boxI b s hb' o
  · have hb' : upd G.bb k (some w.heap.size) s = some b := hb
    show upd G.ow w.heap.size _ b = _
    unfold upd at hb' ⊢
    split at hb'
    · rename_i he; subst he; cases hb'; rw [if_pos rfl]
    · have h1 := hw.bbow s b hb'
      have h2 := ow_lt hw h1
      rw [if_neg (by omega)]; exact h1
  · show upd G.ow w.heap.size _ c = none
    unfold upd; rw [if_neg (by omega)]; exact ho
end

theorem set_heap (w : World) (a b : Addr) (v v' : Value) (k : Nat) (h1 : k ≠ a.block) (h2 : k ≠ b.block) : ((w.setCell a v).setCell b v').heap[k]? = w.heap[k]? := by
  rw [heap_set_other _ _ _ h2, heap_set_other _ _ _ h1]
theorem set_size (w : World) (a : Addr) (v : Value) : (w.setCell a v).heap.size = w.heap.size := by
  simp [World.setCell]

theorem parse_ok {l : List Tok} {deep : Int} {v : AV} (hlen : l.length ≤ 1000000) (hv : ∀ {G : Gh} {w : World} {x : Value}, RA G w .ret v x → RP G.I (.sl (l.map Tok.enc)) x) :
    Contract Tryd.prog 11 [v, .c (.pv (.int .i64 deep))] [] (.ret (parseR deep l) []) := by
  intro G w cargs hw hargs _ _ hbb
  have hb0 : ∀ s, G.bb s = none := fun s => by
    cases e : G.bb s with
    | none => rfl
    | some b => obtain ⟨i, hi, _⟩ := hbb s b e; simp at hi
  obtain ⟨x, y, rfl, hx, hy⟩ := args_two hargs
  cases hy.intv
  have hxp : RP G.I (.sl (l.map Tok.enc)) x := hv hx
  obtain ⟨pa, pc, rfl, _, _⟩ := hxp.slice_inv
  unfold parseR
  by_cases hd : deep < 1 ∨ 60 < deep
  · rw [if_pos hd]
    refine (parse_no _ deep w hd).mono ?_
    rintro e w' ⟨rfl, rfl⟩
    obtain ⟨g, hw'⟩ := below_gr (w' := (w.alloc (.cells #[.slice none 0 0] 23)).alloc (.cells #[.int .i64 1] 27)) hw (((Below.refl _ _).alloc (Nat.le_refl _) _).alloc (by simp) _)
    exact ⟨G, g.ext, hw', _, rfl, ⟨[_, _], rfl, .cons (.sl0 _ _) (.cons (.int _ _) .nil)⟩, rfl, fun i l h => by simp at h⟩
  · rw [if_neg hd]
    have hd1 : ¬ deep < 1 := fun h => hd (.inl h)
    have hd2 : ¬ 60 < deep := fun h => hd (.inr h)
    obtain ⟨d, rfl⟩ : ∃ d : Nat, deep = d := ⟨deep.toNat, by omega⟩
    rw [Int.toNat_natCast]
    have hu := NR.until_all l hlen d (by omega)
    unfold NR.UDen at hu
    obtain ⟨g1, hw1⟩ := below_gr (w' := (w.alloc slV).alloc inE) hw (((Below.refl _ _).alloc (Nat.le_refl _) _).alloc (by simp) _)
    have hn1 : ((w.alloc slV).alloc inE).heap.size = w.heap.size + 2 := by rw [alloc_size, alloc_size]
    have hw3 : WI (G.box LK (w.heap.size + 2)) (((w.alloc slV).alloc inE).alloc (rdO (.slice pa (l.map Tok.enc).length pc) d)) := by
      have := box_WI (o := rdO (.slice pa (l.map Tok.enc).length pc) d) hw1 (hb0 LK)
      rw [hn1] at this
      exact this
    have hnew : (((w.alloc slV).alloc inE).alloc (rdO (.slice pa (l.map Tok.enc).length pc) d)).heap[w.heap.size + 2]? = some (rdO (.slice pa (l.map Tok.enc).length pc) d) := by
      have := heap_alloc_new ((w.alloc slV).alloc inE) (rdO (.slice pa (l.map Tok.enc).length pc) d)
      rw [hn1] at this
      exact this
    have hbbk : (G.box LK (w.heap.size + 2)).bb LK = some (w.heap.size + 2) := by simp [Gh.box, upd]
    have hcall : ∀ r, den NR.KN 28 [.c (.loc 100000 0), .c .nilp, .c (.pv (.int .i64 0))] [NR.rdr l d] = some r →
        Calls Tryd.prog 28 #[.pointer (some ⟨w.heap.size + 2, 0, none⟩), .pointer none, .int .i64 0] (((w.alloc slV).alloc inE).alloc (rdO (.slice pa (l.map Tok.enc).length pc) d)) fun e w' =>
          ∃ G2, Ext (G.box LK (w.heap.size + 2)) (((w.alloc slV).alloc inE).alloc (rdO (.slice pa (l.map Tok.enc).length pc) d)) G2 w' ∧ WI G2 w' ∧ REnd 1 G2 w' e r := fun r hr => by
      refine den_ok KN_prog NR.good_u hr _ _ [.pointer (some ⟨w.heap.size + 2, 0, none⟩), .pointer none, .int .i64 0] hw3 ?_ ?_ ?_ ?_
      · exact .cons ⟨w.heap.size + 2, hbbk, rfl⟩ (.cons rfl (.cons (.int _ _) .nil))
      · intro v hv
        simp only [List.mem_cons, List.not_mem_nil, or_false] at hv
        rcases hv with rfl | rfl | rfl <;> rfl
      · intro i b hi
        cases i with
        | succ i => simp at hi
        | zero =>
          simp only [List.getElem?_cons_zero, Option.some.injEq] at hi
          subst hi
          refine ⟨w.heap.size + 2, _, _, hbbk, hnew, ⟨rfl, fun e => by simp at e⟩, fun k v hk => ?_⟩
          match k with
          | 0 =>
            simp only [List.getElem?_cons_zero, Option.some.injEq] at hk
            subst hk
            exact ⟨_, rfl, hxp⟩
          | 1 =>
            simp only [List.getElem?_cons_succ, List.getElem?_cons_zero, Option.some.injEq] at hk
            subst hk
            exact ⟨_, rfl, .int _ _⟩
          | k + 2 => simp at hk
      · intro s b hs
        have hs' : upd G.bb LK (some (w.heap.size + 2)) s = some b := hs
        unfold upd at hs'
        split at hs'
        · rename_i he; exact ⟨0, by simp, by omega⟩
        · rw [hb0] at hs'; cases hs'
    have hheap : ∀ {G2 : Gh} {w' : World}, Ext (G.box LK (w.heap.size + 2)) (((w.alloc slV).alloc inE).alloc (rdO (.slice pa (l.map Tok.enc).length pc) d)) G2 w' →
        w'.heap[w.heap.size]? = some slV ∧ w'.heap[w.heap.size + 1]? = some inE := fun {G2 w'} hx2 => by
      have how : ∀ b, w.heap.size ≤ b → b ≠ w.heap.size + 2 → (G.box LK (w.heap.size + 2)).ow b = none := fun b h1 h2 => by
        show upd G.ow (w.heap.size + 2) _ b = _
        unfold upd; rw [if_neg h2]; exact (hw.fresh b h1).2
      constructor
      · rw [(hx2.old w.heap.size (by rw [alloc_size, hn1]; omega) (how _ (Nat.le_refl _) (by omega))).2.1, heap_old _ _ _ (by rw [hn1]; omega), heap_old _ _ _ (by rw [alloc_size]; omega)]
        exact heap_alloc_new w _
      · rw [(hx2.old (w.heap.size + 1) (by rw [alloc_size, hn1]; omega) (how _ (by omega) (by omega))).2.1, heap_old _ _ _ (by rw [hn1]; omega)]
        have := heap_alloc_new (w.alloc slV) inE
        rw [alloc_size] at this
        exact this
    cases hv : Ne.until_ 0 d l with
    | some x =>
      rw [hv] at hu
      refine (parse_yes pa _ pc d w hd1 hd2 (fun va vn vc w' => ∃ G2, Ext (G.box LK (w.heap.size + 2)) (((w.alloc slV).alloc inE).alloc (rdO (.slice pa (l.map Tok.enc).length pc) d)) G2 w' ∧ WI G2 w' ∧ RP G2.I (.sl (encL x.1)) (.slice va vn vc)) (fun _ => False) ?_).mono ?_
      · refine (hcall _ hu).mono ?_
        rintro e w' ⟨G2, hx2, hw2, v, rfl, hr, _, _⟩
        have hr' : RP G2.I (.sl (encL x.1)) v := hr
        obtain ⟨va, vc, rfl, _, _⟩ := hr'.slice_inv
        exact ⟨(hheap hx2).1, (hheap hx2).2, .inl ⟨va, _, vc, rfl, G2, hx2, hw2, hr'⟩⟩
      · rintro e w'' (⟨va, vn, vc, w', ⟨G2, hx2, hw2, hr⟩, rfl, rfl⟩ | ⟨w', hf, _⟩)
        · obtain ⟨k1, k2⟩ := parse_ext (w'' := (w'.setCell ⟨w.heap.size, 0, none⟩ (.slice va vn vc)).setCell ⟨w.heap.size + 1, 0, none⟩ (.int .i64 0)) hw hb0 hx2 hw2 (by rw [set_size, set_size]; exact Nat.le_refl _) rfl rfl rfl (fun b _ h1 h2 => set_heap w' _ _ _ _ b h1 h2)
          exact ⟨_, k1, k2, _, rfl, ⟨[_, _], rfl, .cons hr (.cons (.int _ _) .nil)⟩, rfl, fun i l h => by simp at h⟩
        · exact hf.elim
    | none =>
      rw [hv] at hu
      obtain ⟨b1, hu⟩ := hu
      refine (parse_yes pa _ pc d w hd1 hd2 (fun _ _ _ _ => False) (fun w' => ∃ G2, Ext (G.box LK (w.heap.size + 2)) (((w.alloc slV).alloc inE).alloc (rdO (.slice pa (l.map Tok.enc).length pc) d)) G2 w' ∧ WI G2 w') ?_).mono ?_
      · refine (hcall _ hu).mono ?_
        rintro e w' ⟨G2, hx2, hw2, v, rfl, hr, _, _⟩
        have hr' : RP G2.I (.ifa 46 []) v := hr
        cases hr'
        exact ⟨(hheap hx2).1, (hheap hx2).2, .inr ⟨rfl, G2, hx2, hw2⟩⟩
      · rintro e w'' (⟨va, vn, vc, w', hf, _⟩ | ⟨w', ⟨G2, hx2, hw2⟩, rfl, rfl⟩)
        · exact hf.elim
        · obtain ⟨k1, k2⟩ := parse_ext (w'' := ((w'.alloc (.cells #[] 46)).setCell ⟨w.heap.size, 0, none⟩ (.slice none 0 0)).setCell ⟨w.heap.size + 1, 0, none⟩ (.int .i64 20)) hw hb0 hx2 hw2 (by rw [set_size, set_size, alloc_size]; omega) rfl rfl rfl (fun b hb h1 h2 => by rw [set_heap _ _ _ _ _ b h1 h2, heap_old _ _ _ hb])
          exact ⟨_, k1, k2, _, rfl, ⟨[_, _], rfl, .cons (.sl0 _ _) (.cons (.int _ _) .nil)⟩, rfl, fun i l h => by simp at h⟩

theorem pParse_ok {args : List AV} {bxs : List (List CV)} {x : AV × List (List CV)} (h : pParse args bxs = some x) : Contract Tryd.prog 11 args bxs (.ret x.1 x.2) := by
  unfold pParse at h
  split at h
  · rename_i c deep
    split at h
    case h_2 => cases h
    rename_i l hdec
    split at h
    case isFalse => cases h
    rename_i hlen
    cases h
    obtain rfl := enc_dec hdec
    exact parse_ok hlen (fun hx => hx)
  · cases h
    refine parse_ok (l := []) (by simp) (fun hx => ?_)
    cases hx
    exact .sl0 _ _
  · cases h
end Go.Abs
