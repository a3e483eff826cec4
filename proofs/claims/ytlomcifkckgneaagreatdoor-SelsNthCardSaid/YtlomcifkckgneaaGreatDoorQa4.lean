/-
  THE READER OF VALUES (nest's until, one), as an interpreter of its own runs it: what it answers. (The functions that ask it are run by the main interpreter, which has nest.Parse as a primitive.)
  THE ABSTRACT INTERPRETER: nest.Parse as a primitive: walked by hand (it defers a function that recovers), round what the reader answers.
  THE ABSTRACT INTERPRETER: nest.Parse as a primitive: that its answer is what the program does.
  strings.IndexAny of a text of at most eight bytes, as an interpreter runs it: where the first byte stands that ends a line.
  strings.IndexAny, asked for the three bytes that end a line, of a text of whatever bytes: what it answers, and that it does.
  THE ABSTRACT INTERPRETER: sels.whole walked by hand: it defers a function that recovers, and calls a function that it is handed.
  THE ABSTRACT INTERPRETER: sels.whole as a function that calls others (a Plan); that its answer is what the program does.
  THE ABSTRACT INTERPRETER: the closure of sels.Parse (it appends a selector to a captured list; what it calls may go up, in a region whose order is drawn), as a function that calls another (a Plan).
  THE ABSTRACT INTERPRETER: what it is run with over this program.
  TOKENS, in plain Lean: which tokens a text is read as; tokens that may be are read again as they were. No program stands here.
  TOKENS, in plain Lean: tokens that may be are read again as they were (ToksBack, ToksTwo, ToksBlanks). No program stands here.
  TOKENS, in plain Lean: what each token has (ToksParts); two texts, and a comment between (ToksBoth). No program stands here.
  TOKENS, in plain Lean: how long their texts are. No program stands here.
  Layer 3, plain: values that are read from a text: what is so of parts of values; what is read is read again.
  SELECTORS: the text of a selector that may be is read as the tokens of its values.
  SELECTORS: the values of selectors that may be are read as the selectors.
  SELECTORS: what is read as selectors may be.
  SELECTORS, plain: the numbers of an nth, written and read.
  SELECTORS, plain: a simple selector that is read alone is read within a not.
  Layer 4, plain: how a program reads selectors that looks for an end ahead of each simple one; that this is what Sl.parse reads.
  Layer 4, plain: digits, as strings.Trim and strconv.Atoi see them.
-/
import Derived.Defers
import Derived.Recover
import Derived.KernelRfl
import Derived.Lib.Atoi
import Derived.Lib.SlTrimSet
import Derived.Test.YtlomcifkckgneaaGreatDoorQa1
import Derived.Test.YtlomcifkckgneaaGreatDoorQa2
import Derived.Test.YtlomcifkckgneaaGreatDoorQa3
set_option linter.unusedSimpArgs false
set_option linter.unusedVariables false
namespace Go.Abs.NR
open Go Go.Proofs Go.Abs
set_option maxRecDepth 10000
attribute [local go_sem] exL_seq exL_cond exL_block exL_scope exL_ret exL_skip exL_exit runRegion runOps stepOp guardA absOp takeOver opd avOf cvOf St.degAt St.put okPV okVal okAV absBin intBin strBin boolBin setBoxes if_true Bool.false_eq_true if_false Option.map_some Option.map_none Option.bind_some Option.bind_none thenO outOf upd List.toList_toArray isOwn steal appArgs mvB fullAt absFull inApps AV.deg CV.deg AV.gv AV.isIter absNext some_bne some_beqN List.length_nil List.length_cons List.filterMap_cons List.filterMap_nil beq_iff_eq List.getElem?_cons_zero List.getElem?_cons_succ Option.getD_some Bool.false_and Bool.and_false Bool.and_self absCall doCall getBoxes lend back idx dedup AV.ren CV.ren TV.ren AV.ptrs CV.ptrs zipBox AV.flat CV.flat absLoad absStore cellsOfAV setAt newBox markB bldTypes absFieldAddr absField absExtract absAssert noAssert absMkIface ifcOf CV.pv? content pushHead ownT fillCells reps pvs chunks enterSt leave resOf resVars resVar outBoxes lentOnly TV.deg TV.av LK CV.plain CV.noBld nilBin absUn bound List.map_cons List.map_nil List.all_cons List.all_nil List.any_cons List.any_nil List.contains_cons List.contains_nil List.elem_cons List.elem_nil List.cons_append List.nil_append List.append_nil List.flatMap_cons List.flatMap_nil List.zip_cons_cons List.zip_nil_left List.zip_nil_right List.take_succ_cons List.take_zero List.take_nil List.drop_succ_cons List.drop_zero List.drop_nil List.isEmpty_nil List.isEmpty_cons Bool.and_true Bool.true_and Bool.or_true Bool.true_or Bool.or_false Bool.false_or Bool.not_true Bool.not_false Nat.add_zero Nat.zero_add Option.isNone_none Option.isNone_some Option.getD_none true_and and_true not_true_eq_false not_false_eq_true decide_true decide_false Nat.le_refl and_self Bool.not_eq_true Nat.sub_self or_true true_or Option.some.injEq List.length_map List.nil_eq and_false false_and AV.live CV.live CV.liveIn firstReg Option.orElse_some Option.orElse_none head keepSlots keepBoxes Int.lt_irrefl List.length_append ite_self memOK logOps opKey lentBoxes Key.clash Key.sees Key.writes Nat.lt_irrefl gt_iff_lt nobox_at bot_at false_or or_false beq_self_eq_true Bool.true_beq Bool.false_beq
theorem ty_fieldOff_178_0 : fieldOff Tryz.prog 178 0 = Option.some (0, 60) := by kernel_rfl
theorem ty_szOf_60 : szOf Tryz.prog 60 = Option.some 1 := by kernel_rfl
theorem ty_shapeT_60 : shapeT Tryz.prog 60 = Option.some Option.none := by kernel_rfl
theorem ty_descOf_60 : descOf Tryz.prog 60 = Option.some (Go.Abs.Desc.sl 91 Bool.false) := by kernel_rfl
theorem ty_szOf_91 : szOf Tryz.prog 91 = Option.some 3 := by kernel_rfl
theorem ty_shapeT_91 : shapeT Tryz.prog 91 = Option.some (Option.some 3) := by kernel_rfl
theorem ty_zeroCells_91 : zeroCells Tryz.prog 91 = Option.some [Go.Abs.CV.pv (Go.Abs.PV.int Go.IntKind.i64 0), Go.Abs.CV.pv (Go.Abs.PV.str []), Go.Abs.CV.pv (Go.Abs.PV.int Go.IntKind.i64 0)] := by kernel_rfl
theorem ty_isPtrT_201 : isPtrT Tryz.prog 201 = Bool.true := by kernel_rfl
theorem ty_descOf_23 : descOf Tryz.prog 23 = Option.some (Go.Abs.Desc.sl 93 Bool.false) := by kernel_rfl
theorem ty_szOf_93 : szOf Tryz.prog 93 = Option.some 5 := by kernel_rfl
theorem ty_zeroCells_93 : zeroCells Tryz.prog 93 = Option.some [Go.Abs.CV.pv (Go.Abs.PV.int Go.IntKind.i64 0), Go.Abs.CV.pv (Go.Abs.PV.int Go.IntKind.i64 0), Go.Abs.CV.pv (Go.Abs.PV.str []), Go.Abs.CV.pv (Go.Abs.PV.int Go.IntKind.i64 0), Go.Abs.CV.nils] := by kernel_rfl
theorem ty_appInfo_23 : appInfo Tryz.prog 23 = Option.some (93, 5) := by kernel_rfl
theorem ty_shapeT_93 : shapeT Tryz.prog 93 = Option.some (Option.some 5) := by kernel_rfl
theorem ty_placesOf_93 : placesOf Tryz.prog 93 = Option.some [(0, 1), (1, 3), (4, 1)] := by kernel_rfl
theorem ty_fieldOff_178_1 : fieldOff Tryz.prog 178 1 = Option.some (1, 3) := by kernel_rfl
theorem ty_szOf_3 : szOf Tryz.prog 3 = Option.some 1 := by kernel_rfl
theorem ty_shapeT_3 : shapeT Tryz.prog 3 = Option.some Option.none := by kernel_rfl
theorem ty_zeroCells_174 : zeroCells Tryz.prog 174 = Option.some [] := by kernel_rfl
theorem ty_placesOf_174 : placesOf Tryz.prog 174 = Option.some [] := by kernel_rfl
theorem ty_concreteT_174 : concreteT Tryz.prog 174 = Bool.true := by kernel_rfl
theorem ty_fieldOff_93_1 : fieldOff Tryz.prog 93 1 = Option.some (1, 91) := by kernel_rfl
theorem ty_fieldOff_93_2 : fieldOff Tryz.prog 93 2 = Option.some (4, 23) := by kernel_rfl
theorem ty_szOf_23 : szOf Tryz.prog 23 = Option.some 1 := by kernel_rfl
theorem ty_zeroCells_247 : zeroCells Tryz.prog 247 = Option.some [Go.Abs.CV.pv (Go.Abs.PV.str []), Go.Abs.CV.pv (Go.Abs.PV.str [])] := by kernel_rfl
theorem ty_szOf_247 : szOf Tryz.prog 247 = Option.some 2 := by kernel_rfl
theorem ty_fieldOff_247_1 : fieldOff Tryz.prog 247 1 = Option.some (1, 9) := by kernel_rfl
theorem ty_szOf_9 : szOf Tryz.prog 9 = Option.some 1 := by kernel_rfl
theorem ty_shapeT_9 : shapeT Tryz.prog 9 = Option.some Option.none := by kernel_rfl
theorem ty_placesOf_91 : placesOf Tryz.prog 91 = Option.some [(0, 1), (1, 1), (2, 1)] := by kernel_rfl
def keepN (f r : Nat) : List Nat × List Nat := if f == 148 && r == 2 then ([0, 1, 2, 7], [100000, 100001]) else ([], [])
def prN (f : Nat) : Option Prim := if f == 227 then some pPairs else if f == 207 then some pOpens else none
def ownN (f : Nat) : Bool := f == 227
def goodsN : List Nat := [227, 207, 228, 208, 174, 148]
noncomputable def KN : Cfg := { P := Tryz.prog, pr := prN, keep := keepN, ownRet := ownN, good := goodsN.contains, hook := fun _ _ => false }
theorem N_own (f : FuncId) (h : (f == 227) = false) : KN.ownRet f = false := h
theorem N_ownP : KN.ownRet 227 = true := rfl
theorem N_hook (f i : Nat) : KN.hook f i = false := rfl
theorem regionN (f : FuncId) (id : Nat) (ops : Array Oper) (draw : Bool) (S : St) : exL KN f (.region id ops draw) S = runRegion KN (den KN) ops.toList draw S := exL_region f id ops draw S (N_hook f id)
theorem N_P : KN.P = Tryz.prog := rfl
theorem N_keep (f r : Nat) : KN.keep f r = keepN f r := rfl
theorem keep_u : keepN 148 2 = ([0, 1, 2, 7], [100000, 100001]) := by decide
theorem good_o : KN.good 207 = true := rfl
theorem good_p : KN.good 227 = true := rfl
theorem good_d : KN.good 228 = true := rfl
theorem good_c : KN.good 208 = true := rfl
theorem good_1 : KN.good 174 = true := rfl
theorem good_u : KN.good 148 = true := rfl
abbrev I (n : Int) : AV := .c (.pv (.int .i64 n))
abbrev T (l : List UInt8) : AV := .c (.pv (.str l))
abbrev L (l : List (List PV)) : AV := .c (.pv (.sl l))
abbrev P0 : AV := .c (.loc 100000 0)
theorem den_runN {f : FuncId} {fn : Func} {x : Code} {nt : Nat} {args : List AV} {bxs : List (List CV)} {r : Res} (hp : prN f = none) (hf : Tryz.prog.funcs[f]? = some fn) (hx : fn.body = some x) (hn : fn.ntmps = nt)
    (hl : args.length ≤ nt ∧ nt < LK) (h : (exL KN f x (enterSt nt args bxs)).bind (fun r => leave KN f fn bxs.length (some r)) = some r) : den KN f args bxs = some r := by
  rw [den_eq (K := KN) hp rfl hf hx, hn, if_pos hl]
  exact h
theorem den_runE {α : Type} {f : FuncId} {fn : Func} {x : Code} {nt : Nat} {args : List AV} {bxs : List (List CV)} {r : α → Res} (hp : prN f = none) (hf : Tryz.prog.funcs[f]? = some fn) (hx : fn.body = some x) (hn : fn.ntmps = nt)
    (hl : args.length ≤ nt ∧ nt < LK) (h : ∃ b, (exL KN f x (enterSt nt args bxs)).bind (fun r => leave KN f fn bxs.length (some r)) = some (r b)) : ∃ b, den KN f args bxs = some (r b) := by
  obtain ⟨b, h⟩ := h
  exact ⟨b, den_runN hp hf hx hn hl h⟩
theorem prim_runN {f : FuncId} {F : Prim} {args : List AV} {bxs cs : List (List CV)} {v : AV} (h : prN f = some F) (hF : F args bxs = some (v, cs)) : den KN f args bxs = some (.ret v cs) := by
  rw [den_prim (K := KN) h, hF]; rfl
theorem opens_den (t : Tok) : den KN 207 [.agg t.cells] [] = some (.ret (I (Ne.opens t)) []) := prim_runN (F := pOpens) rfl rfl
theorem pairs_den : den KN 227 [] [] = some (.ret (.c (.cmap pairsE)) []) := prim_runN (F := pPairs) rfl rfl
theorem delim_den (s : List UInt8) : den KN 228 [T s] [] = some (.ret (.agg [.pv (.int .i64 7), .pv (.str s), .pv (.int .i64 0)]) []) := by
  refine den_runN rfl Tryz.func228 rfl Tryz.ntmps228 ⟨by simp, by simp [LK]⟩ ?_
  have hr : Tryz.f228.results = #[.cell 2 91] := rfl
  simp only [go_sem, Nat.reduceLT, reduceIte, reduceCtorEq, Nat.reduceEqDiff, apply_ite (Option.map (outOf _)), Nat.reduceBEq, Nat.reduceAdd, Nat.reduceSub, Nat.reduceLeDiff, Nat.reduceMul, regionN, N_own, N_P, ty_shapeT_91, ty_zeroCells_91, ev_build ty_zeroCells_91 ty_placesOf_91, ty_szOf_91, hr]
theorem look_map : Tryz.prog.underlying 244 = some (.map 3 247) := by kernel_rfl
theorem look_int : isIntK Tryz.prog 3 .i64 = true := by kernel_rfl
theorem look_zero : tvZero Tryz.prog 247 = some (.agg [.pv (.str []), .pv (.str [])]) := by kernel_rfl
theorem look_2 : absLookup Tryz.prog 244 (.c (.cmap pairsE)) (I 2) true = some (.tup [.agg [.pv (.str [40]), .pv (.str [41])], .c (.pv (.bool true))]) := by
  unfold absLookup
  rw [look_map]
  simp only
  rw [look_int, if_pos (by rfl)]
  rfl
theorem look_3 : absLookup Tryz.prog 244 (.c (.cmap pairsE)) (I 3) true = some (.tup [.agg [.pv (.str [91]), .pv (.str [93])], .c (.pv (.bool true))]) := by
  unfold absLookup
  rw [look_map]
  simp only
  rw [look_int, if_pos (by rfl)]
  rfl
theorem look_4 : absLookup Tryz.prog 244 (.c (.cmap pairsE)) (I 4) true = some (.tup [.agg [.pv (.str [123]), .pv (.str [125])], .c (.pv (.bool true))]) := by
  unfold absLookup
  rw [look_map]
  simp only
  rw [look_int, if_pos (by rfl)]
  rfl
theorem look_no (k : Int) (h2 : k ≠ 2) (h3 : k ≠ 3) (h4 : k ≠ 4) : absLookup Tryz.prog 244 (.c (.cmap pairsE)) (I k) true = some (.tup [.agg [.pv (.str []), .pv (.str [])], .c (.pv (.bool false))]) := by
  have hf : pairsE.find? (keyIs .i64 k) = none := by
    rw [List.find?_eq_none]
    intro e he
    simp only [pairsE, List.mem_cons, List.not_mem_nil, or_false] at he
    rcases he with rfl | rfl | rfl <;> simp [keyIs, h2, h3, h4]
  unfold absLookup
  rw [look_map]
  simp only
  rw [look_int, if_pos (by rfl), hf]
  simp only [look_zero]
theorem closing_den (k : Int) : den KN 208 [I k] [] = some (.ret (.agg (Ne.closeT k).cells) []) := by
  refine den_runN rfl Tryz.func208 rfl Tryz.ntmps208 ⟨by simp, by simp [LK]⟩ ?_
  have hr : Tryz.f208.results = #[.cell 2 91] := rfl
  have hp := pairs_den
  have d1 := delim_den [41]
  have d2 := delim_den [93]
  have d3 := delim_den [125]
  by_cases h2 : k = 2
  · subst h2
    simp only [go_sem, Nat.reduceLT, reduceIte, reduceCtorEq, Nat.reduceEqDiff, apply_ite (Option.map (outOf _)), Nat.reduceBEq, Nat.reduceAdd, Nat.reduceSub, Nat.reduceLeDiff, Nat.reduceMul, regionN, N_own, N_ownP, N_P, ty_shapeT_91, ty_zeroCells_91, ty_zeroCells_247, ty_szOf_247, ty_fieldOff_247_1, ty_szOf_9, ty_shapeT_9, ty_szOf_91, hr, hp, look_2, d1, d2, d3, good_p, good_d]
    rfl
  by_cases h3 : k = 3
  · subst h3
    simp only [go_sem, Nat.reduceLT, reduceIte, reduceCtorEq, Nat.reduceEqDiff, apply_ite (Option.map (outOf _)), Nat.reduceBEq, Nat.reduceAdd, Nat.reduceSub, Nat.reduceLeDiff, Nat.reduceMul, regionN, N_own, N_ownP, N_P, ty_shapeT_91, ty_zeroCells_91, ty_zeroCells_247, ty_szOf_247, ty_fieldOff_247_1, ty_szOf_9, ty_shapeT_9, ty_szOf_91, hr, hp, look_3, d1, d2, d3, good_p, good_d]
    rfl
  by_cases h4 : k = 4
  · subst h4
    simp only [go_sem, Nat.reduceLT, reduceIte, reduceCtorEq, Nat.reduceEqDiff, apply_ite (Option.map (outOf _)), Nat.reduceBEq, Nat.reduceAdd, Nat.reduceSub, Nat.reduceLeDiff, Nat.reduceMul, regionN, N_own, N_ownP, N_P, ty_shapeT_91, ty_zeroCells_91, ty_zeroCells_247, ty_szOf_247, ty_fieldOff_247_1, ty_szOf_9, ty_shapeT_9, ty_szOf_91, hr, hp, look_4, d1, d2, d3, good_p, good_d]
    rfl
  have hl := look_no k h2 h3 h4
  have hv : Ne.closeT k = ⟨7, [41], 0⟩ := by simp [Ne.closeT, Ne.closeC, h3, h4]
  rw [hv]
  simp only [go_sem, Nat.reduceLT, reduceIte, reduceCtorEq, Nat.reduceEqDiff, apply_ite (Option.map (outOf _)), Nat.reduceBEq, Nat.reduceAdd, Nat.reduceSub, Nat.reduceLeDiff, Nat.reduceMul, regionN, N_own, N_ownP, N_P, ty_shapeT_91, ty_zeroCells_91, ty_zeroCells_247, ty_szOf_247, ty_fieldOff_247_1, ty_szOf_9, ty_shapeT_9, ty_szOf_91, hr, hp, hl, d1, d2, d3, good_p, good_d]
  rfl
theorem tok_eq (k k' n n' : Int) (t t' : List UInt8) : structEq Tryz.prog 91 [.int .i64 k, .str t, .int .i64 n] [.int .i64 k', .str t', .int .i64 n'] = some ((k == k') && ((t == t') && ((n == n') && true))) := by kernel_rfl
theorem tok_beq (a b : Tok) : ((a.kind == b.kind) && ((a.text == b.text) && ((a.n == b.n) && true))) = decide (a = b) := by
  obtain ⟨k, t, n⟩ := a
  obtain ⟨k', t', n'⟩ := b
  rw [Bool.eq_iff_iff, decide_eq_true_eq]
  simp [Tok.mk.injEq]
theorem lens_toks (l : List Tok) : lens 3 (l.map Tok.enc) = true := by simp [lens, Tok.enc]
theorem lens_vals (l : List Val) : lens 5 (encL l) = true := by
  rw [encL_map]
  simp only [lens, List.all_map, List.all_eq_true, Function.comp_apply, beq_iff_eq]
  intro v _
  exact enc_len v
theorem lens_val (a b c d e : PV) : lens 5 [[a, b, c, d, e]] = true := rfl
abbrev rdr (l : List Tok) (deep : Int) : List CV := [.pv (.sl (l.map Tok.enc)), .pv (.int .i64 deep)]
abbrev errD : CV := .pv (.ifa 174 [])
abbrev closeA (k : Int) : List CV := [.pv (.int .i64 7), .pv (.str [Ne.closeC k]), .pv (.int .i64 0)]
abbrev tokA (t : Tok) : List CV := [.pv (.int .i64 t.kind), .pv (.str t.text), .pv (.int .i64 t.n)]
theorem opensA (t : Tok) : den KN 207 [.agg (tokA t)] [] = some (.ret (I (Ne.opens t)) []) := opens_den t
theorem closingA (k : Int) : den KN 208 [I k] [] = some (.ret (.agg (closeA k)) []) := closing_den k
theorem one_tok (t : Tok) (l : List Tok) (deep wi : Int) (h : Ne.opens t = 0) : den KN 174 [P0, .agg (tokA t), I wi] [rdr l deep] =
    some (.ret (.agg [.pv (.int .i64 1), .pv (.int .i64 t.kind), .pv (.str t.text), .pv (.int .i64 t.n), .nils]) [rdr l deep]) := by
  refine den_runN rfl Tryz.func174 rfl Tryz.ntmps174 ⟨by simp, by simp [LK]⟩ ?_
  have hr : Tryz.f174.results = #[.cell 6 93] := rfl
  have ho := opensA t
  rw [h] at ho
  simp only [go_sem, Nat.reduceLT, reduceIte, reduceCtorEq, Nat.reduceEqDiff, apply_ite (Option.map (outOf _)), Nat.reduceBEq, Nat.reduceAdd, Nat.reduceSub, Nat.reduceLeDiff, Nat.reduceMul, regionN, N_own, N_ownP, N_P, N_keep, keep_u, ty_shapeT_93, ty_zeroCells_93, ty_shapeT_91, ev_build ty_zeroCells_93 ty_placesOf_93, ty_szOf_93, ty_fieldOff_178_1, ty_szOf_3, ty_shapeT_3, ev_build ty_zeroCells_174 ty_placesOf_174, ty_concreteT_174, ty_fieldOff_93_1, ty_szOf_91, ty_zeroCells_91, ty_fieldOff_93_2, ty_szOf_23, hr, ho, good_o]
theorem one_deep (t : Tok) (l : List Tok) (deep wi : Int) (h : Ne.opens t ≠ 0) (hw : deep ≤ wi) : den KN 174 [P0, .agg (tokA t), I wi] [rdr l deep] = some (.pan errD [rdr l deep]) := by
  refine den_runN rfl Tryz.func174 rfl Tryz.ntmps174 ⟨by simp, by simp [LK]⟩ ?_
  have ho := opensA t
  have e0 : (Ne.opens t == 0) = false := by rw [beq_eq_false_iff_ne]; exact h
  have e1 : decide (deep ≤ wi) = true := decide_eq_true hw
  simp only [go_sem, Nat.reduceLT, reduceIte, reduceCtorEq, Nat.reduceEqDiff, apply_ite (Option.map (outOf _)), Nat.reduceBEq, Nat.reduceAdd, Nat.reduceSub, Nat.reduceLeDiff, Nat.reduceMul, regionN, N_own, N_ownP, N_P, N_keep, keep_u, ty_shapeT_93, ty_zeroCells_93, ty_shapeT_91, ev_build ty_zeroCells_93 ty_placesOf_93, ty_szOf_93, ty_fieldOff_178_1, ty_szOf_3, ty_shapeT_3, ev_build ty_zeroCells_174 ty_placesOf_174, ty_concreteT_174, ty_fieldOff_93_1, ty_szOf_91, ty_zeroCells_91, ty_fieldOff_93_2, ty_szOf_23, ho, good_o, e0, e1]
theorem one_in (t : Tok) (l rest : List Tok) (vs : List Val) (deep wi : Int) (h : Ne.opens t ≠ 0) (hw : wi < deep) (hd : 0 ≤ wi ∧ deep < 1000)
    (hu : den KN 148 [P0, .c (.loc 100001 0), I (wi + 1)] [rdr l deep, closeA (Ne.opens t)] = some (.ret (L (encL vs)) [rdr rest deep, closeA (Ne.opens t)])) :
    den KN 174 [P0, .agg (tokA t), I wi] [rdr l deep] =
      some (.ret (.agg (.pv (.int .i64 (Ne.opens t)) :: (tokA (if Ne.opens t = 5 then t else Ne.tok0) ++ [.pv (.sl (encL vs))]))) [rdr rest deep]) := by
  refine den_runN rfl Tryz.func174 rfl Tryz.ntmps174 ⟨by simp, by simp [LK]⟩ ?_
  have hr : Tryz.f174.results = #[.cell 6 93] := rfl
  have ho := opensA t
  have hc := closingA (Ne.opens t)
  have e0 : (Ne.opens t == 0) = false := by rw [beq_eq_false_iff_ne]; exact h
  have e1 : decide (deep ≤ wi) = false := decide_eq_false (by omega)
  have ew : IntKind.i64.wrap (wi + 1) = wi + 1 := IntWalk.i64_in _ (by omega)
  by_cases h5 : Ne.opens t = 5
  · have e5 : (Ne.opens t == 5) = true := by rw [beq_iff_eq]; exact h5
    rw [if_pos h5]
    simp only [go_sem, Nat.reduceLT, reduceIte, reduceCtorEq, Nat.reduceEqDiff, apply_ite (Option.map (outOf _)), Nat.reduceBEq, Nat.reduceAdd, Nat.reduceSub, Nat.reduceLeDiff, Nat.reduceMul, regionN, N_own, N_ownP, N_P, N_keep, keep_u, ty_shapeT_93, ty_zeroCells_93, ty_shapeT_91, ev_build ty_zeroCells_93 ty_placesOf_93, ty_szOf_93, ty_fieldOff_178_1, ty_szOf_3, ty_shapeT_3, ev_build ty_zeroCells_174 ty_placesOf_174, ty_concreteT_174, ty_fieldOff_93_1, ty_szOf_91, ty_zeroCells_91, ty_fieldOff_93_2, ty_szOf_23, hr, ho, hc, hu, good_o, good_c, good_u, e0, e1, e5, ew]
  · have e5 : (Ne.opens t == 5) = false := by rw [beq_eq_false_iff_ne]; exact h5
    rw [if_neg h5]
    simp only [go_sem, Nat.reduceLT, reduceIte, reduceCtorEq, Nat.reduceEqDiff, apply_ite (Option.map (outOf _)), Nat.reduceBEq, Nat.reduceAdd, Nat.reduceSub, Nat.reduceLeDiff, Nat.reduceMul, regionN, N_own, N_ownP, N_P, N_keep, keep_u, ty_shapeT_93, ty_zeroCells_93, ty_shapeT_91, ev_build ty_zeroCells_93 ty_placesOf_93, ty_szOf_93, ty_fieldOff_178_1, ty_szOf_3, ty_shapeT_3, ev_build ty_zeroCells_174 ty_placesOf_174, ty_concreteT_174, ty_fieldOff_93_1, ty_szOf_91, ty_zeroCells_91, ty_fieldOff_93_2, ty_szOf_23, hr, ho, hc, hu, good_o, good_c, good_u, e0, e1, e5, ew, Ne.tok0]
theorem one_pan (t : Tok) (l : List Tok) (deep wi : Int) (b1 b2 : List CV) (h : Ne.opens t ≠ 0) (hw : wi < deep) (hd : 0 ≤ wi ∧ deep < 1000)
    (hu : den KN 148 [P0, .c (.loc 100001 0), I (wi + 1)] [rdr l deep, closeA (Ne.opens t)] = some (.pan errD [b1, b2])) :
    ∃ b, den KN 174 [P0, .agg (tokA t), I wi] [rdr l deep] = some (.pan errD [b]) := by
  refine den_runE rfl Tryz.func174 rfl Tryz.ntmps174 ⟨by simp, by simp [LK]⟩ ?_
  have ho := opensA t
  have hc := closingA (Ne.opens t)
  have e0 : (Ne.opens t == 0) = false := by rw [beq_eq_false_iff_ne]; exact h
  have e1 : decide (deep ≤ wi) = false := decide_eq_false (by omega)
  have ew : IntKind.i64.wrap (wi + 1) = wi + 1 := IntWalk.i64_in _ (by omega)
  by_cases h5 : Ne.opens t = 5
  · have e5 : (Ne.opens t == 5) = true := by rw [beq_iff_eq]; exact h5
    simp only [go_sem, Nat.reduceLT, reduceIte, reduceCtorEq, Nat.reduceEqDiff, apply_ite (Option.map (outOf _)), Nat.reduceBEq, Nat.reduceAdd, Nat.reduceSub, Nat.reduceLeDiff, Nat.reduceMul, regionN, N_own, N_ownP, N_P, N_keep, keep_u, ty_shapeT_93, ty_zeroCells_93, ty_shapeT_91, ev_build ty_zeroCells_93 ty_placesOf_93, ty_szOf_93, ty_fieldOff_178_1, ty_szOf_3, ty_shapeT_3, ev_build ty_zeroCells_174 ty_placesOf_174, ty_concreteT_174, ty_fieldOff_93_1, ty_szOf_91, ty_zeroCells_91, ty_fieldOff_93_2, ty_szOf_23, ho, hc, hu, good_o, good_c, good_u, e0, e1, e5, ew]
    exact ⟨_, rfl⟩
  · have e5 : (Ne.opens t == 5) = false := by rw [beq_eq_false_iff_ne]; exact h5
    simp only [go_sem, Nat.reduceLT, reduceIte, reduceCtorEq, Nat.reduceEqDiff, apply_ite (Option.map (outOf _)), Nat.reduceBEq, Nat.reduceAdd, Nat.reduceSub, Nat.reduceLeDiff, Nat.reduceMul, regionN, N_own, N_ownP, N_P, N_keep, keep_u, ty_shapeT_93, ty_zeroCells_93, ty_shapeT_91, ev_build ty_zeroCells_93 ty_placesOf_93, ty_szOf_93, ty_fieldOff_178_1, ty_szOf_3, ty_shapeT_3, ev_build ty_zeroCells_174 ty_placesOf_174, ty_concreteT_174, ty_fieldOff_93_1, ty_szOf_91, ty_zeroCells_91, ty_fieldOff_93_2, ty_szOf_23, ho, hc, hu, good_o, good_c, good_u, e0, e1, e5, ew]
    exact ⟨_, rfl⟩
theorem exL_headN (f : FuncId) (a : Code) (S : St) : exL KN f (.loop a) S = exL KN f (.loop a) (head (keepN f ((firstReg a).getD 0)) S) := by
  rw [exL_loop, exL_loop (S := head _ S), N_keep, head_head]
inductive Kd : Int → AV → Option (List CV) → List (List CV) → Prop
  | top : Kd 0 (.c .nilp) none []
  | inner (k : Int) (h : 0 < k) : Kd k (.c (.loc 100001 0)) (some (closeA k)) [closeA k]
abbrev uH (l : List Tok) (deep wi : Int) (ka : AV) (kb : Option (List CV)) (e : Nat) (acc : List Val) : St :=
  { sl := upd (upd (upd (upd bot 7 (.c (.own e (encL acc)))) 2 (I wi)) 1 ka) 0 P0, bx := upd (upd nobox 100001 kb) 100000 (some (rdr l deep)), nt := 46 }
def ULoop (l : List Tok) (kind : Int) (left : Nat) (deep wi : Int) (ka : AV) (kb : Option (List CV)) (acc : List Val) (o : Out) (S : St) : Prop :=
  match Ne.until_ kind left l with
  | some (vs, rest) => o = .exit 0 ∧ S.nt = 46 ∧ (∃ e, S.sl 7 = .c (.own e (encL (acc ++ vs)))) ∧ S.bx 100000 = some (rdr rest deep) ∧ S.bx 100001 = kb
  | none => o = .pan errD ∧ (∃ b, S.bx 100000 = some b) ∧ S.bx 100001 = kb
def UDen (l : List Tok) (kind : Int) (left : Nat) (deep wi : Int) (ka : AV) (kl : List (List CV)) : Prop :=
  match Ne.until_ kind left l with
  | some (vs, rest) => den KN 148 [P0, ka, I wi] (rdr l deep :: kl) = some (.ret (L (encL vs)) (rdr rest deep :: kl))
  | none => ∃ b, den KN 148 [P0, ka, I wi] (rdr l deep :: kl) = some (.pan errD (b :: kl))
noncomputable def ulp : Code := .loop (loopAt Tryz.f148 2)
theorem u_den {l : List Tok} {kind : Int} {left : Nat} {deep wi : Int} {ka : AV} {kb : Option (List CV)} {kl : List (List CV)} (hk : Kd kind ka kb kl)
    (h : Ends (exL KN 148 ulp (uH l deep wi ka kb 0 [])) (ULoop l kind left deep wi ka kb [])) : UDen l kind left deep wi ka kl := by
  have hr : Tryz.f148.results = #[.tmp 6] := rfl
  unfold ulp at h
  conv at h in loopAt _ _ => whnf
  obtain ⟨o, S', w, hq⟩ := h
  unfold ULoop at hq
  unfold UDen
  cases hu : Ne.until_ kind left l with
  | some x =>
    obtain ⟨vs, rest⟩ := x
    rw [hu] at hq
    obtain ⟨rfl, hn, ⟨e, h7⟩, hb, hb2⟩ := hq
    rw [List.nil_append] at h7
    simp only
    refine den_runN rfl Tryz.func148 rfl Tryz.ntmps148 ⟨by simp, by simp [LK]⟩ ?_
    cases hk with
    | top =>
      simp only [go_sem, Nat.reduceLT, reduceIte, reduceCtorEq, Nat.reduceEqDiff, apply_ite (Option.map (outOf _)), Nat.reduceBEq, Nat.reduceAdd, Nat.reduceSub, Nat.reduceLeDiff, Nat.reduceMul, regionN, N_own, N_ownP, N_P, N_keep, keep_u, ty_fieldOff_178_0, ty_szOf_60, ty_shapeT_60, ev_len_sl ty_descOf_60, ev_indexAddr ty_descOf_60, ty_szOf_91, ty_shapeT_91, ty_zeroCells_91, ev_slice_sl ty_descOf_60 ty_szOf_91, ty_isPtrT_201, ev_buildSlice (len := 1) ty_descOf_23 ty_szOf_93 ty_zeroCells_93 ⟨rfl, by decide, by decide⟩, ev_append ty_appInfo_23, ev_appNew_sl ty_descOf_23, hr]
      rw [exL_headN]
      simp only [go_sem, Nat.reduceLT, reduceIte, reduceCtorEq, Nat.reduceEqDiff, apply_ite (Option.map (outOf _)), Nat.reduceBEq, Nat.reduceAdd, Nat.reduceSub, Nat.reduceLeDiff, Nat.reduceMul, regionN, N_own, N_ownP, N_P, N_keep, keep_u, ty_fieldOff_178_0, ty_szOf_60, ty_shapeT_60, ev_len_sl ty_descOf_60, ev_indexAddr ty_descOf_60, ty_szOf_91, ty_shapeT_91, ty_zeroCells_91, ev_slice_sl ty_descOf_60 ty_szOf_91, ty_isPtrT_201, ev_buildSlice (len := 1) ty_descOf_23 ty_szOf_93 ty_zeroCells_93 ⟨rfl, by decide, by decide⟩, ev_append ty_appInfo_23, ev_appNew_sl ty_descOf_23]
      erw [w]
      simp only [go_sem, Nat.reduceLT, reduceIte, reduceCtorEq, Nat.reduceEqDiff, apply_ite (Option.map (outOf _)), Nat.reduceBEq, Nat.reduceAdd, Nat.reduceSub, Nat.reduceLeDiff, Nat.reduceMul, regionN, N_own, N_ownP, N_P, N_keep, keep_u, ty_fieldOff_178_0, ty_szOf_60, ty_shapeT_60, ev_len_sl ty_descOf_60, ev_indexAddr ty_descOf_60, ty_szOf_91, ty_shapeT_91, ty_zeroCells_91, ev_slice_sl ty_descOf_60 ty_szOf_91, ty_isPtrT_201, ev_buildSlice (len := 1) ty_descOf_23 ty_szOf_93 ty_zeroCells_93 ⟨rfl, by decide, by decide⟩, ev_append ty_appInfo_23, ev_appNew_sl ty_descOf_23, hr, hn, h7, hb, hb2]
    | inner k hk =>
      simp only [go_sem, Nat.reduceLT, reduceIte, reduceCtorEq, Nat.reduceEqDiff, apply_ite (Option.map (outOf _)), Nat.reduceBEq, Nat.reduceAdd, Nat.reduceSub, Nat.reduceLeDiff, Nat.reduceMul, regionN, N_own, N_ownP, N_P, N_keep, keep_u, ty_fieldOff_178_0, ty_szOf_60, ty_shapeT_60, ev_len_sl ty_descOf_60, ev_indexAddr ty_descOf_60, ty_szOf_91, ty_shapeT_91, ty_zeroCells_91, ev_slice_sl ty_descOf_60 ty_szOf_91, ty_isPtrT_201, ev_buildSlice (len := 1) ty_descOf_23 ty_szOf_93 ty_zeroCells_93 ⟨rfl, by decide, by decide⟩, ev_append ty_appInfo_23, ev_appNew_sl ty_descOf_23, hr]
      rw [exL_headN]
      simp only [go_sem, Nat.reduceLT, reduceIte, reduceCtorEq, Nat.reduceEqDiff, apply_ite (Option.map (outOf _)), Nat.reduceBEq, Nat.reduceAdd, Nat.reduceSub, Nat.reduceLeDiff, Nat.reduceMul, regionN, N_own, N_ownP, N_P, N_keep, keep_u, ty_fieldOff_178_0, ty_szOf_60, ty_shapeT_60, ev_len_sl ty_descOf_60, ev_indexAddr ty_descOf_60, ty_szOf_91, ty_shapeT_91, ty_zeroCells_91, ev_slice_sl ty_descOf_60 ty_szOf_91, ty_isPtrT_201, ev_buildSlice (len := 1) ty_descOf_23 ty_szOf_93 ty_zeroCells_93 ⟨rfl, by decide, by decide⟩, ev_append ty_appInfo_23, ev_appNew_sl ty_descOf_23]
      erw [w]
      simp only [go_sem, Nat.reduceLT, reduceIte, reduceCtorEq, Nat.reduceEqDiff, apply_ite (Option.map (outOf _)), Nat.reduceBEq, Nat.reduceAdd, Nat.reduceSub, Nat.reduceLeDiff, Nat.reduceMul, regionN, N_own, N_ownP, N_P, N_keep, keep_u, ty_fieldOff_178_0, ty_szOf_60, ty_shapeT_60, ev_len_sl ty_descOf_60, ev_indexAddr ty_descOf_60, ty_szOf_91, ty_shapeT_91, ty_zeroCells_91, ev_slice_sl ty_descOf_60 ty_szOf_91, ty_isPtrT_201, ev_buildSlice (len := 1) ty_descOf_23 ty_szOf_93 ty_zeroCells_93 ⟨rfl, by decide, by decide⟩, ev_append ty_appInfo_23, ev_appNew_sl ty_descOf_23, hr, hn, h7, hb, hb2]
  | none =>
    rw [hu] at hq
    obtain ⟨rfl, ⟨b, hb⟩, hb2⟩ := hq
    simp only
    refine den_runE rfl Tryz.func148 rfl Tryz.ntmps148 ⟨by simp, by simp [LK]⟩ ?_
    cases hk with
    | top =>
      simp only [go_sem, Nat.reduceLT, reduceIte, reduceCtorEq, Nat.reduceEqDiff, apply_ite (Option.map (outOf _)), Nat.reduceBEq, Nat.reduceAdd, Nat.reduceSub, Nat.reduceLeDiff, Nat.reduceMul, regionN, N_own, N_ownP, N_P, N_keep, keep_u, ty_fieldOff_178_0, ty_szOf_60, ty_shapeT_60, ev_len_sl ty_descOf_60, ev_indexAddr ty_descOf_60, ty_szOf_91, ty_shapeT_91, ty_zeroCells_91, ev_slice_sl ty_descOf_60 ty_szOf_91, ty_isPtrT_201, ev_buildSlice (len := 1) ty_descOf_23 ty_szOf_93 ty_zeroCells_93 ⟨rfl, by decide, by decide⟩, ev_append ty_appInfo_23, ev_appNew_sl ty_descOf_23, hr]
      rw [exL_headN]
      simp only [go_sem, Nat.reduceLT, reduceIte, reduceCtorEq, Nat.reduceEqDiff, apply_ite (Option.map (outOf _)), Nat.reduceBEq, Nat.reduceAdd, Nat.reduceSub, Nat.reduceLeDiff, Nat.reduceMul, regionN, N_own, N_ownP, N_P, N_keep, keep_u, ty_fieldOff_178_0, ty_szOf_60, ty_shapeT_60, ev_len_sl ty_descOf_60, ev_indexAddr ty_descOf_60, ty_szOf_91, ty_shapeT_91, ty_zeroCells_91, ev_slice_sl ty_descOf_60 ty_szOf_91, ty_isPtrT_201, ev_buildSlice (len := 1) ty_descOf_23 ty_szOf_93 ty_zeroCells_93 ⟨rfl, by decide, by decide⟩, ev_append ty_appInfo_23, ev_appNew_sl ty_descOf_23]
      erw [w]
      simp only [go_sem, Nat.reduceLT, reduceIte, reduceCtorEq, Nat.reduceEqDiff, apply_ite (Option.map (outOf _)), Nat.reduceBEq, Nat.reduceAdd, Nat.reduceSub, Nat.reduceLeDiff, Nat.reduceMul, regionN, N_own, N_ownP, N_P, N_keep, keep_u, ty_fieldOff_178_0, ty_szOf_60, ty_shapeT_60, ev_len_sl ty_descOf_60, ev_indexAddr ty_descOf_60, ty_szOf_91, ty_shapeT_91, ty_zeroCells_91, ev_slice_sl ty_descOf_60 ty_szOf_91, ty_isPtrT_201, ev_buildSlice (len := 1) ty_descOf_23 ty_szOf_93 ty_zeroCells_93 ⟨rfl, by decide, by decide⟩, ev_append ty_appInfo_23, ev_appNew_sl ty_descOf_23, hb, hb2]
      exact ⟨_, rfl⟩
    | inner k hk =>
      simp only [go_sem, Nat.reduceLT, reduceIte, reduceCtorEq, Nat.reduceEqDiff, apply_ite (Option.map (outOf _)), Nat.reduceBEq, Nat.reduceAdd, Nat.reduceSub, Nat.reduceLeDiff, Nat.reduceMul, regionN, N_own, N_ownP, N_P, N_keep, keep_u, ty_fieldOff_178_0, ty_szOf_60, ty_shapeT_60, ev_len_sl ty_descOf_60, ev_indexAddr ty_descOf_60, ty_szOf_91, ty_shapeT_91, ty_zeroCells_91, ev_slice_sl ty_descOf_60 ty_szOf_91, ty_isPtrT_201, ev_buildSlice (len := 1) ty_descOf_23 ty_szOf_93 ty_zeroCells_93 ⟨rfl, by decide, by decide⟩, ev_append ty_appInfo_23, ev_appNew_sl ty_descOf_23, hr]
      rw [exL_headN]
      simp only [go_sem, Nat.reduceLT, reduceIte, reduceCtorEq, Nat.reduceEqDiff, apply_ite (Option.map (outOf _)), Nat.reduceBEq, Nat.reduceAdd, Nat.reduceSub, Nat.reduceLeDiff, Nat.reduceMul, regionN, N_own, N_ownP, N_P, N_keep, keep_u, ty_fieldOff_178_0, ty_szOf_60, ty_shapeT_60, ev_len_sl ty_descOf_60, ev_indexAddr ty_descOf_60, ty_szOf_91, ty_shapeT_91, ty_zeroCells_91, ev_slice_sl ty_descOf_60 ty_szOf_91, ty_isPtrT_201, ev_buildSlice (len := 1) ty_descOf_23 ty_szOf_93 ty_zeroCells_93 ⟨rfl, by decide, by decide⟩, ev_append ty_appInfo_23, ev_appNew_sl ty_descOf_23]
      erw [w]
      simp only [go_sem, Nat.reduceLT, reduceIte, reduceCtorEq, Nat.reduceEqDiff, apply_ite (Option.map (outOf _)), Nat.reduceBEq, Nat.reduceAdd, Nat.reduceSub, Nat.reduceLeDiff, Nat.reduceMul, regionN, N_own, N_ownP, N_P, N_keep, keep_u, ty_fieldOff_178_0, ty_szOf_60, ty_shapeT_60, ev_len_sl ty_descOf_60, ev_indexAddr ty_descOf_60, ty_szOf_91, ty_shapeT_91, ty_zeroCells_91, ev_slice_sl ty_descOf_60 ty_szOf_91, ty_isPtrT_201, ev_buildSlice (len := 1) ty_descOf_23 ty_szOf_93 ty_zeroCells_93 ⟨rfl, by decide, by decide⟩, ev_append ty_appInfo_23, ev_appNew_sl ty_descOf_23, hb, hb2]
      exact ⟨_, rfl⟩
theorem kd_last {kind : Int} {ka : AV} {kb : Option (List CV)} {kl : List (List CV)} (hk : Kd kind ka kb kl) (t : Tok) :
    (kb = none ∧ ka = .c .nilp ∧ Ne.isLast kind t = false) ∨ (kb = some (closeA kind) ∧ ka = .c (.loc 100001 0) ∧
      Ne.isLast kind t = ((t.kind == 7) && ((t.text == [Ne.closeC kind]) && ((t.n == 0) && true)))) := by
  cases hk with
  | top => exact .inl ⟨rfl, rfl, Ne.last_zero t⟩
  | inner k h =>
    refine .inr ⟨rfl, rfl, ?_⟩
    have := tok_beq t (Ne.closeT kind)
    unfold Ne.isLast
    rw [decide_eq_true h, Bool.true_and, ← this]
    rfl
theorem u_nil {kind : Int} {left : Nat} {deep wi : Int} {ka : AV} {kb : Option (List CV)} {kl : List (List CV)} (hk : Kd kind ka kb kl) (e : Nat) (acc : List Val) :
    Ends (exL KN 148 ulp (uH [] deep wi ka kb e acc)) (ULoop [] kind left deep wi ka kb acc) := by
  unfold ULoop
  rw [Ne.until_nil]
  unfold ulp
  have e00 : decide ((0 : Int) < ((0 : Nat) : Int)) = false := by decide
  conv in loopAt _ _ => whnf
  rw [exL_loop]
  cases hk with
  | top =>
    simp only [go_sem, Nat.reduceLT, reduceIte, reduceCtorEq, Nat.reduceEqDiff, apply_ite (Option.map (outOf _)), Nat.reduceBEq, Nat.reduceAdd, Nat.reduceSub, Nat.reduceLeDiff, Nat.reduceMul, regionN, N_own, N_ownP, N_P, N_keep, keep_u, ty_fieldOff_178_0, ty_szOf_60, ty_shapeT_60, ev_len_sl ty_descOf_60, ev_indexAddr ty_descOf_60, ty_szOf_91, ty_shapeT_91, ty_zeroCells_91, ev_slice_sl ty_descOf_60 ty_szOf_91, ty_isPtrT_201, ev_buildSlice (len := 1) ty_descOf_23 ty_szOf_93 ty_zeroCells_93 ⟨rfl, by decide, by decide⟩, ev_append ty_appInfo_23, ev_appNew_sl ty_descOf_23, ends_some, e00]
    exact ⟨⟨e, rfl⟩, rfl⟩
  | inner k h =>
    simp only [go_sem, Nat.reduceLT, reduceIte, reduceCtorEq, Nat.reduceEqDiff, apply_ite (Option.map (outOf _)), Nat.reduceBEq, Nat.reduceAdd, Nat.reduceSub, Nat.reduceLeDiff, Nat.reduceMul, regionN, N_own, N_ownP, N_P, N_keep, keep_u, ty_fieldOff_178_0, ty_szOf_60, ty_shapeT_60, ev_len_sl ty_descOf_60, ev_indexAddr ty_descOf_60, ty_szOf_91, ty_shapeT_91, ty_zeroCells_91, ev_slice_sl ty_descOf_60 ty_szOf_91, ty_isPtrT_201, ev_buildSlice (len := 1) ty_descOf_23 ty_szOf_93 ty_zeroCells_93 ⟨rfl, by decide, by decide⟩, ev_append ty_appInfo_23, ev_appNew_sl ty_descOf_23, ends_some, e00]
    exact ⟨⟨e, rfl⟩, rfl⟩
theorem u_last {t : Tok} {l : List Tok} {kind : Int} {left : Nat} {deep wi : Int} {ka : AV} {kb : Option (List CV)} {kl : List (List CV)} (hk : Kd kind ka kb kl) (h : Ne.isLast kind t = true) (e : Nat) (acc : List Val) :
    Ends (exL KN 148 ulp (uH (t :: l) deep wi ka kb e acc)) (ULoop (t :: l) kind left deep wi ka kb acc) := by
  have e0 : (t :: l).map Tok.enc = [.int .i64 t.kind, .str t.text, .int .i64 t.n] :: l.map Tok.enc := rfl
  have hlt : decide ((0 : Int) < ((l.length + 1 : Nat) : Int)) = true := decide_eq_true (by omega)
  have htk : (l.map Tok.enc).take l.length = l.map Tok.enc := List.take_of_length_le (by simp)
  have h01 : (0 : Int) ≤ 1 := by decide
  have h1l : (1 : Int) ≤ ((l.length + 1 : Nat) : Int) := by omega
  have hlens : lens 3 ([.int .i64 t.kind, .str t.text, .int .i64 t.n] :: l.map Tok.enc) = true := lens_toks (t :: l)
  have hu := Ne.until_cons kind left t l
  rw [h, if_pos rfl] at hu
  unfold ULoop
  rw [hu]
  have heq := tok_eq t.kind 7 t.n 0 t.text [Ne.closeC kind]
  have hkd := kd_last hk t
  rw [h] at hkd
  rcases hkd with ⟨_, _, hf⟩ | ⟨rfl, rfl, hf⟩
  · cases hf
  · rw [← hf] at heq
    unfold ulp
    conv in loopAt _ _ => whnf
    rw [exL_loop]
    simp only [go_sem, Nat.reduceLT, reduceIte, reduceCtorEq, Nat.reduceEqDiff, apply_ite (Option.map (outOf _)), Nat.reduceBEq, Nat.reduceAdd, Nat.reduceSub, Nat.reduceLeDiff, Nat.reduceMul, regionN, N_own, N_ownP, N_P, N_keep, keep_u, ty_fieldOff_178_0, ty_szOf_60, ty_shapeT_60, ev_len_sl ty_descOf_60, ev_indexAddr ty_descOf_60, ty_szOf_91, ty_shapeT_91, ty_zeroCells_91, ev_slice_sl ty_descOf_60 ty_szOf_91, ty_isPtrT_201, ev_buildSlice (len := 1) ty_descOf_23 ty_szOf_93 ty_zeroCells_93 ⟨rfl, by decide, by decide⟩, ev_append ty_appInfo_23, ev_appNew_sl ty_descOf_23, ends_some, e0, hlt, hlens, htk, h01, h1l, Int.le_refl, Int.toNat_zero, Int.toNat_one, heq]
    exact ⟨e, rfl⟩
theorem u_step {t : Tok} {l rest : List Tok} {kind : Int} {deep wi : Int} {ka : AV} {kb : Option (List CV)} {kl : List (List CV)} (hk : Kd kind ka kb kl) (h : Ne.isLast kind t = false) (e : Nat) (acc acc' : List Val)
    (he : e = 93 ∨ acc = []) (hacc : acc.length < 1000000) {a b c d : PV} {z : CV} {x : List (List PV)} (hz : (z = .nils ∧ x = []) ∨ z = .pv (.sl x)) (henc : encL acc' = encL acc ++ [[a, b, c, d, .sl x]])
    (hone : den KN 174 [P0, .agg (tokA t), I wi] [rdr l deep] = some (.ret (.agg [.pv a, .pv b, .pv c, .pv d, z]) [rdr rest deep])) :
    exL KN 148 ulp (uH (t :: l) deep wi ka kb e acc) = exL KN 148 ulp (uH rest deep wi ka kb 93 acc') := by
  have e0 : (t :: l).map Tok.enc = [.int .i64 t.kind, .str t.text, .int .i64 t.n] :: l.map Tok.enc := rfl
  have hlt : decide ((0 : Int) < ((l.length + 1 : Nat) : Int)) = true := decide_eq_true (by omega)
  have htk : (l.map Tok.enc).take l.length = l.map Tok.enc := List.take_of_length_le (by simp)
  have h01 : (0 : Int) ≤ 1 := by decide
  have h1l : (1 : Int) ≤ ((l.length + 1 : Nat) : Int) := by omega
  have hlens : lens 3 ([.int .i64 t.kind, .str t.text, .int .i64 t.n] :: l.map Tok.enc) = true := lens_toks (t :: l)
  have heq := tok_eq t.kind 7 t.n 0 t.text [Ne.closeC kind]
  have hkd := kd_last hk t
  rw [h] at hkd
  have hown : e = 93 ∨ (encL acc).isEmpty = true := by
    rcases he with rfl | rfl
    · exact .inl rfl
    · exact .inr rfl
  have hlim : acc.length + 1 < appLim := by unfold appLim; omega
  have hlv := lens_vals acc
  unfold ulp
  conv in loopAt _ _ => whnf
  conv in loopAt _ _ => whnf
  conv => lhs; rw [exL_loop]
  symm at henc
  rcases hkd with ⟨rfl, rfl, hf⟩ | ⟨rfl, rfl, hf⟩
  · rcases hz with ⟨rfl, rfl⟩ | rfl
    · simp only [go_sem, Nat.reduceLT, reduceIte, reduceCtorEq, Nat.reduceEqDiff, apply_ite (Option.map (outOf _)), Nat.reduceBEq, Nat.reduceAdd, Nat.reduceSub, Nat.reduceLeDiff, Nat.reduceMul, regionN, N_own, N_ownP, N_P, N_keep, keep_u, ty_fieldOff_178_0, ty_szOf_60, ty_shapeT_60, ev_len_sl ty_descOf_60, ev_indexAddr ty_descOf_60, ty_szOf_91, ty_shapeT_91, ty_zeroCells_91, ev_slice_sl ty_descOf_60 ty_szOf_91, ty_isPtrT_201, ev_buildSlice (len := 1) ty_descOf_23 ty_szOf_93 ty_zeroCells_93 ⟨rfl, by decide, by decide⟩, ev_append ty_appInfo_23, ev_appNew_sl ty_descOf_23, e0, hlt, hlens, htk, h01, h1l, Int.le_refl, Int.toNat_zero, Int.toNat_one, heq, hone, good_1, encL_len, hlim, hlv, lens_val, hown, henc]
      rw [exL_headN]
      simp only [go_sem, Nat.reduceLT, reduceIte, reduceCtorEq, Nat.reduceEqDiff, apply_ite (Option.map (outOf _)), Nat.reduceBEq, Nat.reduceAdd, Nat.reduceSub, Nat.reduceLeDiff, Nat.reduceMul, regionN, N_own, N_ownP, N_P, N_keep, keep_u, ty_fieldOff_178_0, ty_szOf_60, ty_shapeT_60, ev_len_sl ty_descOf_60, ev_indexAddr ty_descOf_60, ty_szOf_91, ty_shapeT_91, ty_zeroCells_91, ev_slice_sl ty_descOf_60 ty_szOf_91, ty_isPtrT_201, ev_buildSlice (len := 1) ty_descOf_23 ty_szOf_93 ty_zeroCells_93 ⟨rfl, by decide, by decide⟩, ev_append ty_appInfo_23, ev_appNew_sl ty_descOf_23]
    · simp only [go_sem, Nat.reduceLT, reduceIte, reduceCtorEq, Nat.reduceEqDiff, apply_ite (Option.map (outOf _)), Nat.reduceBEq, Nat.reduceAdd, Nat.reduceSub, Nat.reduceLeDiff, Nat.reduceMul, regionN, N_own, N_ownP, N_P, N_keep, keep_u, ty_fieldOff_178_0, ty_szOf_60, ty_shapeT_60, ev_len_sl ty_descOf_60, ev_indexAddr ty_descOf_60, ty_szOf_91, ty_shapeT_91, ty_zeroCells_91, ev_slice_sl ty_descOf_60 ty_szOf_91, ty_isPtrT_201, ev_buildSlice (len := 1) ty_descOf_23 ty_szOf_93 ty_zeroCells_93 ⟨rfl, by decide, by decide⟩, ev_append ty_appInfo_23, ev_appNew_sl ty_descOf_23, e0, hlt, hlens, htk, h01, h1l, Int.le_refl, Int.toNat_zero, Int.toNat_one, heq, hone, good_1, encL_len, hlim, hlv, lens_val, hown, henc]
      rw [exL_headN]
      simp only [go_sem, Nat.reduceLT, reduceIte, reduceCtorEq, Nat.reduceEqDiff, apply_ite (Option.map (outOf _)), Nat.reduceBEq, Nat.reduceAdd, Nat.reduceSub, Nat.reduceLeDiff, Nat.reduceMul, regionN, N_own, N_ownP, N_P, N_keep, keep_u, ty_fieldOff_178_0, ty_szOf_60, ty_shapeT_60, ev_len_sl ty_descOf_60, ev_indexAddr ty_descOf_60, ty_szOf_91, ty_shapeT_91, ty_zeroCells_91, ev_slice_sl ty_descOf_60 ty_szOf_91, ty_isPtrT_201, ev_buildSlice (len := 1) ty_descOf_23 ty_szOf_93 ty_zeroCells_93 ⟨rfl, by decide, by decide⟩, ev_append ty_appInfo_23, ev_appNew_sl ty_descOf_23]
  · rw [← hf] at heq
    rcases hz with ⟨rfl, rfl⟩ | rfl
    · simp only [go_sem, Nat.reduceLT, reduceIte, reduceCtorEq, Nat.reduceEqDiff, apply_ite (Option.map (outOf _)), Nat.reduceBEq, Nat.reduceAdd, Nat.reduceSub, Nat.reduceLeDiff, Nat.reduceMul, regionN, N_own, N_ownP, N_P, N_keep, keep_u, ty_fieldOff_178_0, ty_szOf_60, ty_shapeT_60, ev_len_sl ty_descOf_60, ev_indexAddr ty_descOf_60, ty_szOf_91, ty_shapeT_91, ty_zeroCells_91, ev_slice_sl ty_descOf_60 ty_szOf_91, ty_isPtrT_201, ev_buildSlice (len := 1) ty_descOf_23 ty_szOf_93 ty_zeroCells_93 ⟨rfl, by decide, by decide⟩, ev_append ty_appInfo_23, ev_appNew_sl ty_descOf_23, e0, hlt, hlens, htk, h01, h1l, Int.le_refl, Int.toNat_zero, Int.toNat_one, heq, hone, good_1, encL_len, hlim, hlv, lens_val, hown, henc]
      rw [exL_headN]
      simp only [go_sem, Nat.reduceLT, reduceIte, reduceCtorEq, Nat.reduceEqDiff, apply_ite (Option.map (outOf _)), Nat.reduceBEq, Nat.reduceAdd, Nat.reduceSub, Nat.reduceLeDiff, Nat.reduceMul, regionN, N_own, N_ownP, N_P, N_keep, keep_u, ty_fieldOff_178_0, ty_szOf_60, ty_shapeT_60, ev_len_sl ty_descOf_60, ev_indexAddr ty_descOf_60, ty_szOf_91, ty_shapeT_91, ty_zeroCells_91, ev_slice_sl ty_descOf_60 ty_szOf_91, ty_isPtrT_201, ev_buildSlice (len := 1) ty_descOf_23 ty_szOf_93 ty_zeroCells_93 ⟨rfl, by decide, by decide⟩, ev_append ty_appInfo_23, ev_appNew_sl ty_descOf_23]
    · simp only [go_sem, Nat.reduceLT, reduceIte, reduceCtorEq, Nat.reduceEqDiff, apply_ite (Option.map (outOf _)), Nat.reduceBEq, Nat.reduceAdd, Nat.reduceSub, Nat.reduceLeDiff, Nat.reduceMul, regionN, N_own, N_ownP, N_P, N_keep, keep_u, ty_fieldOff_178_0, ty_szOf_60, ty_shapeT_60, ev_len_sl ty_descOf_60, ev_indexAddr ty_descOf_60, ty_szOf_91, ty_shapeT_91, ty_zeroCells_91, ev_slice_sl ty_descOf_60 ty_szOf_91, ty_isPtrT_201, ev_buildSlice (len := 1) ty_descOf_23 ty_szOf_93 ty_zeroCells_93 ⟨rfl, by decide, by decide⟩, ev_append ty_appInfo_23, ev_appNew_sl ty_descOf_23, e0, hlt, hlens, htk, h01, h1l, Int.le_refl, Int.toNat_zero, Int.toNat_one, heq, hone, good_1, encL_len, hlim, hlv, lens_val, hown, henc]
      rw [exL_headN]
      simp only [go_sem, Nat.reduceLT, reduceIte, reduceCtorEq, Nat.reduceEqDiff, apply_ite (Option.map (outOf _)), Nat.reduceBEq, Nat.reduceAdd, Nat.reduceSub, Nat.reduceLeDiff, Nat.reduceMul, regionN, N_own, N_ownP, N_P, N_keep, keep_u, ty_fieldOff_178_0, ty_szOf_60, ty_shapeT_60, ev_len_sl ty_descOf_60, ev_indexAddr ty_descOf_60, ty_szOf_91, ty_shapeT_91, ty_zeroCells_91, ev_slice_sl ty_descOf_60 ty_szOf_91, ty_isPtrT_201, ev_buildSlice (len := 1) ty_descOf_23 ty_szOf_93 ty_zeroCells_93 ⟨rfl, by decide, by decide⟩, ev_append ty_appInfo_23, ev_appNew_sl ty_descOf_23]
theorem u_stop {t : Tok} {l : List Tok} {kind : Int} {deep wi : Int} {ka : AV} {kb : Option (List CV)} {kl : List (List CV)} (hk : Kd kind ka kb kl) (h : Ne.isLast kind t = false) (e : Nat) (acc : List Val) {b : List CV}
    (hone : den KN 174 [P0, .agg (tokA t), I wi] [rdr l deep] = some (.pan errD [b])) :
    Ends (exL KN 148 ulp (uH (t :: l) deep wi ka kb e acc)) fun o S => o = .pan errD ∧ (∃ b, S.bx 100000 = some b) ∧ S.bx 100001 = kb := by
  have e0 : (t :: l).map Tok.enc = [.int .i64 t.kind, .str t.text, .int .i64 t.n] :: l.map Tok.enc := rfl
  have hlt : decide ((0 : Int) < ((l.length + 1 : Nat) : Int)) = true := decide_eq_true (by omega)
  have htk : (l.map Tok.enc).take l.length = l.map Tok.enc := List.take_of_length_le (by simp)
  have h01 : (0 : Int) ≤ 1 := by decide
  have h1l : (1 : Int) ≤ ((l.length + 1 : Nat) : Int) := by omega
  have hlens : lens 3 ([.int .i64 t.kind, .str t.text, .int .i64 t.n] :: l.map Tok.enc) = true := lens_toks (t :: l)
  have heq := tok_eq t.kind 7 t.n 0 t.text [Ne.closeC kind]
  have hkd := kd_last hk t
  rw [h] at hkd
  unfold ulp
  conv in loopAt _ _ => whnf
  rw [exL_loop]
  rcases hkd with ⟨rfl, rfl, hf⟩ | ⟨rfl, rfl, hf⟩
  · simp only [go_sem, Nat.reduceLT, reduceIte, reduceCtorEq, Nat.reduceEqDiff, apply_ite (Option.map (outOf _)), Nat.reduceBEq, Nat.reduceAdd, Nat.reduceSub, Nat.reduceLeDiff, Nat.reduceMul, regionN, N_own, N_ownP, N_P, N_keep, keep_u, ty_fieldOff_178_0, ty_szOf_60, ty_shapeT_60, ev_len_sl ty_descOf_60, ev_indexAddr ty_descOf_60, ty_szOf_91, ty_shapeT_91, ty_zeroCells_91, ev_slice_sl ty_descOf_60 ty_szOf_91, ty_isPtrT_201, ev_buildSlice (len := 1) ty_descOf_23 ty_szOf_93 ty_zeroCells_93 ⟨rfl, by decide, by decide⟩, ev_append ty_appInfo_23, ev_appNew_sl ty_descOf_23, e0, hlt, hlens, htk, h01, h1l, Int.le_refl, Int.toNat_zero, Int.toNat_one, heq, hone, good_1, ends_some]
    exact ⟨_, rfl⟩
  · rw [← hf] at heq
    simp only [go_sem, Nat.reduceLT, reduceIte, reduceCtorEq, Nat.reduceEqDiff, apply_ite (Option.map (outOf _)), Nat.reduceBEq, Nat.reduceAdd, Nat.reduceSub, Nat.reduceLeDiff, Nat.reduceMul, regionN, N_own, N_ownP, N_P, N_keep, keep_u, ty_fieldOff_178_0, ty_szOf_60, ty_shapeT_60, ev_len_sl ty_descOf_60, ev_indexAddr ty_descOf_60, ty_szOf_91, ty_shapeT_91, ty_zeroCells_91, ev_slice_sl ty_descOf_60 ty_szOf_91, ty_isPtrT_201, ev_buildSlice (len := 1) ty_descOf_23 ty_szOf_93 ty_zeroCells_93 ⟨rfl, by decide, by decide⟩, ev_append ty_appInfo_23, ev_appNew_sl ty_descOf_23, e0, hlt, hlens, htk, h01, h1l, Int.le_refl, Int.toNat_zero, Int.toNat_one, heq, hone, good_1, ends_some]
    exact ⟨_, rfl⟩
theorem enc_snoc (acc : List Val) (k : Int) (t : Tok) (vs : List Val) : encL (acc ++ [.mk k t vs]) = encL acc ++ [[.int .i64 k, .int .i64 t.kind, .str t.text, .int .i64 t.n, .sl (encL vs)]] := by
  rw [encL_app]; rfl
theorem opens_pos {t : Tok} (h : Ne.opens t ≠ 0) : 0 < Ne.opens t := by
  rcases Ne.opens_vals t with h1 | h1 | h1 | h1 | h1 <;> omega
theorem u_loop (deep : Int) (hd : deep < 1000) : ∀ (m : Nat) (l : List Tok), l.length ≤ m → ∀ (kind : Int) (left : Nat) (wi : Int) (ka : AV) (kb : Option (List CV)) (kl : List (List CV)), Kd kind ka kb kl → wi + left = deep → 0 ≤ wi →
    ∀ (e : Nat) (acc : List Val), acc.length + l.length ≤ 1000000 → (e = 93 ∨ acc = []) →
    Ends (exL KN 148 ulp (uH l deep wi ka kb e acc)) (ULoop l kind left deep wi ka kb acc) := by
  intro m
  induction m with
  | zero =>
    intro l hl kind left wi ka kb kl hk hw hw0 e acc hacc he
    obtain rfl : l = [] := List.eq_nil_of_length_eq_zero (by omega)
    exact u_nil hk e acc
  | succ m ih =>
    intro l hl kind left wi ka kb kl hk hw hw0 e acc hacc he
    cases l with
    | nil => exact u_nil hk e acc
    | cons t l =>
      rw [List.length_cons] at hl hacc
      have hu := Ne.until_cons kind left t l
      cases hb : Ne.isLast kind t with
      | true => exact u_last hk hb e acc
      | false =>
        rw [hb, if_neg (by simp)] at hu
        by_cases h0 : Ne.opens t = 0
        · rw [if_pos h0] at hu
          have hs := u_step hk hb e acc (acc ++ [.mk 1 t []]) he (by omega) (.inl ⟨rfl, rfl⟩) (enc_snoc acc 1 t []) (one_tok t l deep wi h0)
          rw [hs]
          have hlen2 : (acc ++ [Val.mk 1 t []]).length + l.length ≤ 1000000 := by rw [List.length_append, List.length_singleton]; omega
          have hll : l.length ≤ m := by omega
          have hi := ih l hll kind left wi ka kb kl hk hw hw0 93 (acc ++ [.mk 1 t []]) hlen2 (Or.inl rfl)
          refine ends_imp hi fun o S q => ?_
          unfold ULoop at q ⊢
          rw [hu]
          cases hv : Ne.until_ kind left l with
          | none => rw [hv] at q; exact q
          | some x =>
            rw [hv] at q
            obtain ⟨q1, q2, ⟨e', q3⟩, q4⟩ := q
            exact ⟨q1, q2, ⟨e', by rw [q3, List.append_assoc]; rfl⟩, q4⟩
        · rw [if_neg h0] at hu
          cases left with
          | zero =>
            refine ends_imp (u_stop hk hb e acc (one_deep t l deep wi h0 (by omega))) fun o S q => ?_
            unfold ULoop
            rw [hu]
            exact q
          | succ n =>
            have hpos := opens_pos h0
            have hll : l.length ≤ m := by omega
            have hlen0 : ([] : List Val).length + l.length ≤ 1000000 := by rw [List.length_nil]; omega
            have hw1 : wi + 1 + (n : Int) = deep := by omega
            have hi0 := ih l hll (Ne.opens t) n (wi + 1) _ _ _ (.inner (Ne.opens t) hpos) hw1 (by omega) 0 [] hlen0 (Or.inr rfl)
            have hin := u_den (left := n) (.inner (Ne.opens t) hpos) hi0
            unfold UDen at hin
            simp only at hu
            cases hv : Ne.until_ (Ne.opens t) n l with
            | none =>
              rw [hv] at hin hu
              obtain ⟨b, hin⟩ := hin
              obtain ⟨b', ho⟩ := one_pan t l deep wi _ _ h0 (by omega) ⟨hw0, hd⟩ hin
              refine ends_imp (u_stop hk hb e acc ho) fun o S q => ?_
              unfold ULoop
              rw [hu]
              exact q
            | some x =>
              obtain ⟨vs, rest⟩ := x
              rw [hv] at hin hu
              have ho := one_in t l rest vs deep wi h0 (by omega) ⟨hw0, hd⟩ hin
              have hlen := Ne.until_len hv
              have hs := u_step hk hb e acc (acc ++ [.mk (Ne.opens t) (if Ne.opens t = 5 then t else Ne.tok0) vs]) he (by omega) (.inr rfl) (enc_snoc acc (Ne.opens t) _ vs) ho
              rw [hs]
              simp only at hlen hu
              have hlen2 : (acc ++ [Val.mk (Ne.opens t) (if Ne.opens t = 5 then t else Ne.tok0) vs]).length + rest.length ≤ 1000000 := by rw [List.length_append, List.length_singleton]; omega
              have hll : rest.length ≤ m := by omega
              have hi := ih rest hll kind (n + 1) wi ka kb kl hk hw hw0 93 (acc ++ [.mk (Ne.opens t) (if Ne.opens t = 5 then t else Ne.tok0) vs]) hlen2 (Or.inl rfl)
              refine ends_imp hi fun o S q => ?_
              unfold ULoop at q ⊢
              rw [hu]
              cases hv2 : Ne.until_ kind (n + 1) rest with
              | none => rw [hv2] at q; exact q
              | some x =>
                rw [hv2] at q
                obtain ⟨q1, q2, ⟨e', q3⟩, q4⟩ := q
                exact ⟨q1, q2, ⟨e', by rw [q3, List.append_assoc]; rfl⟩, q4⟩
theorem until_all (l : List Tok) (hl : l.length ≤ 1000000) (deep : Nat) (hd : deep < 1000) : UDen l 0 deep deep 0 (.c .nilp) [] :=
  u_den .top (u_loop deep (by omega) l.length l (Nat.le_refl _) 0 deep 0 _ _ _ .top (by omega) (by omega) 0 [] (by rw [List.length_nil]; omega) (.inr rfl))
end Go.Abs.NR
namespace Go.Abs
open Go Go.Proofs Go.RowKit
theorem frozen_of_heap {w : World} {b : Nat} {cs : Array Value} {ty : TypeId} (h : w.heap[b]? = some (.cells cs ty (0, 0))) (o : Nat) : w.frozen? ⟨b, o, none⟩ = false := by
  unfold World.frozen?
  rw [h]
  simp
theorem heap_set_other (w : World) (a : Addr) (v : Value) {b : Nat} (h : b ≠ a.block) : (w.setCell a v).heap[b]? = w.heap[b]? := by
  simp only [World.setCell, Array.getElem?_modify]
  rw [if_neg (by omega)]
set_option maxRecDepth 100000 in
set_option maxHeartbeats 4000000 in
theorem catch_panicking (bp be : Nat) (older : List PanicEntry) (w : World) (x y : Value) (tp te : TypeId) (hne : bp ≠ be) (h1 : w.heap[bp]? = some (.cells #[x] tp (0, 0))) (h2 : w.heap[be]? = some (.cells #[y] te (0, 0))) :
    CallsD Tryz.prog 147 #[.pointer (some ⟨bp, 0, none⟩), .pointer (some ⟨be, 0, none⟩)] (.panicking ({ v := .iface 174 (.agg #[]), recovered := false } :: older)) w fun e u' w' =>
      e = .returned (.tuple #[]) ∧ u' = .panicking ({ v := .iface 174 (.agg #[]), recovered := true } :: older) ∧
        w' = ((w.alloc (.cells #[] 174)).setCell ⟨bp, 0, none⟩ (.slice none 0 0)).setCell ⟨be, 0, none⟩ (.int .i64 20) := by
  have hta : ∀ w : World, (Instr.typeAssert (.iface 174 (.agg #[])) 20 174 true).run Tryz.prog w = .ok (.tuple #[.agg #[], .bool true]) w := fun _ => by kernel_rfl
  have k1 : (w.alloc (.cells #[] 174)).heap[bp]? = some (.cells #[x] tp (0, 0)) := (heap_old w _ bp (Array.getElem?_eq_some_iff.1 h1).1).trans h1
  have k2 : (w.alloc (.cells #[] 174)).heap[be]? = some (.cells #[y] te (0, 0)) := (heap_old w _ be (Array.getElem?_eq_some_iff.1 h2).1).trans h2
  have k3 : ((w.alloc (.cells #[] 174)).setCell ⟨bp, 0, none⟩ (.slice none 0 0)).heap[be]? = some (.cells #[y] te (0, 0)) := (heap_set_other _ _ _ (by simpa using hne.symm)).trans k2
  have c1 : (w.alloc (.cells #[] 174)).cell? ⟨bp, 0, none⟩ = some x := cell_of_heap k1 0
  have f1 := frozen_of_heap k1 0
  have c3 : ((w.alloc (.cells #[] 174)).setCell ⟨bp, 0, none⟩ (.slice none 0 0)).cell? ⟨be, 0, none⟩ = some y := cell_of_heap k3 0
  have f3 := frozen_of_heap k3 0
  clear k1 k2 k3 h1 h2 hne
  refine callsD_of_wpS Tryz.func147 rfl fun c₀ cs hu => ?_
  apply wpS_seq
  apply wpS_region
  simp [wpOpsS, go_sem, recoverD, hu, Tryz.ntmps147, Exit.thenS]
  refine wpS_of_wp ?_
  go_wp2
  simp [bodyPostS, results, Tryz.results147]
theorem catch_idle (pv pe : Addr) (w : World) :
    CallsD Tryz.prog 147 #[.pointer (some pv), .pointer (some pe)] .returning w fun e u' w' => e = .returned (.tuple #[]) ∧ u' = .returning ∧ w' = w := by
  refine callsD_of_wpS Tryz.func147 rfl fun c₀ cs hu => ?_
  apply wpS_seq
  apply wpS_region
  simp [wpOpsS, go_sem, recoverD, hu, Tryz.ntmps147, Exit.thenS]
  refine wpS_of_wp ?_
  go_wp2
  cases c₀
  simp_all [bodyPostS, results, Tryz.results147]
abbrev slV : Obj := .cells #[.slice none 0 0] 23
abbrev inE : Obj := .cells #[.int .i64 0] 24
abbrev rdO (x : Value) (deep : Int) : Obj := .cells #[x, .int .i64 deep] 178
set_option maxRecDepth 100000 in
set_option maxHeartbeats 4000000 in
theorem parse_no (x : Value) (deep : Int) (w : World) (hd : deep < 1 ∨ 60 < deep) :
    Calls Tryz.prog 98 #[x, .int .i64 deep] w fun e w' => e = .returned (.tuple #[.slice none 0 0, .int .i64 1]) ∧
      w' = (w.alloc (.cells #[.slice none 0 0] 23)).alloc (.cells #[.int .i64 1] 24) := by
  have hmf : ∀ (fn : Fn) (first cap : Array Value) (w : World), (Instr.makeFunc fn first cap).run Tryz.prog w = .ok (.func fn first cap) w := fun _ _ _ _ => rfl
  go_enter_defers Tryz.func98, Tryz.ntmps98
  go_wp2
  all_goals simp [bodyPostD, Leaves, results, Tryz.results98, go_sem]
set_option maxRecDepth 100000 in
set_option maxHeartbeats 4000000 in
theorem parse_yes (pa : Option Addr) (pn pc : Nat) (deep : Int) (w : World) (hd : ¬ deep < 1) (hd2 : ¬ 60 < deep) (Qr : Option Addr → Nat → Nat → World → Prop) (Qp : World → Prop)
    (hu : Calls Tryz.prog 148 #[.pointer (some ⟨w.heap.size + 2, 0, none⟩), .pointer none, .int .i64 0] (((w.alloc slV).alloc inE).alloc (rdO (.slice pa pn pc) deep)) fun e w' =>
      w'.heap[w.heap.size]? = some slV ∧ w'.heap[w.heap.size + 1]? = some inE ∧ ((∃ va vn vc, e = .returned (.slice va vn vc) ∧ Qr va vn vc w') ∨ (e = .panicked [{ v := .iface 174 (.agg #[]), recovered := false }] ∧ Qp w'))) :
    Calls Tryz.prog 98 #[.slice pa pn pc, .int .i64 deep] w fun e w'' =>
      (∃ va vn vc w', Qr va vn vc w' ∧ e = .returned (.tuple #[.slice va vn vc, .int .i64 0]) ∧ w'' = (w'.setCell ⟨w.heap.size, 0, none⟩ (.slice va vn vc)).setCell ⟨w.heap.size + 1, 0, none⟩ (.int .i64 0)) ∨
      (∃ w', Qp w' ∧ e = .returned (.tuple #[.slice none 0 0, .int .i64 20]) ∧ w'' = ((w'.alloc (.cells #[] 174)).setCell ⟨w.heap.size, 0, none⟩ (.slice none 0 0)).setCell ⟨w.heap.size + 1, 0, none⟩ (.int .i64 20)) := by
  have hmf : ∀ (fn : Fn) (first cap : Array Value) (w : World), (Instr.makeFunc fn first cap).run Tryz.prog w = .ok (.func fn first cap) w := fun _ _ _ _ => rfl
  go_enter_defers Tryz.func98, Tryz.ntmps98
  go_wp2_with (go_at_call 148; refine hu.mono ?_)
  intro e w' k1 k2 hq
  have c1 : w'.cell? ⟨w.heap.size, 0, none⟩ = some (.slice none 0 0) := cell_of_heap k1 0
  have f1 := frozen_of_heap k1 0
  rcases hq with ⟨va, vn, vc, rfl, hq⟩ | ⟨rfl, hq⟩
  · have k3 : (w'.setCell ⟨w.heap.size, 0, none⟩ (.slice va vn vc)).heap[w.heap.size + 1]? = some inE := (heap_set_other _ _ _ (by simp)).trans k2
    have c3 : (w'.setCell ⟨w.heap.size, 0, none⟩ (.slice va vn vc)).cell? ⟨w.heap.size + 1, 0, none⟩ = some (.int .i64 0) := cell_of_heap k3 0
    have f3 := frozen_of_heap k3 0
    go_wp2
    refine leaves_cons (f := 147) (args := #[.pointer (some ⟨w.heap.size, 0, none⟩), .pointer (some ⟨w.heap.size + 1, 0, none⟩)]) (by simp) (by simp [go_sem]) ?_
    refine (catch_idle _ _ _).mono ?_
    rintro e u' w'' ⟨rfl, rfl, rfl⟩
    have e1 : ((w'.setCell ⟨w.heap.size, 0, none⟩ (.slice va vn vc)).setCell ⟨w.heap.size + 1, 0, none⟩ (.int .i64 0)).cell? ⟨w.heap.size, 0, none⟩ = some (.slice va vn vc) := by
      rw [World.cell?_setCell_other _ _ _ _ (by simp)]
      exact World.cell?_setCell_same _ _ _ c1
    have e2 : ((w'.setCell ⟨w.heap.size, 0, none⟩ (.slice va vn vc)).setCell ⟨w.heap.size + 1, 0, none⟩ (.int .i64 0)).cell? ⟨w.heap.size + 1, 0, none⟩ = some (.int .i64 0) := World.cell?_setCell_same _ _ _ c3
    refine ⟨.tuple #[.slice va vn vc, .int .i64 0], ?_, .inl ⟨va, vn, vc, w', hq, rfl, rfl⟩⟩
    simp [results, Tryz.results98, go_sem, e1, e2]
  · go_wp2
    refine leaves_cons (f := 147) (args := #[.pointer (some ⟨w.heap.size, 0, none⟩), .pointer (some ⟨w.heap.size + 1, 0, none⟩)]) (by simp) (by simp [go_sem]) ?_
    refine (catch_panicking _ _ [] _ _ _ _ _ (by simp) k1 k2).mono ?_
    rintro e u' w'' ⟨rfl, rfl, rfl⟩
    have g1 : (w'.alloc (.cells #[] 174)).heap[w.heap.size]? = some slV := (heap_old w' _ _ (Array.getElem?_eq_some_iff.1 k1).1).trans k1
    have g2 : (w'.alloc (.cells #[] 174)).heap[w.heap.size + 1]? = some inE := (heap_old w' _ _ (Array.getElem?_eq_some_iff.1 k2).1).trans k2
    have k3 : ((w'.alloc (.cells #[] 174)).setCell ⟨w.heap.size, 0, none⟩ (.slice none 0 0)).heap[w.heap.size + 1]? = some inE := (heap_set_other _ _ _ (by simp)).trans g2
    have d1 : (w'.alloc (.cells #[] 174)).cell? ⟨w.heap.size, 0, none⟩ = some (.slice none 0 0) := cell_of_heap g1 0
    have d3 : ((w'.alloc (.cells #[] 174)).setCell ⟨w.heap.size, 0, none⟩ (.slice none 0 0)).cell? ⟨w.heap.size + 1, 0, none⟩ = some (.int .i64 0) := cell_of_heap k3 0
    have e1 : (((w'.alloc (.cells #[] 174)).setCell ⟨w.heap.size, 0, none⟩ (.slice none 0 0)).setCell ⟨w.heap.size + 1, 0, none⟩ (.int .i64 20)).cell? ⟨w.heap.size, 0, none⟩ = some (.slice none 0 0) := by
      rw [World.cell?_setCell_other _ _ _ _ (by simp)]
      exact World.cell?_setCell_same _ _ _ d1
    have e2 : (((w'.alloc (.cells #[] 174)).setCell ⟨w.heap.size, 0, none⟩ (.slice none 0 0)).setCell ⟨w.heap.size + 1, 0, none⟩ (.int .i64 20)).cell? ⟨w.heap.size + 1, 0, none⟩ = some (.int .i64 20) := World.cell?_setCell_same _ _ _ d3
    refine ⟨.tuple #[.slice none 0 0, .int .i64 20], ?_, .inr ⟨w', hq, rfl, rfl⟩⟩
    simp [results, Tryz.results98, go_sem, e1, e2]
end Go.Abs
namespace Go.Abs
open Go Go.Proofs Go.RowKit
open NR (goodsN prN)
def goodBN (P : Program) (f : Nat) : Bool :=
  match P.funcs[f]? with
  | some fn => fn.name != "runtime.NumGoroutine" && (match fn.body with | some c => codeOK (fun _ => false) c | none => false)
  | none => false
theorem goodsN_ok : goodsN.all (goodBN Tryz.prog) = true := by kernel_rfl
theorem KN_prog : Prog NR.KN := by
  refine ⟨by kernel_rfl, fun g hg => ?_, fun f F args bxs x _ hF hx => ?_, fun f F args bxs r call _ hF => by cases hF⟩
  · have h1 : g ∈ goodsN := by simpa [NR.KN] using hg
    have h2 := List.all_eq_true.1 goodsN_ok g h1
    unfold goodBN at h2
    split at h2
    · rename_i fn hfn
      simp only [Bool.and_eq_true] at h2
      obtain ⟨h3, h4⟩ := h2
      split at h4
      · rename_i c hc
        exact ⟨fn, c, hfn, by simpa using h3, hc, h4⟩
      · cases h4
    · cases h2
  · have h2 : prN f = some F := hF
    unfold prN at h2
    split at h2
    · rename_i hf
      cases h2
      obtain rfl : f = 227 := by simpa using hf
      exact pPairs_ok hx
    · split at h2
      · rename_i hf
        cases h2
        obtain rfl : f = 207 := by simpa using hf
        exact pOpens_ok hx
      · cases h2
def decT : List PV → Option Tok
  | [.int .i64 k, .str s, .int .i64 n] => some ⟨k, s, n⟩
  | _ => none
def decTs : List (List PV) → Option (List Tok)
  | [] => some []
  | c :: l => match decT c, decTs l with
    | some t, some m => some (t :: m)
    | _, _ => none
theorem dec_enc : ∀ l : List Tok, decTs (l.map Tok.enc) = some l
  | [] => rfl
  | t :: l => by
    rw [List.map_cons, decTs, dec_enc l]; rfl
theorem decT_enc {c : List PV} {t : Tok} (h : decT c = some t) : c = t.enc := by
  unfold decT at h
  split at h
  · cases h; rfl
  · cases h
theorem enc_dec : ∀ {c : List (List PV)} {l : List Tok}, decTs c = some l → c = l.map Tok.enc
  | [], l, h => by cases h; rfl
  | c :: cs, l, h => by
    unfold decTs at h
    split at h
    · rename_i t m h1 h2
      cases h
      rw [List.map_cons, ← decT_enc h1, ← enc_dec h2]
    · cases h
def parseR (deep : Int) (l : List Tok) : AV :=
  if deep < 1 ∨ 60 < deep then .tup [.c (.pv (.sl [])), .c (.pv (.int .i64 1))]
  else match Ne.until_ 0 deep.toNat l with
    | some x => .tup [.c (.pv (.sl (encL x.1))), .c (.pv (.int .i64 0))]
    | none => .tup [.c (.pv (.sl [])), .c (.pv (.int .i64 20))]
def pParse : Prim
  | [.c (.pv (.sl c)), .c (.pv (.int .i64 deep))], [] => (match decTs c with
    | some l => if l.length ≤ 1000000 then some (parseR deep l, []) else none
    | none => none)
  | [.c .nils, .c (.pv (.int .i64 deep))], [] => some (parseR deep [], [])
  | _, _ => none
section
variable {G G2 : Gh} {w w' w'' : World}
theorem parse_ext {x : Value} {deep : Int} (hw : WI G w) (hb0 : ∀ s, G.bb s = none) (hx : Ext (G.box LK (w.heap.size + 2)) (((w.alloc slV).alloc inE).alloc (rdO x deep)) G2 w') (hw2 : WI G2 w')
    (hs : w'.heap.size ≤ w''.heap.size) (ho : w''.os = w'.os) (hp : w''.output = w'.output) (ht : w''.tape = w'.tape) (hh : ∀ b, b < w'.heap.size → b ≠ w.heap.size → b ≠ w.heap.size + 1 → w''.heap[b]? = w'.heap[b]?) :
    Ext G w { G2 with bb := G.bb } w'' ∧ WI { G2 with bb := G.bb } w'' := by
  have hsz : (((w.alloc slV).alloc inE).alloc (rdO x deep)).heap.size = w.heap.size + 3 := by rw [alloc_size, alloc_size, alloc_size]
  have hold : ∀ b, b < w.heap.size → (((w.alloc slV).alloc inE).alloc (rdO x deep)).heap[b]? = w.heap[b]? := fun b hb => by
    rw [heap_old _ _ _ (by rw [alloc_size, alloc_size]; omega), heap_old _ _ _ (by rw [alloc_size]; omega), heap_old _ _ _ hb]
  have how : ∀ b, b ≠ w.heap.size + 2 → (G.box LK (w.heap.size + 2)).ow b = G.ow b := fun b hb => by
    show upd G.ow (w.heap.size + 2) _ b = _
    unfold upd; rw [if_neg hb]
  have hnI : ∀ b, w.heap.size ≤ b → b < w.heap.size + 2 → ∀ o, G2.I b o = none := fun b h1 h2 o => by
    have h3 := hx.old b (by rw [hsz]; omega) ((how b (by omega)).trans (hw.fresh b h1).2)
    exact (h3.2.2 o).trans ((hw.fresh b h1).1 o)
  have hold2 : ∀ b, b < w.heap.size → G.ow b = none → G2.ow b = none ∧ w''.heap[b]? = w.heap[b]? ∧ ∀ o, G2.I b o = G.I b o := fun b hb hn => by
    have h3 := hx.old b (by rw [hsz]; omega) ((how b (by omega)).trans hn)
    have := hx.size
    rw [hsz] at this
    exact ⟨h3.1, (hh b (by omega) (by omega) (by omega)).trans (h3.2.1.trans (hold b hb)), h3.2.2⟩
  have hsize := hx.size
  rw [hsz] at hsize
  refine ⟨⟨hx.I, hold2, by omega, ho.trans hx.os, hp.trans hx.output, ht.trans hx.tape, fun _ _ => rfl⟩, ⟨fun b o y h => ?_, fun b hb => hw2.fresh b (by omega), hw2.boxI, fun s b hb => absurd (show G.bb s = some b from hb) (by rw [hb0]; simp), hw.tab.map fun b hb hn => ⟨(hold2 b hb hn).1, (hold2 b hb hn).2.1⟩⟩⟩
  have h1 : G2.I b o = some y := h
  have hlt := I_lt hw2 h1
  have e : w''.heap[b]? = w'.heap[b]? := hh b hlt (fun e => by rw [e, hnI _ (Nat.le_refl _) (by omega)] at h1; cases h1) (fun e => by rw [e, hnI _ (by omega) (by omega)] at h1; cases h1)
  have := hw2.cell b o y h1
  unfold World.cell? at this ⊢
  rw [e]
  exact this
theorem box_WI {o : Obj} (hw : WI G w) {k : Nat} (hk : G.bb k = none) : WI (G.box k w.heap.size) (w.alloc o) := by
  refine ⟨fun b o y hI => ?_, fun b hb => ?_, fun b s hb o => ?_, fun s b hb => ?_, hw.tab.map fun c hc ho => ⟨?_, heap_old w _ c hc⟩⟩
  · rw [cell_alloc_old w _ (I_lt hw hI)]; exact hw.cell b o y hI
  · rw [alloc_size] at hb
    refine ⟨(hw.fresh b (by omega)).1, ?_⟩
    show upd G.ow w.heap.size _ b = none
    unfold upd; rw [if_neg (by omega)]; exact (hw.fresh b (by omega)).2
  · have hb' : upd G.ow w.heap.size (some (.box k)) b = some (.box s) := hb
    unfold upd at hb'
    split at hb'
    · rename_i he; subst he; exact (hw.fresh _ (Nat.le_refl _)).1 o
    · exact hw.boxI b s hb' o
  · have hb' : upd G.bb k (some w.heap.size) s = some b := hb
    show upd G.ow w.heap.size _ b = _
    unfold upd at hb' ⊢
    split at hb'
    · rename_i he; subst he; cases hb'; rw [if_pos rfl]
    · have h1 := hw.bbow s b hb'
      have h2 := ow_lt hw h1
      rw [if_neg (by omega)]; exact h1
  · show upd G.ow w.heap.size _ c = none
    unfold upd; rw [if_neg (by omega)]; exact ho
end
theorem set_heap (w : World) (a b : Addr) (v v' : Value) (k : Nat) (h1 : k ≠ a.block) (h2 : k ≠ b.block) : ((w.setCell a v).setCell b v').heap[k]? = w.heap[k]? := by
  rw [heap_set_other _ _ _ h2, heap_set_other _ _ _ h1]
theorem set_size (w : World) (a : Addr) (v : Value) : (w.setCell a v).heap.size = w.heap.size := by
  simp [World.setCell]
theorem parse_ok {l : List Tok} {deep : Int} {v : AV} (hlen : l.length ≤ 1000000) (hv : ∀ {G : Gh} {w : World} {x : Value}, RA G w .ret v x → RP G.I (.sl (l.map Tok.enc)) x) :
    Contract Tryz.prog 98 [v, .c (.pv (.int .i64 deep))] [] (.ret (parseR deep l) []) := by
  intro G w cargs hw hargs _ _ hbb
  have hb0 : ∀ s, G.bb s = none := fun s => by
    cases e : G.bb s with
    | none => rfl
    | some b => obtain ⟨i, hi, _⟩ := hbb s b e; simp at hi
  obtain ⟨x, y, rfl, hx, hy⟩ := args_two hargs
  cases hy.intv
  have hxp : RP G.I (.sl (l.map Tok.enc)) x := hv hx
  obtain ⟨pa, pc, rfl, _, _⟩ := hxp.slice_inv
  unfold parseR
  by_cases hd : deep < 1 ∨ 60 < deep
  · rw [if_pos hd]
    refine (parse_no _ deep w hd).mono ?_
    rintro e w' ⟨rfl, rfl⟩
    obtain ⟨g, hw'⟩ := below_gr (w' := (w.alloc (.cells #[.slice none 0 0] 23)).alloc (.cells #[.int .i64 1] 24)) hw (((Below.refl _ _).alloc (Nat.le_refl _) _).alloc (by simp) _)
    exact ⟨G, g.ext, hw', _, rfl, ⟨[_, _], rfl, .cons (.sl0 _ _) (.cons (.int _ _) .nil)⟩, rfl, fun i l h => by simp at h⟩
  · rw [if_neg hd]
    have hd1 : ¬ deep < 1 := fun h => hd (.inl h)
    have hd2 : ¬ 60 < deep := fun h => hd (.inr h)
    obtain ⟨d, rfl⟩ : ∃ d : Nat, deep = d := ⟨deep.toNat, by omega⟩
    rw [Int.toNat_natCast]
    have hu := NR.until_all l hlen d (by omega)
    unfold NR.UDen at hu
    obtain ⟨g1, hw1⟩ := below_gr (w' := (w.alloc slV).alloc inE) hw (((Below.refl _ _).alloc (Nat.le_refl _) _).alloc (by simp) _)
    have hn1 : ((w.alloc slV).alloc inE).heap.size = w.heap.size + 2 := by rw [alloc_size, alloc_size]
    have hw3 : WI (G.box LK (w.heap.size + 2)) (((w.alloc slV).alloc inE).alloc (rdO (.slice pa (l.map Tok.enc).length pc) d)) := by
      have := box_WI (o := rdO (.slice pa (l.map Tok.enc).length pc) d) hw1 (hb0 LK)
      rw [hn1] at this
      exact this
    have hnew : (((w.alloc slV).alloc inE).alloc (rdO (.slice pa (l.map Tok.enc).length pc) d)).heap[w.heap.size + 2]? = some (rdO (.slice pa (l.map Tok.enc).length pc) d) := by
      have := heap_alloc_new ((w.alloc slV).alloc inE) (rdO (.slice pa (l.map Tok.enc).length pc) d)
      rw [hn1] at this
      exact this
    have hbbk : (G.box LK (w.heap.size + 2)).bb LK = some (w.heap.size + 2) := by simp [Gh.box, upd]
    have hcall : ∀ r, den NR.KN 148 [.c (.loc 100000 0), .c .nilp, .c (.pv (.int .i64 0))] [NR.rdr l d] = some r →
        Calls Tryz.prog 148 #[.pointer (some ⟨w.heap.size + 2, 0, none⟩), .pointer none, .int .i64 0] (((w.alloc slV).alloc inE).alloc (rdO (.slice pa (l.map Tok.enc).length pc) d)) fun e w' =>
          ∃ G2, Ext (G.box LK (w.heap.size + 2)) (((w.alloc slV).alloc inE).alloc (rdO (.slice pa (l.map Tok.enc).length pc) d)) G2 w' ∧ WI G2 w' ∧ REnd 1 G2 w' e r := fun r hr => by
      refine den_ok KN_prog NR.good_u hr _ _ [.pointer (some ⟨w.heap.size + 2, 0, none⟩), .pointer none, .int .i64 0] hw3 ?_ ?_ ?_ ?_
      · exact .cons ⟨w.heap.size + 2, hbbk, rfl⟩ (.cons rfl (.cons (.int _ _) .nil))
      · intro v hv
        simp only [List.mem_cons, List.not_mem_nil, or_false] at hv
        rcases hv with rfl | rfl | rfl <;> rfl
      · intro i b hi
        cases i with
        | succ i => simp at hi
        | zero =>
          simp only [List.getElem?_cons_zero, Option.some.injEq] at hi
          subst hi
          refine ⟨w.heap.size + 2, _, _, hbbk, hnew, ⟨rfl, fun e => by simp at e⟩, fun k v hk => ?_⟩
          match k with
          | 0 =>
            simp only [List.getElem?_cons_zero, Option.some.injEq] at hk
            subst hk
            exact ⟨_, rfl, hxp⟩
          | 1 =>
            simp only [List.getElem?_cons_succ, List.getElem?_cons_zero, Option.some.injEq] at hk
            subst hk
            exact ⟨_, rfl, .int _ _⟩
          | k + 2 => simp at hk
      · intro s b hs
        have hs' : upd G.bb LK (some (w.heap.size + 2)) s = some b := hs
        unfold upd at hs'
        split at hs'
        · rename_i he; exact ⟨0, by simp, by omega⟩
        · rw [hb0] at hs'; cases hs'
    have hheap : ∀ {G2 : Gh} {w' : World}, Ext (G.box LK (w.heap.size + 2)) (((w.alloc slV).alloc inE).alloc (rdO (.slice pa (l.map Tok.enc).length pc) d)) G2 w' →
        w'.heap[w.heap.size]? = some slV ∧ w'.heap[w.heap.size + 1]? = some inE := fun {G2 w'} hx2 => by
      have how : ∀ b, w.heap.size ≤ b → b ≠ w.heap.size + 2 → (G.box LK (w.heap.size + 2)).ow b = none := fun b h1 h2 => by
        show upd G.ow (w.heap.size + 2) _ b = _
        unfold upd; rw [if_neg h2]; exact (hw.fresh b h1).2
      constructor
      · rw [(hx2.old w.heap.size (by rw [alloc_size, hn1]; omega) (how _ (Nat.le_refl _) (by omega))).2.1, heap_old _ _ _ (by rw [hn1]; omega), heap_old _ _ _ (by rw [alloc_size]; omega)]
        exact heap_alloc_new w _
      · rw [(hx2.old (w.heap.size + 1) (by rw [alloc_size, hn1]; omega) (how _ (by omega) (by omega))).2.1, heap_old _ _ _ (by rw [hn1]; omega)]
        have := heap_alloc_new (w.alloc slV) inE
        rw [alloc_size] at this
        exact this
    cases hv : Ne.until_ 0 d l with
    | some x =>
      rw [hv] at hu
      refine (parse_yes pa _ pc d w hd1 hd2 (fun va vn vc w' => ∃ G2, Ext (G.box LK (w.heap.size + 2)) (((w.alloc slV).alloc inE).alloc (rdO (.slice pa (l.map Tok.enc).length pc) d)) G2 w' ∧ WI G2 w' ∧ RP G2.I (.sl (encL x.1)) (.slice va vn vc)) (fun _ => False) ?_).mono ?_
      · refine (hcall _ hu).mono ?_
        rintro e w' ⟨G2, hx2, hw2, v, rfl, hr, _, _⟩
        have hr' : RP G2.I (.sl (encL x.1)) v := hr
        obtain ⟨va, vc, rfl, _, _⟩ := hr'.slice_inv
        exact ⟨(hheap hx2).1, (hheap hx2).2, .inl ⟨va, _, vc, rfl, G2, hx2, hw2, hr'⟩⟩
      · rintro e w'' (⟨va, vn, vc, w', ⟨G2, hx2, hw2, hr⟩, rfl, rfl⟩ | ⟨w', hf, _⟩)
        · obtain ⟨k1, k2⟩ := parse_ext (w'' := (w'.setCell ⟨w.heap.size, 0, none⟩ (.slice va vn vc)).setCell ⟨w.heap.size + 1, 0, none⟩ (.int .i64 0)) hw hb0 hx2 hw2 (by rw [set_size, set_size]; exact Nat.le_refl _) rfl rfl rfl (fun b _ h1 h2 => set_heap w' _ _ _ _ b h1 h2)
          exact ⟨_, k1, k2, _, rfl, ⟨[_, _], rfl, .cons hr (.cons (.int _ _) .nil)⟩, rfl, fun i l h => by simp at h⟩
        · exact hf.elim
    | none =>
      rw [hv] at hu
      obtain ⟨b1, hu⟩ := hu
      refine (parse_yes pa _ pc d w hd1 hd2 (fun _ _ _ _ => False) (fun w' => ∃ G2, Ext (G.box LK (w.heap.size + 2)) (((w.alloc slV).alloc inE).alloc (rdO (.slice pa (l.map Tok.enc).length pc) d)) G2 w' ∧ WI G2 w') ?_).mono ?_
      · refine (hcall _ hu).mono ?_
        rintro e w' ⟨G2, hx2, hw2, v, rfl, hr, _, _⟩
        have hr' : RP G2.I (.ifa 174 []) v := hr
        cases hr'
        exact ⟨(hheap hx2).1, (hheap hx2).2, .inr ⟨rfl, G2, hx2, hw2⟩⟩
      · rintro e w'' (⟨va, vn, vc, w', hf, _⟩ | ⟨w', ⟨G2, hx2, hw2⟩, rfl, rfl⟩)
        · exact hf.elim
        · obtain ⟨k1, k2⟩ := parse_ext (w'' := ((w'.alloc (.cells #[] 174)).setCell ⟨w.heap.size, 0, none⟩ (.slice none 0 0)).setCell ⟨w.heap.size + 1, 0, none⟩ (.int .i64 20)) hw hb0 hx2 hw2 (by rw [set_size, set_size, alloc_size]; omega) rfl rfl rfl (fun b hb h1 h2 => by rw [set_heap _ _ _ _ _ b h1 h2, heap_old _ _ _ hb])
          exact ⟨_, k1, k2, _, rfl, ⟨[_, _], rfl, .cons (.sl0 _ _) (.cons (.int _ _) .nil)⟩, rfl, fun i l h => by simp at h⟩
theorem pParse_ok {args : List AV} {bxs : List (List CV)} {x : AV × List (List CV)} (h : pParse args bxs = some x) : Contract Tryz.prog 98 args bxs (.ret x.1 x.2) := by
  unfold pParse at h
  split at h
  · rename_i c deep
    split at h
    case h_2 => cases h
    rename_i l hdec
    split at h
    case isFalse => cases h
    rename_i hlen
    cases h
    obtain rfl := enc_dec hdec
    exact parse_ok hlen (fun hx => hx)
  · cases h
    refine parse_ok (l := []) (by simp) (fun hx => ?_)
    cases hx
    exact .sl0 _ _
  · cases h
end Go.Abs
namespace Go.Abs
open Go Go.Proofs
set_option maxRecDepth 10000
theorem decode_width (s : ByteArray) (pos : Nat) (h : pos < s.size) : pos + (Utf8.decode s pos).2 ≤ s.size := by
  simp only [Utf8.decode]
  repeat' split
  all_goals simp_all
  all_goals omega
theorem decode_bytes (s : ByteArray) (pos : Nat) (h : pos < s.size) (ha : 128 ≤ (s[pos]'h).toNat) : ∀ j, pos ≤ j → j < pos + (Utf8.decode s pos).2 → 128 ≤ (s.get! j).toNat := by
  have hn : ¬ (s[pos]'h).toNat < 128 := by omega
  have h0 : 128 ≤ (s.get! pos).toNat := by have := get_at s pos h; rw [Nat.add_zero] at this; rw [this]; exact ha
  intro j h1 h2
  obtain ⟨k, rfl⟩ : ∃ k, j = pos + k := ⟨j - pos, by omega⟩
  have h3 : k < (Utf8.decode s pos).2 := by omega
  clear h1 h2
  simp only [Utf8.decode, get_at s pos h, hn, if_false] at h3
  have key : k = 0 ∨ k = 1 ∧ (s.get! (pos + 1)).toNat / 64 = 2 ∨ k = 2 ∧ (s.get! (pos + 2)).toNat / 64 = 2 ∨ k = 3 ∧ (s.get! (pos + 3)).toNat / 64 = 2 := by
    revert h3
    repeat' split
    all_goals simp_all
    all_goals omega
  rcases key with rfl | ⟨rfl, e⟩ | ⟨rfl, e⟩ | ⟨rfl, e⟩
  · exact h0
  all_goals omega
theorem decode_at (s : List UInt8) (pos : Nat) (h : pos < s.length) : ∃ (r wd : Nat), Utf8.decode ⟨s.toArray⟩ pos = (r, wd) ∧ 1 ≤ wd ∧ pos + wd ≤ s.length ∧ r ≤ 2147483647 ∧
    ((r < 128 ∧ wd = 1 ∧ ∃ b, s[pos]? = some b ∧ b.toNat = r) ∨ (128 ≤ r ∧ ∀ j b, pos ≤ j → j < pos + wd → s[j]? = some b → 128 ≤ b.toNat)) := by
  have hs : (⟨s.toArray⟩ : ByteArray).size = s.length := by simp [ByteArray.size]
  have hp : pos < (⟨s.toArray⟩ : ByteArray).size := by rw [hs]; exact h
  have hb : s[pos]? = some ((⟨s.toArray⟩ : ByteArray)[pos]'hp) := by
    rw [List.getElem?_eq_getElem h]; rfl
  have hw := decode_width ⟨s.toArray⟩ pos hp
  have hle := decode_le ⟨s.toArray⟩ pos
  rw [hs] at hw
  by_cases hc : ((⟨s.toArray⟩ : ByteArray)[pos]'hp).toNat < 128
  · have e := decode_ascii ⟨s.toArray⟩ pos hp hc
    refine ⟨_, _, e, Nat.le_refl _, by omega, by omega, .inl ⟨hc, rfl, _, hb, rfl⟩⟩
  · have e := decode_high ⟨s.toArray⟩ pos hp (by omega)
    refine ⟨_, _, rfl, e.2, hw, hle, .inr ⟨e.1, fun j b h1 h2 hj => ?_⟩⟩
    have h3 := decode_bytes ⟨s.toArray⟩ pos hp (by omega) j h1 h2
    have h4 : (⟨s.toArray⟩ : ByteArray).get! j = b := by
      have hlt : j < s.length := (List.getElem?_eq_some_iff.1 hj).1
      have := get_at ⟨s.toArray⟩ j (by rw [hs]; exact hlt)
      rw [Nat.add_zero] at this
      rw [this]
      rw [List.getElem?_eq_getElem hlt] at hj
      exact Option.some.inj hj
    rw [h4] at h3
    exact h3
theorem NoAny_more {s chars : List UInt8} {i j : Nat} (h : Lib.NoAny s chars i) (h2 : ∀ k b, i ≤ k → k < j → s[k]? = some b → chars.contains b = false) : Lib.NoAny s chars j := fun k b hk hb => by
  by_cases hki : k < i
  · exact h k b hki hb
  · exact h2 k b (by omega) hk hb
def findLoop0 (r : Nat) : Code → Option Code
  | .loop a => bif Nat.beq ((firstReg a).getD 0) r then some a else findLoop0 r a
  | .seq a b => (findLoop0 r a).orElse fun _ => findLoop0 r b
  | .cond _ a b => (findLoop0 r a).orElse fun _ => findLoop0 r b
  | .block _ a => findLoop0 r a
  | .scope a => findLoop0 r a
  | _ => none
def loopAt0 (fn : Func) (r : Nat) : Code := ((fn.body.bind (findLoop0 r))).getD .skip
abbrev anyH (s : List UInt8) (i : Nat) : St := { sl := upd (upd bot 45 (.c (.iter s i))) 1 (.c (.pv (.str endsL))), bx := nobox, nt := 55 }
theorem high_not {b : UInt8} (h : 128 ≤ b.toNat) : endsL.contains b = false := by
  cases hc : endsL.contains b
  · rfl
  · have : b ∈ endsL := by simpa using hc
    have : b = 10 ∨ b = 12 ∨ b = 13 := by simpa [endsL] using this
    rcases this with rfl | rfl | rfl <;> exact absurd h (by decide)
theorem any0_loop (s : List UInt8) (h8 : s.length ≤ 8) : ∀ (k i : Nat) (S : St), s.length - i ≤ k → i ≤ s.length → head ([1, 45], []) S = anyH s i → Lib.NoAny s endsL i →
    Ends (exL K0 230 (.loop (loopAt0 Tryz.f230 18)) S) fun o S => (o = .ret ∧ S.sl 4 = .c (.pv (.int .i64 (Lib.indexAny s endsL))) ∨ Lib.indexAny s endsL = -1 ∧ o = .exit 2) ∧ S.nt = 55 := by
  intro k
  induction k with
  | zero =>
    intro i S hk hi hS hno
    obtain rfl : i = s.length := by omega
    have e := Lib.indexAny_none hno
    conv in loopAt0 _ _ => whnf
    rw [exL_loop]
    simp only [firstReg, Option.orElse_some, Option.getD_some, K0_keep, K0_keep18, hS]
    simp only [exL_seq, exL_cond, exL_block, exL_scope, exL_ret, exL_skip, exL_exit, runRegion, runOps, stepOp, guardA, absOp, takeOver, opd, avOf, cvOf, St.degAt, St.put, okPV, okVal, okAV, absBin, intBin, strBin, boolBin, setBoxes, if_true, Bool.false_eq_true, if_false, Option.map_some, Option.map_none, Option.bind_some, Option.bind_none, thenO, outOf, upd, List.toList_toArray, isOwn, steal, appArgs, mvB, fullAt, absFull, inApps, AV.deg, CV.deg, AV.gv, AV.isIter, absNext, some_bne, some_beqN, Nat.reduceLT, reduceIte, reduceCtorEq, Nat.reduceEqDiff, List.length_nil, List.length_cons, apply_ite (Option.map (outOf _)), List.filterMap_cons, List.filterMap_nil, beq_iff_eq, List.getElem?_cons_zero, List.getElem?_cons_succ, Option.getD_some, Nat.reduceBEq, Bool.false_and, Bool.and_false, Bool.and_self, absCall, doCall, getBoxes, lend, back, idx, dedup, AV.ren, CV.ren, TV.ren, AV.ptrs, CV.ptrs, zipBox, AV.flat, CV.flat, absLoad, absStore, cellsOfAV, setAt, newBox, markB, bldTypes, absFieldAddr, absField, absExtract, absAssert, noAssert, absMkIface, ifcOf, CV.pv?, content, pushHead, ownT, fillCells, reps, pvs, chunks, enterSt, leave, resOf, resVars, resVar, outBoxes, lentOnly, TV.deg, TV.av, LK, CV.plain, CV.noBld, nilBin, absUn, bound, List.map_cons, List.map_nil, List.all_cons, List.all_nil, List.any_cons, List.any_nil, List.contains_cons, List.contains_nil, List.elem_cons, List.elem_nil, List.cons_append, List.nil_append, List.append_nil, List.flatMap_cons, List.flatMap_nil, List.zip_cons_cons, List.zip_nil_left, List.zip_nil_right, List.take_succ_cons, List.take_zero, List.take_nil, List.drop_succ_cons, List.drop_zero, List.drop_nil, List.isEmpty_nil, List.isEmpty_cons, Bool.and_true, Bool.true_and, Bool.or_true, Bool.true_or, Bool.or_false, Bool.false_or, Bool.not_true, Bool.not_false, Nat.reduceAdd, Nat.reduceSub, Nat.reduceLeDiff, Nat.add_zero, Nat.zero_add, Nat.reduceMul, Option.isNone_none, Option.isNone_some, Option.getD_none, true_and, and_true, not_true_eq_false, not_false_eq_true, decide_true, decide_false, List.toList_toArray, Nat.le_refl, and_self, Bool.not_eq_true, Nat.sub_self, or_true, true_or, Option.some.injEq, List.length_map, List.nil_eq, and_false, false_and, AV.live, CV.live, CV.liveIn, firstReg, Option.orElse_some, Option.orElse_none, head, keepSlots, keepBoxes, Int.lt_irrefl, List.length_append, ite_self, memOK, logOps, opKey, lentBoxes, Key.clash, Key.sees, Key.writes, Nat.lt_irrefl, gt_iff_lt, nobox_at, bot_at, false_or, or_false, beq_self_eq_true, Bool.true_beq, Bool.false_beq, region0, K0_own, K0_keep, K0_P, ends_some, e]
  | succ k ih =>
    intro i S hk hi hS hno
    by_cases hlt : i < s.length
    case neg => exact ih i S (by omega) hi hS hno
    obtain ⟨r, wd, hd, hw1, hw2, hr, hcase⟩ := decode_at s i hlt
    have hit : iterNext s i = i + wd := by unfold iterNext; rw [hd]
    have hr0 : (0 : Int) ≤ (r : Int) ∧ (r : Int) ≤ 2147483647 := by omega
    have hru := rune0_den (r : Int) hr0
    obtain ⟨v, hv⟩ : ∃ v, (if (r : Int) < 128 then Lib.indexByte endsL (r : Int).toNat.toUInt8 else -1) = v := ⟨_, rfl⟩
    rw [hv] at hru
    have ih' := ih (i + wd)
    conv at ih' in loopAt0 _ _ => whnf
    conv in loopAt0 _ _ => whnf
    rw [exL_loop]
    simp only [firstReg, Option.orElse_some, Option.getD_some, K0_keep, K0_keep18, hS]
    cases hdec : decide (0 ≤ v)
    · have hno' : Lib.NoAny s endsL (i + wd) := by
        refine NoAny_more hno fun j b h1 h2 hj => ?_
        rcases hcase with ⟨hr1, rfl, b', hb', hbr⟩ | ⟨hr1, hall⟩
        · obtain rfl : j = i := by omega
          rw [hj] at hb'
          cases hb'
          rw [if_pos (by omega)] at hv
          have hback : ((r : Int)).toNat.toUInt8 = b := by rw [← hbr]; simp
          rw [hback] at hv
          rw [Lib.contains_iff_indexByte, hv, hdec]
        · exact high_not (hall j b h1 h2 hj)
      simp only [exL_seq, exL_cond, exL_block, exL_scope, exL_ret, exL_skip, exL_exit, runRegion, runOps, stepOp, guardA, absOp, takeOver, opd, avOf, cvOf, St.degAt, St.put, okPV, okVal, okAV, absBin, intBin, strBin, boolBin, setBoxes, if_true, Bool.false_eq_true, if_false, Option.map_some, Option.map_none, Option.bind_some, Option.bind_none, thenO, outOf, upd, List.toList_toArray, isOwn, steal, appArgs, mvB, fullAt, absFull, inApps, AV.deg, CV.deg, AV.gv, AV.isIter, absNext, some_bne, some_beqN, Nat.reduceLT, reduceIte, reduceCtorEq, Nat.reduceEqDiff, List.length_nil, List.length_cons, apply_ite (Option.map (outOf _)), List.filterMap_cons, List.filterMap_nil, beq_iff_eq, List.getElem?_cons_zero, List.getElem?_cons_succ, Option.getD_some, Nat.reduceBEq, Bool.false_and, Bool.and_false, Bool.and_self, absCall, doCall, getBoxes, lend, back, idx, dedup, AV.ren, CV.ren, TV.ren, AV.ptrs, CV.ptrs, zipBox, AV.flat, CV.flat, absLoad, absStore, cellsOfAV, setAt, newBox, markB, bldTypes, absFieldAddr, absField, absExtract, absAssert, noAssert, absMkIface, ifcOf, CV.pv?, content, pushHead, ownT, fillCells, reps, pvs, chunks, enterSt, leave, resOf, resVars, resVar, outBoxes, lentOnly, TV.deg, TV.av, LK, CV.plain, CV.noBld, nilBin, absUn, bound, List.map_cons, List.map_nil, List.all_cons, List.all_nil, List.any_cons, List.any_nil, List.contains_cons, List.contains_nil, List.elem_cons, List.elem_nil, List.cons_append, List.nil_append, List.append_nil, List.flatMap_cons, List.flatMap_nil, List.zip_cons_cons, List.zip_nil_left, List.zip_nil_right, List.take_succ_cons, List.take_zero, List.take_nil, List.drop_succ_cons, List.drop_zero, List.drop_nil, List.isEmpty_nil, List.isEmpty_cons, Bool.and_true, Bool.true_and, Bool.or_true, Bool.true_or, Bool.or_false, Bool.false_or, Bool.not_true, Bool.not_false, Nat.reduceAdd, Nat.reduceSub, Nat.reduceLeDiff, Nat.add_zero, Nat.zero_add, Nat.reduceMul, Option.isNone_none, Option.isNone_some, Option.getD_none, true_and, and_true, not_true_eq_false, not_false_eq_true, decide_true, decide_false, List.toList_toArray, Nat.le_refl, and_self, Bool.not_eq_true, Nat.sub_self, or_true, true_or, Option.some.injEq, List.length_map, List.nil_eq, and_false, false_and, AV.live, CV.live, CV.liveIn, firstReg, Option.orElse_some, Option.orElse_none, head, keepSlots, keepBoxes, Int.lt_irrefl, List.length_append, ite_self, memOK, logOps, opKey, lentBoxes, Key.clash, Key.sees, Key.writes, Nat.lt_irrefl, gt_iff_lt, nobox_at, bot_at, false_or, or_false, beq_self_eq_true, Bool.true_beq, Bool.false_beq, region0, K0_own, K0_keep, K0_P, K0_good2, hlt, hd, hit, hru, hdec]
      refine ih' _ (by omega) hw2 ?_ hno'
      rfl
    · have hgo : Lib.indexAny s endsL = (i : Int) := by
        rcases hcase with ⟨hr1, rfl, b', hb', hbr⟩ | ⟨hr1, hall⟩
        · rw [if_pos (by omega)] at hv
          have hback : ((r : Int)).toNat.toUInt8 = b' := by rw [← hbr]; simp
          rw [hback] at hv
          exact Lib.indexAny_hit hno hb' (by rw [Lib.contains_iff_indexByte, hv, hdec])
        · rw [if_neg (by omega)] at hv
          rw [← hv] at hdec
          cases hdec
      simp only [exL_seq, exL_cond, exL_block, exL_scope, exL_ret, exL_skip, exL_exit, runRegion, runOps, stepOp, guardA, absOp, takeOver, opd, avOf, cvOf, St.degAt, St.put, okPV, okVal, okAV, absBin, intBin, strBin, boolBin, setBoxes, if_true, Bool.false_eq_true, if_false, Option.map_some, Option.map_none, Option.bind_some, Option.bind_none, thenO, outOf, upd, List.toList_toArray, isOwn, steal, appArgs, mvB, fullAt, absFull, inApps, AV.deg, CV.deg, AV.gv, AV.isIter, absNext, some_bne, some_beqN, Nat.reduceLT, reduceIte, reduceCtorEq, Nat.reduceEqDiff, List.length_nil, List.length_cons, apply_ite (Option.map (outOf _)), List.filterMap_cons, List.filterMap_nil, beq_iff_eq, List.getElem?_cons_zero, List.getElem?_cons_succ, Option.getD_some, Nat.reduceBEq, Bool.false_and, Bool.and_false, Bool.and_self, absCall, doCall, getBoxes, lend, back, idx, dedup, AV.ren, CV.ren, TV.ren, AV.ptrs, CV.ptrs, zipBox, AV.flat, CV.flat, absLoad, absStore, cellsOfAV, setAt, newBox, markB, bldTypes, absFieldAddr, absField, absExtract, absAssert, noAssert, absMkIface, ifcOf, CV.pv?, content, pushHead, ownT, fillCells, reps, pvs, chunks, enterSt, leave, resOf, resVars, resVar, outBoxes, lentOnly, TV.deg, TV.av, LK, CV.plain, CV.noBld, nilBin, absUn, bound, List.map_cons, List.map_nil, List.all_cons, List.all_nil, List.any_cons, List.any_nil, List.contains_cons, List.contains_nil, List.elem_cons, List.elem_nil, List.cons_append, List.nil_append, List.append_nil, List.flatMap_cons, List.flatMap_nil, List.zip_cons_cons, List.zip_nil_left, List.zip_nil_right, List.take_succ_cons, List.take_zero, List.take_nil, List.drop_succ_cons, List.drop_zero, List.drop_nil, List.isEmpty_nil, List.isEmpty_cons, Bool.and_true, Bool.true_and, Bool.or_true, Bool.true_or, Bool.or_false, Bool.false_or, Bool.not_true, Bool.not_false, Nat.reduceAdd, Nat.reduceSub, Nat.reduceLeDiff, Nat.add_zero, Nat.zero_add, Nat.reduceMul, Option.isNone_none, Option.isNone_some, Option.getD_none, true_and, and_true, not_true_eq_false, not_false_eq_true, decide_true, decide_false, List.toList_toArray, Nat.le_refl, and_self, Bool.not_eq_true, Nat.sub_self, or_true, true_or, Option.some.injEq, List.length_map, List.nil_eq, and_false, false_and, AV.live, CV.live, CV.liveIn, firstReg, Option.orElse_some, Option.orElse_none, head, keepSlots, keepBoxes, Int.lt_irrefl, List.length_append, ite_self, memOK, logOps, opKey, lentBoxes, Key.clash, Key.sees, Key.writes, Nat.lt_irrefl, gt_iff_lt, nobox_at, bot_at, false_or, or_false, beq_self_eq_true, Bool.true_beq, Bool.false_beq, region0, K0_own, K0_keep, K0_P, K0_good2, hlt, hd, hit, hru, hdec, ends_some, hgo]
theorem any0_den (s : List UInt8) (h8 : s.length ≤ 8) : den K0 230 [.c (.pv (.str s)), .c (.pv (.str endsL))] [] = some (.ret (.c (.pv (.int .i64 (Lib.indexAny s endsL)))) []) := by
  have hr : Tryz.f230.results = #[.tmp 4] := rfl
  have hu := use0_den (s.length : Int)
  have h8d : decide ((8 : Int) < (s.length : Int)) = false := decide_eq_false (by omega)
  rw [h8d] at hu
  have hloop := any0_loop s h8 s.length 0
  conv at hloop in loopAt0 _ _ => whnf
  refine den_run0 rfl Tryz.func230 rfl Tryz.ntmps230 ⟨by simp, by simp [LK]⟩ ?_
  have e0 : (endsL == []) = false := by decide
  have e1 : (((3 : Nat) : Int) == 1) = false := by decide
  simp only [exL_seq, exL_cond, exL_block, exL_scope, exL_ret, exL_skip, exL_exit, runRegion, runOps, stepOp, guardA, absOp, takeOver, opd, avOf, cvOf, St.degAt, St.put, okPV, okVal, okAV, absBin, intBin, strBin, boolBin, setBoxes, if_true, Bool.false_eq_true, if_false, Option.map_some, Option.map_none, Option.bind_some, Option.bind_none, thenO, outOf, upd, List.toList_toArray, isOwn, steal, appArgs, mvB, fullAt, absFull, inApps, AV.deg, CV.deg, AV.gv, AV.isIter, absNext, some_bne, some_beqN, Nat.reduceLT, reduceIte, reduceCtorEq, Nat.reduceEqDiff, List.length_nil, List.length_cons, apply_ite (Option.map (outOf _)), List.filterMap_cons, List.filterMap_nil, beq_iff_eq, List.getElem?_cons_zero, List.getElem?_cons_succ, Option.getD_some, Nat.reduceBEq, Bool.false_and, Bool.and_false, Bool.and_self, absCall, doCall, getBoxes, lend, back, idx, dedup, AV.ren, CV.ren, TV.ren, AV.ptrs, CV.ptrs, zipBox, AV.flat, CV.flat, absLoad, absStore, cellsOfAV, setAt, newBox, markB, bldTypes, absFieldAddr, absField, absExtract, absAssert, noAssert, absMkIface, ifcOf, CV.pv?, content, pushHead, ownT, fillCells, reps, pvs, chunks, enterSt, leave, resOf, resVars, resVar, outBoxes, lentOnly, TV.deg, TV.av, LK, CV.plain, CV.noBld, nilBin, absUn, bound, List.map_cons, List.map_nil, List.all_cons, List.all_nil, List.any_cons, List.any_nil, List.contains_cons, List.contains_nil, List.elem_cons, List.elem_nil, List.cons_append, List.nil_append, List.append_nil, List.flatMap_cons, List.flatMap_nil, List.zip_cons_cons, List.zip_nil_left, List.zip_nil_right, List.take_succ_cons, List.take_zero, List.take_nil, List.drop_succ_cons, List.drop_zero, List.drop_nil, List.isEmpty_nil, List.isEmpty_cons, Bool.and_true, Bool.true_and, Bool.or_true, Bool.true_or, Bool.or_false, Bool.false_or, Bool.not_true, Bool.not_false, Nat.reduceAdd, Nat.reduceSub, Nat.reduceLeDiff, Nat.add_zero, Nat.zero_add, Nat.reduceMul, Option.isNone_none, Option.isNone_some, Option.getD_none, true_and, and_true, not_true_eq_false, not_false_eq_true, decide_true, decide_false, List.toList_toArray, Nat.le_refl, and_self, Bool.not_eq_true, Nat.sub_self, or_true, true_or, Option.some.injEq, List.length_map, List.nil_eq, and_false, false_and, AV.live, CV.live, CV.liveIn, firstReg, Option.orElse_some, Option.orElse_none, head, keepSlots, keepBoxes, Int.lt_irrefl, List.length_append, ite_self, memOK, logOps, opKey, lentBoxes, Key.clash, Key.sees, Key.writes, Nat.lt_irrefl, gt_iff_lt, nobox_at, bot_at, false_or, or_false, beq_self_eq_true, Bool.true_beq, Bool.false_beq, region0, K0_own, K0_keep, K0_P, K0_good1, hr, hu, ev_len_str K0_str, ev_range K0_str, e0, e1]
  obtain ⟨o, S', e, hq, hn⟩ := hloop (anyH s 0) (by omega) (Nat.zero_le _) rfl (Lib.NoAny.zero _ _)
  rw [exL_loop] at e ⊢
  simp only [firstReg, Option.orElse_some, Option.getD_some, K0_keep, K0_keep18] at e ⊢
  rw [show head ([1, 45], []) (anyH s 0) = anyH s 0 from rfl] at e
  simp only [head, keepSlots, keepBoxes, upd, AV.live, CV.live, reduceIte, Nat.reduceEqDiff]
  erw [e]
  rcases hq with ⟨rfl, hv⟩ | ⟨hv, rfl⟩
  · simp only [exL_seq, exL_cond, exL_block, exL_scope, exL_ret, exL_skip, exL_exit, runRegion, runOps, stepOp, guardA, absOp, takeOver, opd, avOf, cvOf, St.degAt, St.put, okPV, okVal, okAV, absBin, intBin, strBin, boolBin, setBoxes, if_true, Bool.false_eq_true, if_false, Option.map_some, Option.map_none, Option.bind_some, Option.bind_none, thenO, outOf, upd, List.toList_toArray, isOwn, steal, appArgs, mvB, fullAt, absFull, inApps, AV.deg, CV.deg, AV.gv, AV.isIter, absNext, some_bne, some_beqN, Nat.reduceLT, reduceIte, reduceCtorEq, Nat.reduceEqDiff, List.length_nil, List.length_cons, apply_ite (Option.map (outOf _)), List.filterMap_cons, List.filterMap_nil, beq_iff_eq, List.getElem?_cons_zero, List.getElem?_cons_succ, Option.getD_some, Nat.reduceBEq, Bool.false_and, Bool.and_false, Bool.and_self, absCall, doCall, getBoxes, lend, back, idx, dedup, AV.ren, CV.ren, TV.ren, AV.ptrs, CV.ptrs, zipBox, AV.flat, CV.flat, absLoad, absStore, cellsOfAV, setAt, newBox, markB, bldTypes, absFieldAddr, absField, absExtract, absAssert, noAssert, absMkIface, ifcOf, CV.pv?, content, pushHead, ownT, fillCells, reps, pvs, chunks, enterSt, leave, resOf, resVars, resVar, outBoxes, lentOnly, TV.deg, TV.av, LK, CV.plain, CV.noBld, nilBin, absUn, bound, List.map_cons, List.map_nil, List.all_cons, List.all_nil, List.any_cons, List.any_nil, List.contains_cons, List.contains_nil, List.elem_cons, List.elem_nil, List.cons_append, List.nil_append, List.append_nil, List.flatMap_cons, List.flatMap_nil, List.zip_cons_cons, List.zip_nil_left, List.zip_nil_right, List.take_succ_cons, List.take_zero, List.take_nil, List.drop_succ_cons, List.drop_zero, List.drop_nil, List.isEmpty_nil, List.isEmpty_cons, Bool.and_true, Bool.true_and, Bool.or_true, Bool.true_or, Bool.or_false, Bool.false_or, Bool.not_true, Bool.not_false, Nat.reduceAdd, Nat.reduceSub, Nat.reduceLeDiff, Nat.add_zero, Nat.zero_add, Nat.reduceMul, Option.isNone_none, Option.isNone_some, Option.getD_none, true_and, and_true, not_true_eq_false, not_false_eq_true, decide_true, decide_false, List.toList_toArray, Nat.le_refl, and_self, Bool.not_eq_true, Nat.sub_self, or_true, true_or, Option.some.injEq, List.length_map, List.nil_eq, and_false, false_and, AV.live, CV.live, CV.liveIn, firstReg, Option.orElse_some, Option.orElse_none, head, keepSlots, keepBoxes, Int.lt_irrefl, List.length_append, ite_self, memOK, logOps, opKey, lentBoxes, Key.clash, Key.sees, Key.writes, Nat.lt_irrefl, gt_iff_lt, nobox_at, bot_at, false_or, or_false, beq_self_eq_true, Bool.true_beq, Bool.false_beq, region0, K0_own, K0_keep, K0_P, hr, hv]
  · simp only [exL_seq, exL_cond, exL_block, exL_scope, exL_ret, exL_skip, exL_exit, runRegion, runOps, stepOp, guardA, absOp, takeOver, opd, avOf, cvOf, St.degAt, St.put, okPV, okVal, okAV, absBin, intBin, strBin, boolBin, setBoxes, if_true, Bool.false_eq_true, if_false, Option.map_some, Option.map_none, Option.bind_some, Option.bind_none, thenO, outOf, upd, List.toList_toArray, isOwn, steal, appArgs, mvB, fullAt, absFull, inApps, AV.deg, CV.deg, AV.gv, AV.isIter, absNext, some_bne, some_beqN, Nat.reduceLT, reduceIte, reduceCtorEq, Nat.reduceEqDiff, List.length_nil, List.length_cons, apply_ite (Option.map (outOf _)), List.filterMap_cons, List.filterMap_nil, beq_iff_eq, List.getElem?_cons_zero, List.getElem?_cons_succ, Option.getD_some, Nat.reduceBEq, Bool.false_and, Bool.and_false, Bool.and_self, absCall, doCall, getBoxes, lend, back, idx, dedup, AV.ren, CV.ren, TV.ren, AV.ptrs, CV.ptrs, zipBox, AV.flat, CV.flat, absLoad, absStore, cellsOfAV, setAt, newBox, markB, bldTypes, absFieldAddr, absField, absExtract, absAssert, noAssert, absMkIface, ifcOf, CV.pv?, content, pushHead, ownT, fillCells, reps, pvs, chunks, enterSt, leave, resOf, resVars, resVar, outBoxes, lentOnly, TV.deg, TV.av, LK, CV.plain, CV.noBld, nilBin, absUn, bound, List.map_cons, List.map_nil, List.all_cons, List.all_nil, List.any_cons, List.any_nil, List.contains_cons, List.contains_nil, List.elem_cons, List.elem_nil, List.cons_append, List.nil_append, List.append_nil, List.flatMap_cons, List.flatMap_nil, List.zip_cons_cons, List.zip_nil_left, List.zip_nil_right, List.take_succ_cons, List.take_zero, List.take_nil, List.drop_succ_cons, List.drop_zero, List.drop_nil, List.isEmpty_nil, List.isEmpty_cons, Bool.and_true, Bool.true_and, Bool.or_true, Bool.true_or, Bool.or_false, Bool.false_or, Bool.not_true, Bool.not_false, Nat.reduceAdd, Nat.reduceSub, Nat.reduceLeDiff, Nat.add_zero, Nat.zero_add, Nat.reduceMul, Option.isNone_none, Option.isNone_some, Option.getD_none, true_and, and_true, not_true_eq_false, not_false_eq_true, decide_true, decide_false, List.toList_toArray, Nat.le_refl, and_self, Bool.not_eq_true, Nat.sub_self, or_true, true_or, Option.some.injEq, List.length_map, List.nil_eq, and_false, false_and, AV.live, CV.live, CV.liveIn, firstReg, Option.orElse_some, Option.orElse_none, head, keepSlots, keepBoxes, Int.lt_irrefl, List.length_append, ite_self, memOK, logOps, opKey, lentBoxes, Key.clash, Key.sees, Key.writes, Nat.lt_irrefl, gt_iff_lt, nobox_at, bot_at, false_or, or_false, beq_self_eq_true, Bool.true_beq, Bool.false_beq, region0, K0_own, K0_keep, K0_P, hr, hv, hn]
end Go.Abs
namespace Go.Abs
open Go Go.Proofs Go.RowKit
def pIndexAny : Prim
  | [.c (.pv (.str s)), .c (.pv (.str p))], [] => if p = [10, 12, 13] ∧ s.length < 4294967281 then some (.c (.pv (.int .i64 (Lib.indexAny s p))), []) else none
  | _, _ => none
def goodB0 (P : Program) (f : Nat) : Bool :=
  match P.funcs[f]? with
  | some fn => fn.name != "runtime.NumGoroutine" && (match fn.body with | some c => codeOK (fun _ => false) c | none => false)
  | none => false
theorem goods0_ok : [230, 235, 199, 220, 179].all (goodB0 Tryz.prog) = true := by kernel_rfl
theorem K0_prog : Prog K0 := by
  refine ⟨by kernel_rfl, fun g hg => ?_, fun f F args bxs x _ hF hx => ?_, fun f F args bxs r call _ hF => by cases hF⟩
  · have h1 : g ∈ [230, 235, 199, 220, 179] := by simpa [K0] using hg
    have h2 := List.all_eq_true.1 goods0_ok g h1
    unfold goodB0 at h2
    split at h2
    · rename_i fn hfn
      simp only [Bool.and_eq_true] at h2
      obtain ⟨h3, h4⟩ := h2
      split at h4
      · rename_i c hc
        exact ⟨fn, c, hfn, by simpa using h3, hc, h4⟩
      · cases h4
    · cases h2
  · have h2 : pr0 f = some F := hF
    unfold pr0 at h2
    split at h2
    · rename_i hf
      cases h2
      have : f = 179 := by simpa using hf
      subst this
      exact pIndexByte_ok hx
    · cases h2
theorem h116 : (Tryz.prog.info? 161).map (fun i => (i.zero, i.size)) = some (some (.agg (Array.replicate 256 (.bool false))), 256) := by kernel_rfl
theorem pIndexAny_ok {args : List AV} {bxs : List (List CV)} {x : AV × List (List CV)} (h : pIndexAny args bxs = some x) : Contract Tryz.prog 230 args bxs (.ret x.1 x.2) := by
  unfold pIndexAny at h
  split at h
  case h_2 => cases h
  rename_i s p
  split at h
  case isFalse => cases h
  rename_i hs
  cases h
  obtain ⟨rfl, hs⟩ := hs
  by_cases h8 : s.length ≤ 8
  · exact den_ok K0_prog (by rfl) (any0_den s h8)
  · refine contract_data fun G w cargs hw hargs => ?_
    obtain ⟨x, y, rfl, hx, hy⟩ := args_two hargs
    cases hx.strv
    cases hy.strv
    have hsz : (⟨s.toArray⟩ : ByteArray).size = s.length := by simp [ByteArray.size]
    refine (Tryz.strings_IndexAny_long (zero_of_info h116).1 ⟨s.toArray⟩ ⟨([10, 12, 13] : List UInt8).toArray⟩ w (by decide) (by rw [hsz]; omega) (by rw [hsz]; exact hs) (by decide) ?_).mono ?_
    · intro j b hb
      have : b ∈ ([10, 12, 13] : List UInt8) := List.mem_of_getElem? hb
      have : b = 10 ∨ b = 12 ∨ b = 13 := by simpa using this
      rcases this with rfl | rfl | rfl <;> decide
    · rintro e w' ⟨rfl, rfl⟩
      exact ⟨_, rfl, .int _ _, ((Below.refl _ _).alloc (Nat.le_refl _) _).alloc (by simp) _⟩
end Go.Abs
namespace Go.Abs
open Go Go.Proofs Go.RowKit
set_option maxRecDepth 100000 in
set_option maxHeartbeats 4000000 in
theorem wrong_panicking (be : Nat) (older : List PanicEntry) (w : World) (y : Value) (te : TypeId) (h2 : w.heap[be]? = some (.cells #[y] te (0, 0))) :
    CallsD Tryz.prog 69 #[.pointer (some ⟨be, 0, none⟩)] (.panicking ({ v := .iface 115 (.agg #[]), recovered := false } :: older)) w fun e u' w' =>
      e = .returned (.tuple #[]) ∧ u' = .panicking ({ v := .iface 115 (.agg #[]), recovered := true } :: older) ∧
        w' = (w.alloc (.cells #[] 115)).setCell ⟨be, 0, none⟩ (.int .i64 40) := by
  have hta : ∀ w : World, (Instr.typeAssert (.iface 115 (.agg #[])) 20 115 true).run Tryz.prog w = .ok (.tuple #[.agg #[], .bool true]) w := fun _ => by kernel_rfl
  have k2 : (w.alloc (.cells #[] 115)).heap[be]? = some (.cells #[y] te (0, 0)) := (heap_old w _ be (Array.getElem?_eq_some_iff.1 h2).1).trans h2
  have c3 : (w.alloc (.cells #[] 115)).cell? ⟨be, 0, none⟩ = some y := cell_of_heap k2 0
  have f3 := frozen_of_heap k2 0
  clear k2 h2
  refine callsD_of_wpS Tryz.func69 rfl fun c₀ cs hu => ?_
  apply wpS_seq
  apply wpS_region
  simp [wpOpsS, go_sem, recoverD, hu, Tryz.ntmps69, Exit.thenS]
  refine wpS_of_wp ?_
  go_wp2
  simp [bodyPostS, results, Tryz.results69]
theorem wrong_idle (pe : Addr) (w : World) :
    CallsD Tryz.prog 69 #[.pointer (some pe)] .returning w fun e u' w' => e = .returned (.tuple #[]) ∧ u' = .returning ∧ w' = w := by
  refine callsD_of_wpS Tryz.func69 rfl fun c₀ cs hu => ?_
  apply wpS_seq
  apply wpS_region
  simp [wpOpsS, go_sem, recoverD, hu, Tryz.ntmps69, Exit.thenS]
  refine wpS_of_wp ?_
  go_wp2
  cases c₀
  simp_all [bodyPostS, results, Tryz.results69]
abbrev wrongV : Value := .iface 115 (.agg #[])
theorem must_walk (b : Bool) (w : World) :
    Calls Tryz.prog 40 #[.bool b] w fun e w' => w' = w ∧ e = (if b then .returned (.tuple #[]) else .panicked [{ v := wrongV, recovered := false }]) := by
  go_enter Tryz.func40, Tryz.ntmps40
  cases b
  · go_wp2
    rw [show (Instr.panic (.iface 115 (.agg #[]))).run Tryz.prog w = .halt (.panic (.iface 115 (.agg #[]))) w from rfl]
    simp only [Result.andThen]
    rw [Oper.upon_panic]
    exact ⟨rfl, by simp⟩
  · go_wp2
    simp [bodyPost, results, Tryz.results40]
noncomputable def K0W : Cfg := { P := Tryz.prog, pr := fun _ => none, keep := fun _ _ => ([], []), ownRet := fun _ => false, good := fun _ => false, hook := fun _ _ => false }
abbrev rdS (x : Value) : Obj := .cells #[x] 118
structure DoOut (b0 : Nat) (Ret : Nat → World → World → Prop) (Pan : World → World → Prop) (w1 : World) (e : Ending) (w2 : World) : Prop where
  e0 : w2.heap[b0]? = some inE
  out : (∃ v a n c ty, e = .returned v ∧ w2.heap[w1.heap.size]? = some (.cells #[.slice a n c] ty (0, 0)) ∧ Ret n w1 w2) ∨ (e = .panicked [{ v := wrongV, recovered := false }] ∧ Pan w1 w2)
set_option maxRecDepth 100000 in
set_option maxHeartbeats 8000000 in
theorem whole_walk (x : Value) (g : FuncId) (fn : Func) (hfn : Tryz.prog.funcs[g]? = some fn) (hnm : fn.name ≠ "runtime.NumGoroutine") (hbd : fn.body.isSome = true) (vs : List Value) (w : World)
    (Tr : Option Addr → Nat → Nat → World → Prop) (Ret : Nat → World → World → Prop) (Pan : World → World → Prop)
    (hT : Calls Tryz.prog 70 #[x] (w.alloc inE) fun e w1 => w1.heap[w.heap.size]? = some inE ∧ ∃ a n c, e = .returned (.slice a n c) ∧ Tr a n c w1)
    (hD : ∀ a n c w1, Tr a n c w1 → w1.heap[w.heap.size]? = some inE → Calls Tryz.prog g (.pointer (some ⟨w1.heap.size, 0, none⟩) :: vs).toArray (w1.alloc (rdS (.slice a n c))) fun e w2 => DoOut w.heap.size Ret Pan w1 e w2) :
    Calls Tryz.prog 37 #[x, .func (.func g) #[] vs.toArray] w fun e w'' =>
      (∃ w1 w2, Ret 0 w1 w2 ∧ e = .returned (.int .i64 0) ∧ w'' = w2.setCell ⟨w.heap.size, 0, none⟩ (.int .i64 0)) ∨
      (∃ n w1 w2, Ret n w1 w2 ∧ n ≠ 0 ∧ e = .returned (.int .i64 40) ∧ w'' = (w2.alloc (.cells #[] 115)).setCell ⟨w.heap.size, 0, none⟩ (.int .i64 40)) ∨
      (∃ w1 w2, Pan w1 w2 ∧ e = .returned (.int .i64 40) ∧ w'' = (w2.alloc (.cells #[] 115)).setCell ⟨w.heap.size, 0, none⟩ (.int .i64 40)) := by
  have hmf : ∀ (fn : Fn) (first cap : Array Value) (w : World), (Instr.makeFunc fn first cap).run Tryz.prog w = .ok (.func fn first cap) w := fun _ _ _ _ => rfl
  go_enter_defers Tryz.func37, Tryz.ntmps37
  have hcf : ∀ (args : Array Value) (w : World), (callFunc g args).run Tryz.prog w = .ok (.enter g args) w := fun args w => run_callFunc (K := K0W) hfn hnm hbd
  go_wp2_with (go_at_call 70; refine hT.mono ?_)
  rintro e w1 ⟨k0, ya, yn, yc, rfl, hy⟩
  have hDD := hD ya yn yc w1 hy k0
  go_wp2_with (refine hDD.mono ?_)
  rintro e w2 ⟨e0, ⟨v, ra, rn, rc, ty, rfl, hr0, hR⟩ | ⟨rfl, hP⟩⟩
  · have c1 : w2.cell? ⟨w1.heap.size, 0, none⟩ = some (.slice ra rn rc) := cell_of_heap hr0 0
    have c0 : w2.cell? ⟨w.heap.size, 0, none⟩ = some (.int .i64 0) := cell_of_heap e0 0
    have f0 := frozen_of_heap e0 0
    by_cases hn : rn = 0
    · subst hn
      have hm := must_walk true w2
      go_wp2_with (go_at_call 40; refine hm.mono ?_)
      refine leaves_cons (f := 69) (args := #[.pointer (some ⟨w.heap.size, 0, none⟩)]) (by simp) (by simp [go_sem]) ?_
      refine (wrong_idle _ _).mono ?_
      rintro e u' w'' ⟨rfl, rfl, rfl⟩
      have e2 : (w2.setCell ⟨w.heap.size, 0, none⟩ (.int .i64 0)).cell? ⟨w.heap.size, 0, none⟩ = some (.int .i64 0) := World.cell?_setCell_same _ _ _ c0
      refine ⟨.int .i64 0, ?_, .inl ⟨w1, w2, hR, rfl, rfl⟩⟩
      simp [results, Tryz.results37, go_sem, e2]
    · have hne : ((rn : Int) == 0) = false := by rw [beq_eq_false_iff_ne]; omega
      have hm := must_walk false w2
      go_wp2_with (go_at_call 40; refine hm.mono ?_)
      refine leaves_cons (f := 69) (args := #[.pointer (some ⟨w.heap.size, 0, none⟩)]) (by simp) (by simp [go_sem]) ?_
      refine (wrong_panicking _ [] _ _ _ e0).mono ?_
      rintro e u' w'' ⟨rfl, rfl, rfl⟩
      have g2 : (w2.alloc (.cells #[] 115)).heap[w.heap.size]? = some inE := (heap_old w2 _ _ (Array.getElem?_eq_some_iff.1 e0).1).trans e0
      have d3 : (w2.alloc (.cells #[] 115)).cell? ⟨w.heap.size, 0, none⟩ = some (.int .i64 0) := cell_of_heap g2 0
      have e2 : ((w2.alloc (.cells #[] 115)).setCell ⟨w.heap.size, 0, none⟩ (.int .i64 40)).cell? ⟨w.heap.size, 0, none⟩ = some (.int .i64 40) := World.cell?_setCell_same _ _ _ d3
      refine ⟨.int .i64 40, ?_, .inr (.inl ⟨rn, w1, w2, hR, hn, rfl, rfl⟩)⟩
      simp [results, Tryz.results37, go_sem, e2]
  · go_wp2
    refine leaves_cons (f := 69) (args := #[.pointer (some ⟨w.heap.size, 0, none⟩)]) (by simp) (by simp [go_sem]) ?_
    refine (wrong_panicking _ [] _ _ _ e0).mono ?_
    rintro e u' w'' ⟨rfl, rfl, rfl⟩
    have g2 : (w2.alloc (.cells #[] 115)).heap[w.heap.size]? = some inE := (heap_old w2 _ _ (Array.getElem?_eq_some_iff.1 e0).1).trans e0
    have d3 : (w2.alloc (.cells #[] 115)).cell? ⟨w.heap.size, 0, none⟩ = some (.int .i64 0) := cell_of_heap g2 0
    have e2 : ((w2.alloc (.cells #[] 115)).setCell ⟨w.heap.size, 0, none⟩ (.int .i64 40)).cell? ⟨w.heap.size, 0, none⟩ = some (.int .i64 40) := World.cell?_setCell_same _ _ _ d3
    refine ⟨.int .i64 40, ?_, .inr (.inr ⟨w1, w2, hP, rfl, rfl⟩)⟩
    simp [results, Tryz.results37, go_sem, e2]
end Go.Abs
namespace Go.Abs
open Go Go.Proofs Go.RowKit
def lkFrom : Nat → List (List CV) → List Nat
  | _, [] => []
  | k, _ :: l => k :: lkFrom (k + 1) l
theorem lk_get : ∀ {l : List (List CV)} {k i : Nat}, i < l.length → (lkFrom k l)[i]? = some (k + i)
  | [], _, _, h => by simp at h
  | _ :: l, k, 0, _ => by simp [lkFrom]
  | _ :: l, k, i + 1, h => by
    rw [lkFrom, List.getElem?_cons_succ, lk_get (by simpa using h)]
    congr 1
    omega
theorem lk_mem : ∀ {l : List (List CV)} {k s : Nat}, s ∈ lkFrom k l → k ≤ s
  | [], _, _, h => by cases h
  | _ :: l, k, s, h => by
    rw [lkFrom] at h
    rcases List.mem_cons.1 h with rfl | h
    · exact Nat.le_refl _
    · have := lk_mem h; omega
theorem lk_nodup : ∀ (l : List (List CV)) (k : Nat), (lkFrom k l).Nodup
  | [], _ => List.nodup_nil
  | _ :: l, k => by
    rw [lkFrom]
    exact List.nodup_cons.2 ⟨fun h => by have := lk_mem h; omega, lk_nodup l (k + 1)⟩
theorem lk_len : ∀ (l : List (List CV)) (k : Nat), (lkFrom k l).length = l.length
  | [], _ => rfl
  | _ :: l, k => by rw [lkFrom, List.length_cons, lk_len l (k + 1), List.length_cons]
theorem lk_boxes {bx : Nat → Option (List CV)} : ∀ (l : List (List CV)) (k : Nat), (∀ i c, l[i]? = some c → bx (k + i) = some c) → getBoxes bx (lkFrom k l) = some l
  | [], _, _ => rfl
  | c :: l, k, h => by
    have h0 := h 0 c rfl
    have h1 := lk_boxes (bx := bx) l (k + 1) fun i d hd => by
      have := h (i + 1) d (by simpa using hd)
      rw [show k + 1 + i = k + (i + 1) by omega]; exact this
    rw [lkFrom, getBoxes, show bx k = some c from h0, h1]
def wholeL (bxs : List (List CV)) : List Nat := 0 :: lkFrom LK bxs
def wholeB (bxs bs : List (List CV)) : List (List CV) := bs.map fun b => (b.map (CV.ren (back (wholeL bxs)))).map (CV.ren lentOnly)
def wholeP (good : FuncId → Bool) : List AV → List (List CV) → Plan
  | [.c (.pv (.sl c)), .c (.fn g caps)], bxs =>
    .call 70 [.c (.pv (.sl c))] [] fun r => match r with
      | .ret (.c (.pv (.sl t))) [] =>
        if good g then
          .call g ((AV.c (.loc 0 0) :: caps.map fun x => AV.c (.loc x.1 x.2)).map fun a => (a.deg).ren (lend (wholeL bxs))) (([.pv (.sl t)] :: bxs).map fun b => b.map (CV.ren (lend (wholeL bxs)))) fun r2 => match r2 with
            | .ret _ ([v] :: bs) => (match v.pv? with
              | some (.sl m) => .done (.ret (.c (.pv (.int .i64 (if m.isEmpty then 0 else 40)))) (wholeB bxs bs))
              | _ => .fail)
            | .pan (.pv (.ifa x [])) (_ :: bs) => if x = 115 then .done (.ret (.c (.pv (.int .i64 40))) (wholeB bxs bs)) else .fail
            | _ => .fail
        else .fail
      | _ => .fail
  | _, _ => .fail
section
variable {G G1 G3 : Gh} {w w1 w2 w'' : World}
theorem box_gr {o : Obj} (hw : WI G w) {dd : Nat} (hd : dd < LK) (hbb : G.bb dd = none) : Gr (fun _ => False) G w (G.box dd w.heap.size) (w.alloc o) := by
  refine ⟨⟨fun _ _ _ h => h, fun c hc ho => ⟨?_, heap_old w _ c hc, fun _ => rfl⟩, by rw [alloc_size]; omega, rfl, rfl, rfl, fun k hk => ?_⟩, fun s b hb => ?_, fun b ℓ hb _ => ⟨?_, heap_old w _ b (ow_lt hw hb), fun _ => rfl⟩⟩
  · show upd G.ow w.heap.size _ c = none
    unfold upd; rw [if_neg (by omega)]; exact ho
  · show upd G.bb dd _ k = _
    unfold upd; rw [if_neg (by omega)]
  · show upd G.bb dd _ s = _
    unfold upd; rw [if_neg (fun e => by rw [e, hbb] at hb; cases hb)]; exact hb
  · show upd G.ow w.heap.size _ b = _
    have := ow_lt hw hb
    unfold upd; rw [if_neg (by omega)]; exact hb
structure WFin (G : Gh) (w : World) (bs : List (List CV)) (G3 : Gh) (w2 : World) : Prop where
  ext : Ext G w G3 w2
  wi : WI G3 w2
  ow : G3.ow w.heap.size = none
  no : ∀ o, G3.I w.heap.size o = none
  lt : w.heap.size < w2.heap.size
  box : ∀ (i : Nat) (l : List CV), bs[i]? = some l → BoxR G3 w2 (LK + i) l
theorem fin_ok {bs : List (List CV)} (hw : WI G w) (hbb : ∀ s b, G.bb s = some b → LK ≤ s) (h : WFin G w bs G3 w2)
    (hs : w2.heap.size ≤ w''.heap.size) (ho : w''.os = w2.os) (hp : w''.output = w2.output) (ht : w''.tape = w2.tape) (hh : ∀ b, b < w2.heap.size → b ≠ w.heap.size → w''.heap[b]? = w2.heap[b]?) :
    Ext G w { G3 with bb := G.bb } w'' ∧ WI { G3 with bb := G.bb } w'' ∧ ∀ (i : Nat) (l : List CV), (bs.map fun b => b.map (CV.ren lentOnly))[i]? = some l → BoxR { G3 with bb := G.bb } w'' (LK + i) l := by
  have hlent : ∀ k, LK ≤ k → G3.bb k = G.bb k := h.ext.lent
  have hold : ∀ b, b < w.heap.size → G.ow b = none → G3.ow b = none ∧ w''.heap[b]? = w.heap[b]? ∧ ∀ o, G3.I b o = G.I b o := fun b hb hn => by
    have h3 := h.ext.old b hb hn
    have := h.ext.size
    exact ⟨h3.1, (hh b (by omega) (by omega)).trans h3.2.1, h3.2.2⟩
  have how : ∀ b ℓ, G3.ow b = some ℓ → w''.heap[b]? = w2.heap[b]? := fun b ℓ hb => by
    refine hh b (ow_lt h.wi hb) fun e => ?_
    rw [e, h.ow] at hb; cases hb
  have hsz := h.ext.size
  refine ⟨⟨h.ext.I, hold, by omega, ho.trans h.ext.os, hp.trans h.ext.output, ht.trans h.ext.tape, fun _ _ => rfl⟩, ⟨fun b o y hI => ?_, fun b hb => h.wi.fresh b (by omega), h.wi.boxI, fun s b hb => ?_, hw.tab.map fun b hb hn => ⟨(hold b hb hn).1, (hold b hb hn).2.1⟩⟩, fun i l hl => ?_⟩
  · have h1 : G3.I b o = some y := hI
    have e : w''.heap[b]? = w2.heap[b]? := hh b (I_lt h.wi h1) (fun e => by rw [e, h.no] at h1; cases h1)
    have := h.wi.cell b o y h1
    unfold World.cell? at this ⊢
    rw [e]
    exact this
  · have hb' : G.bb s = some b := hb
    exact h.wi.bbow s b (by rw [hlent s (hbb s b hb')]; exact hb')
  · rw [List.getElem?_map, Option.map_eq_some_iff] at hl
    obtain ⟨l0, hl0, rfl⟩ := hl
    obtain ⟨b, cs, ty, h1, h2, h3, h4⟩ := h.box i l0 hl0
    have hb3 := h.wi.bbow _ b h1
    refine ⟨b, cs, ty, ?_, (how b _ hb3).trans h2, ⟨by simpa using h3.1, h3.2.map (fun v e => ren_bld e)⟩, fun k u hu => ?_⟩
    · show G.bb (LK + i) = some b
      rw [← hlent (LK + i) (by omega)]; exact h1
    · rw [List.getElem?_map, Option.map_eq_some_iff] at hu
      obtain ⟨u', hu', rfl⟩ := hu
      obtain ⟨y, h5, h6⟩ := h4 k u' hu'
      refine ⟨y, h5, ?_⟩
      by_cases hpl : u'.plain = true
      · refine .of_RN (RN.ren (G := G3) (G1 := { G3 with bb := G.bb }) (fun _ _ _ h => h) (fun s k b hs hb => ?_) (h6.to_RN hpl))
        unfold lentOnly at hs
        split at hs
        · rename_i hk
          cases hs
          show G.bb s = some b
          rw [← hlent s hk]; exact hb
        · cases hs
      · cases u' <;> simp [CV.plain] at hpl
        case iter s2 pos => exact IterAt.one h6
        case cmap es =>
          obtain ⟨b', clock, k1, k2, k3⟩ := (h6 : MapAt G3 w2 _ es y)
          exact ⟨b', clock, k1, k2, (how b' _ k2).trans k3⟩
        rename_i e c
        have h7 : OwnAt G3 w2 (.cell (LK + i) k) e c y := h6
        show OwnAt { G3 with bb := G.bb } w'' (.cell (LK + i) k) e c y
        rcases h7 with ⟨h7, ad, h8, h9⟩ | ⟨hne, b', cap, cur, sz, k1, k2, k3, k4⟩
        · exact .inl ⟨h7, ad, h8, h9.map fun b' hb' => ⟨hb', how b' _ hb'⟩⟩
        · exact .inr ⟨hne, b', cap, cur, sz, k1, k2, (how b' _ k2).trans k3, k4⟩
theorem pv_slice {ℓ : Own} {v : CV} {x : Value} {m : List (List PV)} (h : RC G w ℓ v x) (hv : v.pv? = some (.sl m)) : ∃ a c, x = .slice a m.length c := by
  cases v <;> simp only [CV.pv?] at hv <;> try cases hv
  · obtain ⟨a, cap, rfl, _⟩ := RP.slice_inv (show RP G.I (.sl m) x from h)
    exact ⟨a, cap, rfl⟩
  · obtain ⟨a, cap, rfl, _⟩ := RP.slice_inv (OwnAt.rp (show OwnAt G w ℓ _ m x from h))
    exact ⟨a, cap, rfl⟩
  · have : x = .slice none 0 0 := h
    exact ⟨none, 0, this⟩
  · obtain ⟨a, cap, rfl, _⟩ := RP.slice_inv (show RP G.I (.sl m) x from h.1)
    exact ⟨a, cap, rfl⟩
theorem pv_ren {g : Nat → Option Nat} {v : CV} {p : PV} (hv : v.pv? = some p) : v.ren g = v := by
  cases v <;> simp only [CV.pv?] at hv <;> first | rfl | cases hv
end
theorem whole_run {good : FuncId → Bool} {call : CallF} {args : List AV} {bxs : List (List CV)} {r : Res} (h : (wholeP good args bxs).run call = some r) :
    ∃ (c : List (List PV)) (g : FuncId) (caps : List (Nat × Nat)) (t : List (List PV)) (r2 : Res), args = [.c (.pv (.sl c)), .c (.fn g caps)] ∧ good g = true ∧
      call 70 [.c (.pv (.sl c))] [] = some (.ret (.c (.pv (.sl t))) []) ∧
      call g ((AV.c (.loc 0 0) :: caps.map fun x => AV.c (.loc x.1 x.2)).map fun a => (a.deg).ren (lend (wholeL bxs))) (([.pv (.sl t)] :: bxs).map fun b => b.map (CV.ren (lend (wholeL bxs)))) = some r2 ∧
      ((∃ u v bs m, r2 = .ret u ([v] :: bs) ∧ v.pv? = some (.sl m) ∧ r = .ret (.c (.pv (.int .i64 (if m.isEmpty then 0 else 40)))) (wholeB bxs bs)) ∨
       (∃ b bs, r2 = .pan (.pv (.ifa 115 [])) (b :: bs) ∧ r = .ret (.c (.pv (.int .i64 40))) (wholeB bxs bs))) := by
  unfold wholeP at h
  split at h
  case h_2 => simp [Plan.run] at h
  rename_i c g caps
  rw [Plan.run] at h
  split at h
  case h_2 => cases h
  rename_i r1 hr1
  split at h
  case h_2 => simp [Plan.run] at h
  rename_i t
  split at h
  case isFalse => simp [Plan.run] at h
  rename_i hg
  rw [Plan.run] at h
  split at h
  case h_2 => cases h
  rename_i r2 hr2
  refine ⟨c, g, caps, t, r2, rfl, hg, hr1, hr2, ?_⟩
  split at h
  · rename_i u v bs
    split at h
    · rename_i m hm
      simp only [Plan.run, Option.some.injEq] at h
      exact .inl ⟨u, v, bs, m, rfl, hm, h.symm⟩
    · simp [Plan.run] at h
  · rename_i x b bs
    split at h
    · rename_i hx
      subst hx
      simp only [Plan.run, Option.some.injEq] at h
      exact .inr ⟨b, bs, rfl, h.symm⟩
    · simp [Plan.run] at h
  · simp [Plan.run] at h
set_option maxHeartbeats 4000000 in
/-- THE CONTRACT -/
theorem whole_ok {good : FuncId → Bool} (hgd : ∀ g, good g = true → ∃ fn, Tryz.prog.funcs[g]? = some fn ∧ fn.name ≠ "runtime.NumGoroutine" ∧ fn.body.isSome = true) (hT : good 70 = true) {call : CallF}
    (hc : ∀ g args bxs r, good g = true → call g args bxs = some r → Contract Tryz.prog g args bxs r) {args : List AV} {bxs : List (List CV)} {r : Res} (h : (wholeP good args bxs).run call = some r) :
    Contract Tryz.prog 37 args bxs r := by
  obtain ⟨c, g, caps, t, r2, rfl, hg, hr1, hr2, hfin⟩ := whole_run h
  intro G w cargs hw hargs hno hb hbb
  obtain ⟨x, y, rfl, hx, hy⟩ := args_two hargs
  obtain ⟨vs, rfl, hcaps⟩ : ∃ vs : List Value, y = .func (.func g) #[] vs.toArray ∧ All2 (fun (c : Nat × Nat) (v : Value) => ∃ b, G.bb c.1 = some b ∧ v = Value.pointer (some ⟨b, c.2, none⟩)) caps vs := hy
  obtain ⟨fn, hfn, hnm, hbd⟩ := hgd g hg
  have hge : ∀ s b, G.bb s = some b → LK ≤ s := fun s b e => by
    obtain ⟨i, _, rfl⟩ := hbb s b e
    omega
  have hn0 : G.bb 0 = none := by
    cases e : G.bb 0 with
    | none => rfl
    | some b => have := hge 0 b e; unfold LK at this; omega
  obtain ⟨g0, hw0⟩ := below_gr (w' := w.alloc inE) hw ((Below.refl _ _).alloc (Nat.le_refl _) _)
  have hs0 : (w.alloc inE).heap.size = w.heap.size + 1 := alloc_size w _
  have hE : ∀ {G1 : Gh} {w1 : World}, Ext G (w.alloc inE) G1 w1 → w1.heap[w.heap.size]? = some inE ∧ G1.ow w.heap.size = none ∧ (∀ o, G1.I w.heap.size o = none) ∧ w.heap.size < w1.heap.size := fun {G1 w1} hx => by
    have h1 := hx.old w.heap.size (by rw [hs0]; omega) (hw.fresh _ (Nat.le_refl _)).2
    have h2 := hx.size
    rw [hs0] at h2
    exact ⟨h1.2.1.trans (heap_alloc_new w _), h1.1, fun o => (h1.2.2 o).trans ((hw.fresh _ (Nat.le_refl _)).1 o), by omega⟩
  let bx0 : Nat → Option (List CV) := fun k => if LK ≤ k then bxs[k - LK]? else none
  have hbx0 : ∀ s l, bx0 s = some l → LK ≤ s ∧ bxs[s - LK]? = some l := fun s l e => by
    simp only [bx0] at e
    split at e
    · rename_i hk; exact ⟨hk, e⟩
    · cases e
  have hbox0 : ∀ s l, bx0 s = some l → BoxR G w s l := fun s l e => by
    obtain ⟨h1, h2⟩ := hbx0 s l e
    have := hb (s - LK) l h2
    rw [show LK + (s - LK) = s by omega] at this
    exact this
  have hf0 : FR G (w.alloc inE) { sl := bot, bx := bx0, nt := 0 } { tmps := #[], defers := [] } :=
    ⟨rfl, fun _ => trivial, fun s l e => (hbox0 s l e).gr hw g0 (fun h => h) (fun _ h => h), fun s e hlt => by
      cases hq : G.bb s with
      | none => rfl
      | some b => have := hge s b hq; omega⟩
  have hcT : Contract Tryz.prog 70 ([AV.c (.pv (.sl c))].map fun a => (a.deg).ren (lend [])) (([] : List (List CV)).map fun c => c.map (CV.ren (lend []))) (.ret (.c (.pv (.sl t))) []) := hc _ _ _ _ hT hr1
  have hTr := call_ok (L := []) (o := .ret) List.nodup_nil hf0 hw0 (fun s e => by cases e) rfl (.cons ⟨.ret, RA.gr_plain (ℓ' := .ret) hx g0 rfl⟩ .nil : All2 (fun v x => ∃ ℓ, RA G (w.alloc inE) ℓ v x) [AV.c (.pv (.sl c))] [x]) hcT
  let Tr : Option Addr → Nat → Nat → World → Prop := fun a n cc w1 => ∃ G1, Gr (lentCh []) G (w.alloc inE) G1 w1 ∧ WI G1 w1 ∧ G1.bb = G.bb ∧ RP G1.I (.sl t) (.slice a n cc)
  have hT' : Calls Tryz.prog 70 #[x] (w.alloc inE) fun e w1 => w1.heap[w.heap.size]? = some inE ∧ ∃ a n cc, e = .returned (.slice a n cc) ∧ Tr a n cc w1 := by
    refine hTr.mono ?_
    rintro e w1 ⟨G1, g1, hw1, hbb1, z, rfl, hz, _⟩
    have hz' : RP G1.I (.sl t) z := hz
    obtain ⟨a, cap, rfl, _⟩ := hz'.slice_inv
    exact ⟨(hE g1.ext).1, a, _, cap, rfl, G1, g1, hw1, hbb1, hz'⟩
  have hD : ∀ a n cc w1, Tr a n cc w1 → Calls Tryz.prog g (.pointer (some ⟨w1.heap.size, 0, none⟩) :: vs).toArray (w1.alloc (rdS (.slice a n cc))) fun e w2 => ∃ G3, Ext G (w.alloc inE) G3 w2 ∧ WI G3 w2 ∧ G3.bb 0 = some w1.heap.size ∧
      match r2 with
      | .ret u cs => ∃ z, e = .returned z ∧ cs.length = (wholeL bxs).length ∧ ∀ (i s : Nat) (l : List CV), (wholeL bxs)[i]? = some s → cs[i]? = some l → BoxR G3 w2 s (l.map (CV.ren (back (wholeL bxs))))
      | .pan u cs => ∃ z, e = .panicked [{ v := z, recovered := false }] ∧ RN G3 (u.ren (back (wholeL bxs))) z ∧ cs.length = (wholeL bxs).length ∧ ∀ (i s : Nat) (l : List CV), (wholeL bxs)[i]? = some s → cs[i]? = some l → BoxR G3 w2 s (l.map (CV.ren (back (wholeL bxs)))) := by
    rintro a n cc w1 ⟨G1, g1, hw1, hbb1, hz⟩
    have hno1 : G1.bb 0 = none := by rw [hbb1]; exact hn0
    have g2 := box_gr (o := rdS (.slice a n cc)) hw1 (dd := 0) (by unfold LK; omega) hno1
    have hw2 := box_WI (o := rdS (.slice a n cc)) hw1 hno1
    have hbb2 : (G1.box 0 w1.heap.size).bb 0 = some w1.heap.size := by simp [Gh.box, upd]
    have hbbs : ∀ s, s ≠ 0 → (G1.box 0 w1.heap.size).bb s = G.bb s := fun s hs => by
      show upd G1.bb 0 _ s = _
      unfold upd
      rw [if_neg hs, hbb1]
    have hf2 : FR (G1.box 0 w1.heap.size) (w1.alloc (rdS (.slice a n cc))) { sl := bot, bx := upd bx0 0 (some [.pv (.sl t)]), nt := 0 } { tmps := #[], defers := [] } := by
      refine ⟨rfl, fun _ => trivial, fun s l e => ?_, fun s e hlt => ?_⟩
      · have e' : upd bx0 0 (some [.pv (.sl t)]) s = some l := e
        unfold upd at e'
        split at e'
        · rename_i hs
          subst hs
          cases e'
          refine ⟨w1.heap.size, _, _, hbb2, heap_alloc_new w1 _, ⟨rfl, fun e => by simp at e⟩, fun k v hk => ?_⟩
          match k with
          | 0 =>
            simp only [List.getElem?_cons_zero, Option.some.injEq] at hk
            subst hk
            exact ⟨_, rfl, hz⟩
          | k + 1 => simp at hk
        · have h1 := ((hbox0 s l e').gr hw g0 (fun h => h) (fun _ h => h)).gr hw0 g1 (fun ⟨_, hm, _⟩ => by cases hm) (fun _ ⟨_, hm, _⟩ => by cases hm)
          exact h1.gr hw1 g2 (fun h => h) (fun _ h => h)
      · have e' : upd bx0 0 (some [.pv (.sl t)]) s = none := e
        unfold upd at e'
        split at e'
        · cases e'
        · rename_i hs
          rw [hbbs s hs]
          cases hq : G.bb s with
          | none => rfl
          | some b => have := hge s b hq; omega
    have hnd : (wholeL bxs).Nodup := List.nodup_cons.2 ⟨fun hm => by have := lk_mem hm; unfold LK at this; omega, lk_nodup bxs LK⟩
    have hgB : getBoxes (upd bx0 0 (some [.pv (.sl t)])) (wholeL bxs) = some ([.pv (.sl t)] :: bxs) := by
      unfold wholeL
      rw [getBoxes, show upd bx0 0 (some [CV.pv (.sl t)]) 0 = some [CV.pv (.sl t)] by simp [upd], lk_boxes bxs LK fun i c hi => by
        show upd bx0 0 _ (LK + i) = _
        unfold upd
        rw [if_neg (by unfold LK; omega)]
        simp only [bx0]
        rw [if_pos (by omega), Nat.add_sub_cancel_left]
        exact hi]
    have hargs2 : All2 (fun v x => ∃ ℓ, RA (G1.box 0 w1.heap.size) (w1.alloc (rdS (.slice a n cc))) ℓ v x) (AV.c (.loc 0 0) :: caps.map fun x => AV.c (.loc x.1 x.2)) (.pointer (some ⟨w1.heap.size, 0, none⟩) :: vs) :=
      .cons ⟨.ret, w1.heap.size, hbb2, rfl⟩ (All2.map_left (hcaps.imp fun cp v _ ⟨b, h1, h2⟩ => ⟨.ret, b, (hbbs cp.1 (fun e => by rw [e, hn0] at h1; cases h1)).trans h1, h2⟩))
    refine (call_ok (o := .ret) hnd hf2 hw2 (fun s e => by cases e) hgB hargs2 (hc g _ _ r2 hg hr2)).mono ?_
    rintro e w2 ⟨G3, g3, hw3, hbb3, hq⟩
    refine ⟨G3, g1.ext.trans (g2.ext.trans g3.ext), hw3, by rw [hbb3]; exact hbb2, ?_⟩
    cases r2 with
    | ret u cs =>
      obtain ⟨z, h1, _, h3, h4⟩ := hq
      exact ⟨z, h1, h3, h4⟩
    | pan u cs => exact hq
  have hlk : ∀ i, i < bxs.length → (wholeL bxs)[i + 1]? = some (LK + i) := fun i hi => by
    unfold wholeL
    rw [List.getElem?_cons_succ, lk_get hi]
  have hll : (wholeL bxs).length = bxs.length + 1 := by unfold wholeL; rw [List.length_cons, lk_len]
  have hbs : ∀ {bs : List (List CV)} {G3 : Gh} {w2 : World}, bs.length = bxs.length → Ext G (w.alloc inE) G3 w2 → WI G3 w2 → (∀ (i : Nat) (l : List CV), i < bxs.length → bs[i]? = some l → BoxR G3 w2 (LK + i) (l.map (CV.ren (back (wholeL bxs))))) →
      WFin G w (bs.map fun b => b.map (CV.ren (back (wholeL bxs)))) G3 w2 := fun {bs G3 w2} hln hx hwi hbo => by
    obtain ⟨_, h2, h3, h4⟩ := hE hx
    refine ⟨g0.ext.trans hx, hwi, h2, h3, h4, fun i l hl => ?_⟩
    rw [List.getElem?_map, Option.map_eq_some_iff] at hl
    obtain ⟨l0, hl0, rfl⟩ := hl
    exact hbo i l0 (by rw [← hln]; exact (List.getElem?_eq_some_iff.1 hl0).1) hl0
  have hwB : ∀ bs : List (List CV), wholeB bxs bs = (bs.map fun b => b.map (CV.ren (back (wholeL bxs)))).map fun b => b.map (CV.ren lentOnly) := fun bs => by
    unfold wholeB
    rw [List.map_map]; rfl
  rcases hfin with ⟨u, v, bs, m, rfl, hm, rfl⟩ | ⟨b, bs, rfl, rfl⟩
  · let Rt : Nat → World → World → Prop := fun n _ w2 => n = m.length ∧ bs.length = bxs.length ∧ ∃ G3, WFin G w (bs.map fun b => b.map (CV.ren (back (wholeL bxs)))) G3 w2
    have hW := whole_walk x g fn hfn hnm hbd vs w Tr Rt (fun _ _ => False) hT' (fun a n cc w1 hTr1 k0 => by
      refine (hD a n cc w1 hTr1).mono ?_
      rintro e w2 ⟨G3, hx3, hw3, hb3, z, rfl, hln, hbo⟩
      rw [List.length_cons, hll] at hln
      obtain ⟨b', cs, ty, e1, e2, ⟨e3, _⟩, e4⟩ := hbo 0 0 [v] rfl rfl
      rw [hb3] at e1
      cases e1
      obtain ⟨zz, e5, e6⟩ := e4 0 (v.ren (back (wholeL bxs))) rfl
      rw [pv_ren hm] at e6
      obtain ⟨ra, rc, rfl⟩ := pv_slice e6 hm
      have ecs : cs = #[.slice ra m.length rc] := by
        have hsz : cs.size = 1 := by simpa using e3
        apply Array.ext
        · simpa using hsz
        · intro i h1 h2
          have hi : i = 0 := by omega
          subst hi
          rw [Array.getElem?_eq_getElem h1] at e5
          simpa using e5
      subst ecs
      exact ⟨(hE hx3).1, .inl ⟨z, ra, m.length, rc, ty, rfl, e2, rfl, by omega, G3, hbs (by omega) hx3 hw3 fun i l hi hl => hbo (i + 1) (LK + i) l (hlk i hi) (by simpa using hl)⟩⟩)
    refine hW.mono ?_
    have fin : ∀ {w2 w'' : World} {k : Int}, (bs.length = bxs.length ∧ ∃ G3, WFin G w (bs.map fun b => b.map (CV.ren (back (wholeL bxs)))) G3 w2) → w2.heap.size ≤ w''.heap.size → w''.os = w2.os → w''.output = w2.output → w''.tape = w2.tape →
        (∀ b, b < w2.heap.size → b ≠ w.heap.size → w''.heap[b]? = w2.heap[b]?) → ∃ G', Ext G w G' w'' ∧ WI G' w'' ∧ REnd bxs.length G' w'' (.returned (.int .i64 k)) (.ret (.c (.pv (.int .i64 k))) (wholeB bxs bs)) := fun {w2 w'' k} ⟨hln, G3, hF⟩ h1 h2 h3 h4 h5 => by
      obtain ⟨k1, k2, k3⟩ := fin_ok hw hge hF h1 h2 h3 h4 h5
      refine ⟨_, k1, k2, _, rfl, .int _ _, by rw [hwB]; simpa using hln, ?_⟩
      rw [hwB]
      exact k3
    rintro e w'' (⟨w1, w2, ⟨hn, hR⟩, rfl, rfl⟩ | ⟨n, w1, w2, ⟨hn, hR⟩, hne, rfl, rfl⟩ | ⟨_, _, hf, _⟩)
    · have : m.isEmpty = true := by
        cases m with
        | nil => rfl
        | cons _ _ => simp at hn
      rw [this, if_pos rfl]
      exact fin hR (by rw [set_size]; exact Nat.le_refl _) rfl rfl rfl fun b _ h2 => heap_set_other _ _ _ (by simpa using h2)
    · have : m.isEmpty = false := by
        cases m with
        | nil => exact absurd hn hne
        | cons _ _ => rfl
      rw [this, if_neg (by simp)]
      exact fin hR (by rw [set_size, alloc_size]; omega) rfl rfl rfl fun b hb h2 => (heap_set_other _ _ _ (by simpa using h2)).trans (heap_old _ _ _ hb)
    · exact hf.elim
  · have hW := whole_walk x g fn hfn hnm hbd vs w Tr (fun _ _ _ => False) (fun _ w2 => bs.length = bxs.length ∧ ∃ G3, WFin G w (bs.map fun b => b.map (CV.ren (back (wholeL bxs)))) G3 w2) hT' (fun a n cc w1 hTr1 k0 => by
      refine (hD a n cc w1 hTr1).mono ?_
      rintro e w2 ⟨G3, hx3, hw3, hb3, z, rfl, hrn, hln, hbo⟩
      rw [List.length_cons, hll] at hln
      have hz : RP G3.I (.ifa 115 []) z := hrn
      cases hz
      exact ⟨(hE hx3).1, .inr ⟨rfl, by omega, G3, hbs (by omega) hx3 hw3 fun i l hi hl => hbo (i + 1) (LK + i) l (hlk i hi) (by simpa using hl)⟩⟩)
    refine hW.mono ?_
    rintro e w'' (⟨_, _, hf, _⟩ | ⟨_, _, _, hf, _⟩ | ⟨w1, w2, ⟨hln, G3, hF⟩, rfl, rfl⟩)
    · exact hf.elim
    · exact hf.elim
    · obtain ⟨k1, k2, k3⟩ := fin_ok (w'' := (w2.alloc (.cells #[] 115)).setCell ⟨w.heap.size, 0, none⟩ (.int .i64 40)) hw hge hF (by rw [set_size, alloc_size]; omega) rfl rfl rfl fun b hb h2 => (heap_set_other _ _ _ (by simpa using h2)).trans (heap_old _ _ _ hb)
      refine ⟨_, k1, k2, _, rfl, .int _ _, by rw [hwB]; simpa using hln, ?_⟩
      rw [hwB]
      exact k3
end Go.Abs
namespace Go.Abs
open Go Go.Proofs Go.RowKit
set_option maxRecDepth 10000
def parse1P : List AV → List (List CV) → Plan
  | [.c (.loc s 0), .c (.loc t 0)], [[.pv (.sl m)], [.own e c]] =>
    if s = 100000 ∧ t = 100001 then
      .call 47 [.c (.loc 100000 0)] [[.pv (.sl m)]] fun r => match r with
        | .pan (.pv p) [[.pv (.sl m2)]] => .done (.pan (.pv p) [[.pv (.sl m2)], [.top]])
        | .ret (.agg [.pv (.sl q), .pv (.str z)]) [[.pv (.sl m2)]] =>
          if (e = 47 ∨ c.isEmpty = true) ∧ lens 2 c = true ∧ c.length + 1 < appLim then .done (.ret (.tup []) [[.pv (.sl m2)], [.own 47 (c ++ [[.sl q, .str z]])]]) else .fail
        | _ => .fail
    else .fail
  | _, _ => .fail
noncomputable def K1 (good : FuncId → Bool) : Cfg := { P := Tryz.prog, pr := fun _ => none, keep := fun _ _ => ([], []), ownRet := fun _ => false, good := good, hook := fun _ _ => false }
def p1A : Oper := { dst := some 3, op := Op.load 31 (Operand.tmp 1), type := 31, pos := "sels.go:301", after := #[], guard := none }
def p1B : Oper := { dst := some 4, op := Op.move (Operand.tmp 0), type := 72, pos := "sels.go:301", after := #[], guard := none }
def p1C : Oper := { dst := some 5, op := Op.call { callee := Callee.value (Operand.func 47), args := #[Operand.tmp 4], argTypes := #[72] }, type := 47, pos := "sels.go:301", after := #[{ on := 1, ground := Ground.data }], guard := none }
def p1D : List Oper := [
  { dst := some 6, op := Op.buildSlice 31 1 #[(0, Operand.tmp 5)], type := 31, pos := "sels.go:301", after := #[{ on := 2, ground := Ground.data }], guard := none },
  { dst := some 7, op := Op.call { callee := Callee.builtin Builtin.append, args := #[Operand.tmp 3, Operand.tmp 6], argTypes := #[31, 31] }, type := 31, pos := "sels.go:301",
    after := #[{ on := 0, ground := Ground.data }, { on := 3, ground := Ground.data }, { on := 2, ground := Ground.chain }], guard := none },
  { dst := none, op := Op.store 31 (Operand.tmp 1) (Operand.tmp 7), type := 0, pos := "sels.go:301",
    after := #[{ on := 4, ground := Ground.data }, { on := 4, ground := Ground.chain }, { on := 0, ground := Ground.phase }, { on := 1, ground := Ground.phase }, { on := 2, ground := Ground.phase }, { on := 3, ground := Ground.phase }, { on := 4, ground := Ground.phase }], guard := none }]
def p1Ops : Array Oper := (p1A :: p1B :: p1C :: p1D).toArray
theorem p1_body : Tryz.f46.body = some (Code.region 0 p1Ops true) := rfl
theorem p1_ok : codeOK (fun _ => false) (Code.region 0 p1Ops true) = true := by kernel_rfl
theorem p1_apps : appArgs p1Ops.toList = [3] := rfl
section
variable {good : FuncId → Bool} {call : CallF} {G : Gh} {w : World} {S : St} {a : Act} {Q : Exit → Act → World → Prop}
structure P1S (S : St) (m : List (List PV)) : Prop where
  nt : S.nt = 8
  s0 : S.sl 0 = .c (.loc 100000 0)
  s1 : S.sl 1 = .c (.loc 100001 0)
  b0 : S.bx 100000 = some [.pv (.sl m)]
  bn : ∀ s, s < LK → S.bx s = none
theorem p1_stepA {m : List (List PV)} {e : TypeId} {c : List (List PV)} (h : P1S S m) (hb : S.bx 100001 = some [.own e c]) : ∃ S', stepOp (K1 good) call p1Ops.toList p1A S = some (.norm, S') ∧ P1S S' m ∧ S'.sl 4 = S.sl 4 ∧ ∃ v, S'.bx 100001 = some [v] := by
  have hsh : shapeT Tryz.prog 31 = some none := by kernel_rfl
  have hP : (K1 good).P = Tryz.prog := rfl
  refine ⟨{ sl := upd S.sl 3 (.c (.own e c)), bx := upd S.bx 100001 (some [(CV.own e c).deg]), nt := S.nt }, by
    unfold stepOp
    simp only [guardA, p1A, p1_apps, absOp, opd, h.s1, absLoad, hP, hsh, hb, inApps, List.getElem?_cons_zero, isOwn, AV.isIter]
    simp [St.degAt, St.put, h.nt, setBoxes, setAt, CV.plain], ⟨h.nt, h.s0, h.s1, h.b0, fun s hs => ?_⟩, rfl, _, rfl⟩
  have : s ≠ 100001 := by unfold LK at hs; omega
  simp [upd, this, h.bn s hs]
theorem p1_stepB {m : List (List PV)} (h : P1S S m) : ∃ S', stepOp (K1 good) call p1Ops.toList p1B S = some (.norm, S') ∧ P1S S' m ∧ S'.sl 4 = .c (.loc 100000 0) ∧ S'.bx 100001 = S.bx 100001 := by
  refine ⟨{ sl := upd S.sl 4 (.c (.loc 100000 0)), bx := S.bx, nt := S.nt }, by
    unfold stepOp
    simp only [guardA, p1B, p1_apps, absOp, opd, h.s0, takeOver, AV.isIter, steal, isOwn, inApps]
    simp [St.degAt, St.put, h.nt, setBoxes, AV.deg, CV.deg], ⟨h.nt, h.s0, h.s1, h.b0, h.bn⟩, rfl, rfl⟩
theorem p1_stepC {m m2 : List (List PV)} {p : PV} (hg : good 47 = true) (h : P1S S m) (h4 : S.sl 4 = .c (.loc 100000 0))
    (hc : call 47 [.c (.loc 100000 0)] [[.pv (.sl m)]] = some (.pan (.pv p) [[.pv (.sl m2)]])) :
    ∃ S', stepOp (K1 good) call p1Ops.toList p1C S = some (.pan (.pv p), S') ∧ P1S S' m2 ∧ S'.bx 100001 = S.bx 100001 := by
  have hG : (K1 good).good = good := rfl
  have hO : ∀ f, (K1 good).ownRet f = false := fun _ => rfl
  refine ⟨{ sl := S.sl, bx := upd S.bx 100000 (some [.pv (.sl m2)]), nt := S.nt }, by
    unfold stepOp
    simp only [guardA, p1C, p1_apps, absOp, opd, h4, absCall, doCall, hG, hO, hg, if_true, List.map_cons, List.map_nil, List.toList_toArray, List.append_nil, List.all_cons, List.all_nil, AV.flat, CV.flat, Bool.false_and, Bool.and_true, List.isEmpty_nil, List.flatMap_cons, List.flatMap_nil, AV.ptrs, CV.ptrs, dedup, List.contains_nil, getBoxes, h.b0, AV.deg, CV.deg, AV.ren, CV.ren, lend, idx, Option.map_some, LK, Nat.add_zero, Bool.false_eq_true, if_false, hc, isOwn, List.any_cons, List.any_nil, Bool.or_false]
    simp [back, LK, zipBox, CV.ren, setBoxes], ⟨h.nt, h.s0, h.s1, rfl, fun s hs => ?_⟩, rfl⟩
  have : s ≠ 100000 := by unfold LK at hs; omega
  simp [upd, this, h.bn s hs]
def p1Fin (m2 : List (List PV)) : St := { sl := fun _ => .c .top, bx := fun k => if k = 100000 then some [.pv (.sl m2)] else if k = 100001 then some [.top] else none, nt := 8 }
theorem p1_fin {m2 : List (List PV)} {v : CV} (h : P1S S m2) (hb : S.bx 100001 = some [v]) (hf : FR G w S a) : FR G w (p1Fin m2) a := by
  refine ⟨by rw [hf.size, h.nt]; rfl, fun t => trivial, fun s l hl => ?_, fun s hs hlk => hf.nob s (h.bn s hlk) hlk⟩
  have hl : (if s = 100000 then some [CV.pv (.sl m2)] else if s = 100001 then some [CV.top] else none) = some l := hl
  split at hl
  · rename_i e
    cases hl
    exact hf.box s _ (by rw [e]; exact h.b0)
  split at hl
  · rename_i e
    cases hl
    obtain ⟨b, cs, ty, h1, h2, ⟨h3, _⟩, h4⟩ := hf.box s _ (by rw [e]; exact hb)
    refine ⟨b, cs, ty, h1, h2, ⟨h3, ?_⟩, fun k v' hv => ?_⟩
    · first | trivial | exact fun h => by simp at h | simp [Bld]
    · cases k with
      | zero =>
        cases hv
        obtain ⟨x, h5, h6⟩ := h4 0 v rfl
        exact ⟨x, h5, h6.one⟩
      | succ k => simp at hv
  · cases hl
theorem p1_pan (hs : Sound (K1 good) call) (hm : Tryz.prog.follows .mixedOrders = true) {m m2 : List (List PV)} {p : PV} {e : TypeId} {c : List (List PV)} (hg : good 47 = true)
    (hc : call 47 [.c (.loc 100000 0)] [[.pv (.sl m)]] = some (.pan (.pv p) [[.pv (.sl m2)]]))
    (h : P1S S m) (hb : S.bx 100001 = some [.own e c]) (hf : FR G w S a) (hw : WI G w) (hp : Post G w a.defers (.pan (.pv p), p1Fin m2) Q) : (Code.region 0 p1Ops true).wp Tryz.prog Q a w := by
  refine wp_region_any hm ?_
  obtain ⟨gd, hwd⟩ := drew_gr hw
  have hfd := hf.gr0 hw gd rfl
  have hpd : Post G w.drew a.defers (.pan (.pv p), p1Fin m2) Q := fun a2 w2 G2 h1 h2 h3 h4 => hp a2 w2 G2 (gd.ext.trans h1) h2 h3 h4
  have atC : ∀ {S1 : St} {G1 : Gh} {w1 : World} {a1 : Act} (N : Act → World → Prop), P1S S1 m → S1.sl 4 = .c (.loc 100000 0) → (∃ v, S1.bx 100001 = some [v]) → FR G1 w1 S1 a1 → WI G1 w1 → Post G1 w1 a1.defers (.pan (.pv p), p1Fin m2) Q → wpOp Tryz.prog p1Ops Q 2 N a1 w1 := by
    intro S1 G1 w1 a1 N k1 k2 k3 k4 k5 k6
    obtain ⟨S2, e1, e2, e3⟩ := p1_stepC (call := call) hg k1 k2 hc
    obtain ⟨v, k3⟩ := k3
    exact step_ok (K := K1 good) (ops := p1Ops.toList) (o := p1C) (r := (.pan (.pv p), S2)) hs e1 k4 k5 rfl N fun a2 w2 G2 j1 j2 j3 j4 => k6 a2 w2 G2 j1 j2 (p1_fin e2 (by rw [e3]; exact k3) j3) j4
  have r0 : Region.ready .any p1Ops (Array.replicate 6 false) = [0, 1] := by kernel_rfl
  have r1 : Region.ready .any p1Ops ((Array.replicate 6 false).setIfInBounds 0 true) = [1] := by kernel_rfl
  have r2 : Region.ready .any p1Ops ((Array.replicate 6 false).setIfInBounds 1 true) = [0, 2] := by kernel_rfl
  have r3 : Region.ready .any p1Ops (((Array.replicate 6 false).setIfInBounds 0 true).setIfInBounds 1 true) = [2] := by kernel_rfl
  have r4 : Region.ready .any p1Ops (((Array.replicate 6 false).setIfInBounds 1 true).setIfInBounds 0 true) = [2] := by kernel_rfl
  show wpAny Tryz.prog .any p1Ops Q 6 (Array.replicate 6 false) a w.drew
  refine ⟨fun h0 => (by rw [r0] at h0; cases h0), fun i hi => ?_⟩
  rw [r0] at hi
  simp only [List.mem_cons, List.not_mem_nil, or_false] at hi
  rcases hi with rfl | rfl
  · obtain ⟨S1, e1, e2, e3, e4⟩ := p1_stepA (good := good) (call := call) h hb
    refine step_ok (K := K1 good) (ops := p1Ops.toList) (r := (.norm, S1)) hs e1 hfd hwd rfl _ fun a1 w1 G1 j1 j2 j3 j4 => ?_
    refine ⟨fun h0 => (by rw [r1] at h0; cases h0), fun i hi => ?_⟩
    rw [r1] at hi
    obtain rfl := List.mem_singleton.1 hi
    obtain ⟨S2, f1, f2, f3, f4⟩ := p1_stepB (good := good) (call := call) e2
    refine step_ok (K := K1 good) (ops := p1Ops.toList) (r := (.norm, S2)) hs f1 j3 j2 rfl _ fun a2 w2 G2 l1 l2 l3 l4 => ?_
    refine ⟨fun h0 => (by rw [r3] at h0; cases h0), fun i hi => ?_⟩
    rw [r3] at hi
    obtain rfl := List.mem_singleton.1 hi
    exact atC _ f2 f3 (by rw [f4]; exact e4) l3 l2 (by rw [l4, j4]; exact hpd.ext (j1.trans l1))
  · obtain ⟨S1, e1, e2, e3, e4⟩ := p1_stepB (good := good) (call := call) h
    refine step_ok (K := K1 good) (ops := p1Ops.toList) (r := (.norm, S1)) hs e1 hfd hwd rfl _ fun a1 w1 G1 j1 j2 j3 j4 => ?_
    refine ⟨fun h0 => (by rw [r2] at h0; cases h0), fun i hi => ?_⟩
    rw [r2] at hi
    simp only [List.mem_cons, List.not_mem_nil, or_false] at hi
    rcases hi with rfl | rfl
    · obtain ⟨S2, f1, f2, f3, f4⟩ := p1_stepA (good := good) (call := call) e2 (by rw [e4]; exact hb)
      refine step_ok (K := K1 good) (ops := p1Ops.toList) (r := (.norm, S2)) hs f1 j3 j2 rfl _ fun a2 w2 G2 l1 l2 l3 l4 => ?_
      refine ⟨fun h0 => (by rw [r4] at h0; cases h0), fun i hi => ?_⟩
      rw [r4] at hi
      obtain rfl := List.mem_singleton.1 hi
      exact atC _ f2 (by rw [f3]; exact e3) f4 l3 l2 (by rw [l4, j4]; exact hpd.ext (j1.trans l1))
    · exact atC _ e2 e3 ⟨_, by rw [e4]; exact hb⟩ j3 j2 (by rw [j4]; exact hpd.ext j1)
end
namespace P1
attribute [local go_sem] exL_seq exL_cond exL_block exL_scope exL_ret exL_skip exL_exit runRegion runOps stepOp guardA absOp takeOver opd avOf cvOf St.degAt St.put okPV okVal okAV absBin intBin strBin boolBin setBoxes if_true Bool.false_eq_true if_false Option.map_some Option.map_none Option.bind_some Option.bind_none thenO outOf upd List.toList_toArray isOwn steal appArgs mvB fullAt absFull inApps AV.deg CV.deg AV.gv AV.isIter absNext some_bne some_beqN List.length_nil List.length_cons List.filterMap_cons List.filterMap_nil beq_iff_eq List.getElem?_cons_zero List.getElem?_cons_succ Option.getD_some Bool.false_and Bool.and_false Bool.and_self absCall doCall getBoxes lend back idx dedup AV.ren CV.ren TV.ren AV.ptrs CV.ptrs zipBox AV.flat CV.flat absLoad absStore cellsOfAV setAt newBox markB bldTypes absFieldAddr absField absExtract absAssert noAssert absMkIface ifcOf CV.pv? content pushHead ownT fillCells reps pvs chunks enterSt leave resOf resVars resVar outBoxes lentOnly TV.deg TV.av LK CV.plain CV.noBld nilBin absUn bound List.map_cons List.map_nil List.all_cons List.all_nil List.any_cons List.any_nil List.contains_cons List.contains_nil List.elem_cons List.elem_nil List.cons_append List.nil_append List.append_nil List.flatMap_cons List.flatMap_nil List.zip_cons_cons List.zip_nil_left List.zip_nil_right List.take_succ_cons List.take_zero List.take_nil List.drop_succ_cons List.drop_zero List.drop_nil List.isEmpty_nil List.isEmpty_cons Bool.and_true Bool.true_and Bool.or_true Bool.true_or Bool.or_false Bool.false_or Bool.not_true Bool.not_false Nat.add_zero Nat.zero_add Option.isNone_none Option.isNone_some Option.getD_none true_and and_true not_true_eq_false not_false_eq_true decide_true decide_false Nat.le_refl and_self Bool.not_eq_true Nat.sub_self or_true true_or Option.some.injEq List.length_map List.nil_eq and_false false_and AV.live CV.live CV.liveIn firstReg Option.orElse_some Option.orElse_none head keepSlots keepBoxes Int.lt_irrefl List.length_append ite_self memOK logOps opKey lentBoxes Key.clash Key.sees Key.writes Nat.lt_irrefl gt_iff_lt nobox_at bot_at false_or or_false beq_self_eq_true Bool.true_beq Bool.false_beq
theorem ty_shapeT_31 : shapeT Tryz.prog 31 = Option.some Option.none := by kernel_rfl
theorem ty_descOf_31 : descOf Tryz.prog 31 = Option.some (Go.Abs.Desc.sl 47 Bool.false) := by kernel_rfl
theorem ty_szOf_47 : szOf Tryz.prog 47 = Option.some 2 := by kernel_rfl
theorem ty_zeroCells_47 : zeroCells Tryz.prog 47 = Option.some [Go.Abs.CV.nils, Go.Abs.CV.pv (Go.Abs.PV.str [])] := by kernel_rfl
theorem ty_appInfo_31 : appInfo Tryz.prog 31 = Option.some (47, 2) := by kernel_rfl
theorem ty_szOf_31 : szOf Tryz.prog 31 = Option.some 1 := by kernel_rfl
theorem lens_one2 (a b : PV) : lens 2 [[a, b]] = true := rfl
set_option maxHeartbeats 4000000 in
theorem ret_run {good : FuncId → Bool} {call : CallF} (hg : good 47 = true) {m m2 q c : List (List PV)} {z : List UInt8} {e : TypeId}
    (hc : call 47 [.c (.loc 100000 0)] [[.pv (.sl m)]] = some (.ret (.agg [.pv (.sl q), .pv (.str z)]) [[.pv (.sl m2)]]))
    (he : e = 47 ∨ c.isEmpty = true) (hl : lens 2 c = true) (hlen : c.length + 1 < appLim) :
    leave (K1 good) 46 Tryz.f46 2 (execN (K1 good) call 0 46 (.region 0 p1Ops true) (enterSt 8 [.c (.loc 100000 0), .c (.loc 100001 0)] [[.pv (.sl m)], [.own e c]])) = some (.ret (.tup []) [[.pv (.sl m2)], [.own 47 (c ++ [[.sl q, .str z]])]]) := by
  have hP : (K1 good).P = Tryz.prog := rfl
  have hG : (K1 good).good = good := rfl
  have hO : ∀ f, (K1 good).ownRet f = false := fun _ => rfl
  have hh : ∀ f i, (K1 good).hook f i = false := fun _ _ => rfl
  have hr : Tryz.f46.results = #[] := rfl
  simp only [execN, p1Ops, p1A, p1B, p1C, p1D, hh, hP, hG, hO, go_sem, Nat.reduceLT, reduceIte, reduceCtorEq, Nat.reduceEqDiff, apply_ite (Option.map (outOf _)), Nat.reduceBEq, Nat.reduceAdd, Nat.reduceSub, Nat.reduceLeDiff, Nat.reduceMul, ty_shapeT_31, ev_buildSlice (len := 1) ty_descOf_31 ty_szOf_47 ty_zeroCells_47 ⟨rfl, by decide, by decide⟩, ev_append ty_appInfo_31, ev_appNew_sl ty_descOf_31, ty_szOf_31, hr, hg, hc, he, hl, hlen, lens_one2]
  rw [reach_if (by kernel_rfl)]
  simp only [go_sem, Nat.reduceLT, reduceIte, reduceCtorEq, Nat.reduceEqDiff, apply_ite (Option.map (outOf _)), Nat.reduceBEq, Nat.reduceAdd, Nat.reduceSub, Nat.reduceLeDiff, Nat.reduceMul, ty_shapeT_31, ev_buildSlice (len := 1) ty_descOf_31 ty_szOf_47 ty_zeroCells_47 ⟨rfl, by decide, by decide⟩, ev_append ty_appInfo_31, ev_appNew_sl ty_descOf_31, ty_szOf_31, hr, hP]
end P1
open Classical in
/-- how the closure's text ends where what it calls goes up -/
noncomputable def p1Ex (m m2 : List (List PV)) (p : PV) (e : TypeId) (c : List (List PV)) : Code → St → Option (Out × St) := fun _ S => if P1S S m ∧ S.bx 100001 = some [.own e c] then some (.pan (.pv p), p1Fin m2) else none
theorem parse1_ok {good : FuncId → Bool} (hgd : ∀ g, good g = true → ∃ fn, Tryz.prog.funcs[g]? = some fn ∧ fn.name ≠ "runtime.NumGoroutine" ∧ fn.body.isSome = true) (hg : good 47 = true) {call : CallF}
    (hc : ∀ g args bxs r, good g = true → call g args bxs = some r → Contract Tryz.prog g args bxs r) {args : List AV} {bxs : List (List CV)} {r : Res} (h : (parse1P args bxs).run call = some r) :
    Contract Tryz.prog 46 args bxs r := by
  have hs : Sound (K1 good) call := ⟨hgd, hc⟩
  have hm : Tryz.prog.follows .mixedOrders = true := by kernel_rfl
  unfold parse1P at h
  split at h
  case h_2 => cases h
  rename_i s t m e c
  split at h
  case isFalse => cases h
  rename_i hst
  obtain ⟨rfl, rfl⟩ := hst
  simp only [Plan.run] at h
  split at h
  case h_2 => cases h
  rename_i r1 hr1
  split at h
  · rename_i p m2
    simp only [Plan.run, Option.some.injEq] at h
    subst h
    have hP : P1S (enterSt 8 [.c (.loc 100000 0), .c (.loc 100001 0)] [[.pv (.sl m)], [.own e c]]) m ∧ (enterSt 8 [.c (.loc 100000 0), .c (.loc 100001 0)] [[.pv (.sl m)], [.own e c]]).bx 100001 = some [.own e c] :=
      ⟨⟨rfl, rfl, rfl, rfl, fun s hs => by show (if LK ≤ s then _ else none) = none; rw [if_neg (by omega)]⟩, rfl⟩
    have hx : enter (K1 good) (p1Ex m m2 p e c) 46 [.c (.loc 100000 0), .c (.loc 100001 0)] [[.pv (.sl m)], [.own e c]] = some (.pan (.pv p) [[.pv (.sl m2)], [.top]]) := by
      unfold enter
      have hf : (K1 good).P.funcs[46]? = some Tryz.f46 := Tryz.func46
      have hn : Tryz.f46.ntmps = 8 := rfl
      rw [hf]
      simp only [p1_body, hn]
      rw [if_pos ⟨by simp, by simp [LK]⟩]
      unfold p1Ex
      rw [if_pos hP]
      rfl
    exact enter_ok (K := K1 good) hx fun fn b hfn hb {Q S G w a r} hr hf hw hp => by
      have hfn : Tryz.prog.funcs[46]? = some fn := hfn
      rw [Tryz.func46] at hfn
      cases hfn
      rw [p1_body] at hb
      cases hb
      unfold p1Ex at hr
      split at hr
      case isFalse => cases hr
      rename_i hPS
      cases hr
      exact p1_pan hs hm hg hr1 hPS.1 hPS.2 hf hw hp
  · rename_i q z m2
    split at h
    case isFalse => cases h
    rename_i hE
    simp only [Plan.run, Option.some.injEq] at h
    subst h
    obtain ⟨he, hl, hlen⟩ := hE
    have hx : enter (K1 good) (execN (K1 good) call 0 46) 46 [.c (.loc 100000 0), .c (.loc 100001 0)] [[.pv (.sl m)], [.own e c]] = some (.ret (.tup []) [[.pv (.sl m2)], [.own 47 (c ++ [[.sl q, .str z]])]]) := by
      unfold enter
      have hf : (K1 good).P.funcs[46]? = some Tryz.f46 := Tryz.func46
      have hn : Tryz.f46.ntmps = 8 := rfl
      rw [hf]
      simp only [p1_body, hn]
      rw [if_pos ⟨by simp, by simp [LK]⟩]
      exact P1.ret_run hg hr1 he hl hlen
    exact enter_ok (K := K1 good) hx fun fn b hfn hb {Q S G w a r} hr hf hw hp => by
      have hfn : Tryz.prog.funcs[46]? = some fn := hfn
      rw [Tryz.func46] at hfn
      cases hfn
      rw [p1_body] at hb
      cases hb
      exact code_ok hs hm 0 _ _ hr p1_ok hf hw hp
  · cases h
end Go.Abs
namespace Go.Abs
open Go Go.Proofs
def keepL : List (Nat × Nat × List Nat × List Nat) := [
  (15, 3, [0, 1, 5, 6], []),
  (15, 7, [0, 1, 5, 6, 7], []),
  (31, 3, [1, 3, 7, 8, 9], [1, 3]),
  (29, 3, [3, 6, 7, 8], []),
  (22, 4, [0, 1, 5], []),
  (22, 9, [0, 1, 5, 6], []),
  (99, 2, [3], [6]),
  (33, 3, [0, 3, 4], []),
  (58, 3, [0, 3, 4], []),
  (43, 2, [0, 1, 2, 7], []),
  (35, 1, [0, 8, 9, 10], [100000]),
  (63, 1, [0, 6, 7, 8], [100000]),
  (60, 12, [0, 1, 5, 39, 40, 41], []),
  (60, 22, [1, 8, 63, 64, 65], [8]),
  (18, 4, [4, 5, 6], []),
  (52, 4, [0, 1, 5], []),
  (65, 5, [0, 4, 6], [4]),
  (231, 5, [5, 15, 16, 17], []),
  (34, 2, [0, 3, 4], []),
  (34, 4, [0, 3, 4], []),
  (26, 4, [0, 1, 5, 6, 7], []),
  (48, 4, [2, 4, 5, 6], [2, 5, 10]),
  (48, 6, [2, 4, 5, 7], [2, 5, 7, 10]),
  (182, 2, [0, 1, 2, 7], [100000]),
  (186, 6, [0, 2, 3, 4, 29], [100000]),
  (115, 2, [0, 5], []),
  (117, 2, [0, 1, 5], []),
  (118, 1, [0, 1], []),
  (120, 4, [0, 1, 4, 6, 7], [4]),
  (64, 2, [0, 2, 3, 8, 9], [8, 9]),
  (142, 3, [3, 4], []),
  (145, 3, [0, 2, 4, 5], [2, 9]),
  (146, 2, [0, 3], [100000]),
  (214, 15, [0, 1, 5, 6, 7, 8, 9, 10], []),
  (230, 12, [0, 6, 8], [6]),
  (230, 18, [1, 45], []),
  (196, 1, [0, 1, 4], []),
  (197, 11, [0, 1, 3, 4, 10, 11, 12, 13, 14, 15, 16], [12]),
  (197, 18, [0, 1, 3, 4, 10, 11, 12, 13, 17], [12]),
  (232, 5, [0, 1, 5, 6, 7, 8, 9], []),
  (232, 11, [0, 1, 5, 6, 7, 8, 10], []),
  (199, 5, [0, 7, 8, 9], []),
  (199, 12, [0, 7, 8, 9, 12], []),
  (199, 25, [0, 7, 8, 9, 14, 15], []),
  (199, 29, [0, 7, 8, 9, 14, 15, 16], []),
  (199, 38, [175], []),
  (128, 2, [0, 2, 4], [2]),
  (236, 3, [0, 4, 5], []),
  (236, 8, [4, 6, 7, 8], []),
  (101, 5, [0, 3, 4], []),
  (59, 3, [0, 3, 4], []),
  (42, 4, [0, 1, 2, 7], []),
  (148, 2, [0, 1, 2, 7], [100000, 100001]),
  (70, 1, [0], []),
  (70, 3, [0], []),
  (25, 3, [0, 1, 5, 6], []),
  (137, 2, [0, 1, 7, 8], [100000]),
  (5, 18, [9, 11, 13, 14, 15, 16], []),
  (8, 11, [1, 5, 7, 8, 9, 10], [9]),
  (17, 3, [4, 9, 10, 11], [4]),
  (24, 2, [0, 3], []),
  (24, 7, [0, 3, 4, 5, 6], [4]),
  (47, 3, [0, 2, 3, 4], [2, 3, 100000]),
  (55, 3, [1, 3, 11, 12, 13], [1]),
  (56, 2, [0, 3], []),
  (81, 4, [1, 2, 15, 16, 17], [100000]),
  (83, 4, [1, 2, 15, 16, 17], [100000]),
  (85, 4, [1, 2, 15, 16, 17], [100000]),
  (91, 2, [0, 4], [100000]),
  (104, 2, [0, 1, 7, 8], [100000]),
  (105, 2, [0, 1, 7, 8, 9], []),
  (141, 2, [0, 3], [100000]),
  (151, 2, [0, 1, 7, 8], []),
  (170, 3, [3, 8, 9, 10], []),
  (1000000, 0, [], [])]
def keepF (f r : Nat) : List Nat × List Nat := match keepL.find? (fun x => x.1 == f && x.2.1 == r) with | some x => x.2.2 | none => ([], [])
def prL : List (Nat × Prim) := [
  (177, pHasPrefix),
  (179, pIndexByte),
  (193, pIndex),
  (230, pIndexAny),
  (68, pItoa),
  (170, pSmallS),
  (98, pParse),
  (124, pClone),
  (45, pAt),
  (206, pWords),
  (79, pTrim),
  (80, pAtoi),
  (205, pConcat),
  (1000000, fun _ _ => none)]
def prF (f : Nat) : Option Prim := (prL.find? (fun x => x.1 == f)).map (·.2)
def hookB (f i : Nat) : Bool := f == 145 && i == 6
def ownB (f : Nat) : Bool :=
  f == 227 ||
  f == 1000000
def goodB (P : Program) (f : Nat) : Bool :=
  match P.funcs[f]? with
  | some fn => fn.name != "runtime.NumGoroutine" && (match fn.body with | some c => codeOK (hookB f) c | none => false)
  | none => false
def goods : List Nat := [3, 4, 5, 6, 7, 8, 9, 10, 11, 12, 13, 14, 15, 16, 17, 18, 19, 20, 21, 22, 23, 24, 25, 26, 27, 28, 29, 30, 31, 32, 33, 34, 35, 36, 37, 38, 39, 40, 41, 42, 43, 44, 45, 46, 47, 48, 49, 50, 51, 52, 53, 54, 55, 56, 57, 58, 59, 60, 61, 62, 63, 64, 65, 66, 67, 68, 69, 70, 71, 72, 73, 74, 75, 76, 77, 78, 79, 80, 81, 82, 83, 84, 85, 86, 87, 88, 89, 90, 91, 92, 93, 94, 95, 96, 97, 98, 99, 100, 101, 102, 103, 104, 105, 106, 107, 108, 109, 110, 111, 112, 113, 114, 115, 116, 117, 118, 119, 120, 121, 122, 123, 124, 125, 126, 127, 128, 129, 130, 131, 132, 133, 134, 135, 136, 137, 138, 139, 140, 141, 142, 143, 144, 145, 146, 147, 148, 149, 150, 151, 152, 153, 154, 155, 156, 157, 159, 160, 161, 162, 163, 164, 165, 166, 167, 168, 169, 170, 171, 172, 173, 174, 175, 176, 177, 178, 179, 180, 181, 182, 183, 184, 185, 186, 187, 188, 189, 190, 191, 193, 194, 195, 196, 197, 198, 199, 200, 201, 202, 203, 204, 205, 206, 207, 208, 209, 210, 211, 212, 213, 214, 215, 216, 217, 218, 219, 220, 221, 223, 224, 225, 226, 227, 228, 230, 231, 232, 233, 234, 235, 236, 266]
theorem goods_ok : goods.all (goodB Tryz.prog) = true := by kernel_rfl
theorem good_has {g : Nat} (hg : goods.contains g = true) : ∃ fn, Tryz.prog.funcs[g]? = some fn ∧ fn.name ≠ "runtime.NumGoroutine" ∧ fn.body.isSome = true := by
  have h1 : g ∈ goods := by simpa using hg
  have h2 := List.all_eq_true.1 goods_ok g h1
  unfold goodB at h2
  split at h2
  · rename_i fn hfn
    simp only [Bool.and_eq_true] at h2
    obtain ⟨h3, h4⟩ := h2
    split at h4
    · rename_i c hc
      exact ⟨fn, hfn, by simpa using h3, by rw [hc]; rfl⟩
    · cases h4
  · cases h2
def hpL : List (Nat × (List AV → List (List CV) → Plan)) := [
  (37, wholeP goods.contains),
  (46, parse1P),
  (1000000, fun _ _ => .fail)]
def hpF (f : Nat) : Option (List AV → List (List CV) → Plan) := (hpL.find? (fun x => x.1 == f)).map (·.2)
noncomputable def K : Cfg := { P := Tryz.prog, pr := prF, keep := keepF, ownRet := ownB, good := goods.contains, hook := hookB, hp := hpF }
theorem K_prog : Prog K := by
  refine ⟨by kernel_rfl, fun g hg => ?_, fun f F args bxs x _ hF hx => ?_, fun f F args bxs r call _ hF hc hr => ?_⟩
  · have h1 : g ∈ goods := by simpa [K] using hg
    have h2 := List.all_eq_true.1 goods_ok g h1
    unfold goodB at h2
    split at h2
    · rename_i fn hfn
      simp only [Bool.and_eq_true] at h2
      obtain ⟨h3, h4⟩ := h2
      split at h4
      · rename_i c hc
        exact ⟨fn, c, hfn, by simpa using h3, hc, h4⟩
      · cases h4
    · cases h2
  · have h1 : ∀ y ∈ prL, ∀ args bxs x, y.2 args bxs = some x → Contract Tryz.prog y.1 args bxs (.ret x.1 x.2) := by
      intro y hy
      simp only [prL, List.mem_cons, List.not_mem_nil, or_false] at hy
      repeat' (first | (rcases hy with rfl | hy) | (cases hy))
      all_goals first
        | exact fun _ _ _ h => pHasPrefix_ok h
        | exact fun _ _ _ h => pIndexByte_ok h
        | exact fun _ _ _ h => pIndex_ok h
        | exact fun _ _ _ h => pIndexAny_ok h
        | exact fun _ _ _ h => pItoa_ok h
        | exact fun _ _ _ h => pSmall_ok h
        | exact fun _ _ _ h => pSmallS_ok h
        | exact fun _ _ _ h => pParse_ok h
        | exact fun _ _ _ h => pClone_ok h
        | exact fun _ _ _ h => pAt_ok h
        | exact fun _ _ _ h => pWords_ok h
        | exact fun _ _ _ h => pTrim_ok h
        | exact fun _ _ _ h => pAtoi_ok h
        | exact fun _ _ _ h => pConcat_ok h
        | exact fun _ _ _ h => by cases h
    have h2 : prF f = some F := hF
    unfold prF at h2
    rw [Option.map_eq_some_iff] at h2
    obtain ⟨y, hy, rfl⟩ := h2
    have h3 := List.mem_of_find?_eq_some hy
    have h4 : y.1 = f := by simpa using List.find?_some hy
    rw [← h4]
    exact h1 y h3 args bxs x hx
  · have h1 : ∀ y ∈ hpL, ∀ args bxs r, (y.2 args bxs).run call = some r → Contract Tryz.prog y.1 args bxs r := by
      intro y hy
      simp only [hpL, List.mem_cons, List.not_mem_nil, or_false] at hy
      repeat' (first | (rcases hy with rfl | hy) | (cases hy))
      all_goals first
        | exact fun _ _ _ h => whole_ok (fun _ => good_has) (by kernel_rfl) hc h
        | exact fun _ _ _ h => parse1_ok (fun _ => good_has) (by kernel_rfl) hc h
        | exact fun _ _ _ h => by cases h
    have h2 : hpF f = some F := hF
    unfold hpF at h2
    rw [Option.map_eq_some_iff] at h2
    obtain ⟨y, hy, rfl⟩ := h2
    have h3 := List.mem_of_find?_eq_some hy
    have h4 : y.1 = f := by simpa using List.find?_some hy
    rw [← h4]
    exact h1 y h3 args bxs r hr
end Go.Abs
namespace Go.Abs.Tk
open Go
theorem begins_zero : begins 0 = false := by decide
theorem within_zero : within 0 = false := by decide
theorem digit_zero : digit 0 = false := by decide
theorem begins_within {c : UInt8} (h : begins c = true) : within c = true := by simp [within, h]
theorem begins_digit {c : UInt8} (h : begins c = true) : digit c = false := by
  simp only [begins, digit, decide_eq_true_eq, decide_eq_false_iff_not] at *; omega
theorem digit_ne {c d : UInt8} (h : digit c = true) (hd : digit d = false) : c ≠ d := fun e => by rw [e, hd] at h; cases h
theorem within_ne {c d : UInt8} (h : within c = true) (hd : within d = false) : c ≠ d := fun e => by rw [e, hd] at h; cases h
theorem blank_cases {c : UInt8} (h : blank c = true) : c = 32 ∨ c = 10 ∨ c = 9 ∨ c = 12 ∨ c = 13 := by simpa [blank, or_assoc] using h
theorem within_blank {c : UInt8} (h : within c = true) : blank c = false := by
  cases hb : blank c
  · rfl
  · rcases blank_cases hb with rfl | rfl | rfl | rfl | rfl <;> revert h <;> decide
theorem digit_within {c : UInt8} (h : digit c = true) : within c = true := by simp [within, h]
theorem digit_blank {c : UInt8} (h : digit c = true) : blank c = false := within_blank (digit_within h)
section run
variable {p : UInt8 → Bool}
theorem run_nil : run p [] = 0 := rfl
theorem run_le : ∀ l : List UInt8, run p l ≤ l.length
  | [] => Nat.le_refl _
  | c :: r => by
    rw [run]; have := run_le r
    split <;> simp <;> omega
theorem run_pos {c : UInt8} {r : List UInt8} (h : p c = true) : 0 < run p (c :: r) := by rw [run, if_pos h]; omega
theorem run_take : ∀ l : List UInt8, ∀ b ∈ l.take (run p l), p b = true
  | [], b, h => by simp at h
  | c :: r, b, h => by
    rw [run] at h
    split at h
    · rename_i hc
      rw [List.take_succ_cons] at h
      rcases List.mem_cons.1 h with rfl | h
      · exact hc
      · exact run_take r b h
    · simp at h
theorem run_stop (h0 : p 0 = false) : ∀ l : List UInt8, p (at0 (l.drop (run p l))) = false
  | [] => h0
  | c :: r => by
    rw [run]
    split
    · rw [List.drop_succ_cons]; exact run_stop h0 r
    · rename_i hc
      simpa [at0] using hc
theorem run_app : ∀ {a y : List UInt8}, (∀ b ∈ a, p b = true) → run p (a ++ y) = a.length + run p y
  | [], y, _ => by simp
  | c :: a, y, h => by
    rw [List.cons_append, run, if_pos (h c (by simp)), run_app fun b hb => h b (by simp [hb])]
    simp; omega
theorem run_zero : ∀ {y : List UInt8}, p (at0 y) = false → run p y = 0
  | [], _ => rfl
  | c :: r, h => by
    rw [run, if_neg]; simpa [at0] using h
theorem run_word {a y : List UInt8} (h : ∀ b ∈ a, p b = true) (hy : p (at0 y) = false) : run p (a ++ y) = a.length := by rw [run_app h, run_zero hy]; rfl
theorem run_pos_iff {y : List UInt8} (h0 : p 0 = false) : 0 < run p y ↔ p (at0 y) = true := by
  cases y with
  | nil => simp [run, at0, h0]
  | cons c r =>
    rw [run, at0]
    cases p c <;> simp
end run
theorem at0_app {a y : List UInt8} (h : a ≠ []) : at0 (a ++ y) = at0 a := by
  cases a with
  | nil => exact absurd rfl h
  | cons c r => rfl
def isName (x : List UInt8) : Prop := nameB x = true ∧ ∀ b ∈ x, within b = true
theorem nameB_nil : nameB [] = false := by decide
theorem isName_ne {x : List UInt8} (h : isName x) : x ≠ [] := fun e => by have := h.1; rw [e, nameB_nil] at this; cases this
theorem isName_len {x : List UInt8} (h : isName x) : 0 < x.length := List.length_pos_iff.2 (isName_ne h)
theorem nameB_app {x y : List UInt8} (h : nameB x = true) : nameB (x ++ y) = true := by
  match x, h with
  | [], h => rw [nameB_nil] at h; cases h
  | [c], h =>
    have hc : begins c = true := by
      simp only [nameB, at0, List.tail_cons, begins_zero, Bool.false_or, Bool.or_eq_true, Bool.and_eq_true, beq_iff_eq] at h
      rcases h with h | ⟨_, h⟩
      · exact h
      · exact absurd h (by decide)
    simp [nameB, at0, hc]
  | c :: d :: r, h => exact h
theorem nameB_within {x : List UInt8} (h : nameB x = true) : within (at0 x) = true := by
  simp only [nameB, Bool.or_eq_true, Bool.and_eq_true, beq_iff_eq] at h
  rcases h with h | ⟨h, _⟩
  · exact begins_within h
  · rw [h]; decide
theorem name_app {x y : List UInt8} (h : isName x) (hy : within (at0 y) = false) : name (x ++ y) = x.length := by
  rw [name, if_pos (nameB_app h.1), run_word h.2 hy]
theorem name_zero {y : List UInt8} (h : nameB y = false) : name y = 0 := by rw [name, h]; rfl
theorem name_pos {l : List UInt8} (h : 0 < name l) : nameB l = true := by
  rw [name] at h; split at h
  · assumption
  · omega
theorem name_pos_iff {l : List UInt8} : 0 < name l ↔ nameB l = true := by
  refine ⟨name_pos, fun h => ?_⟩
  rw [name, if_pos h]
  exact (run_pos_iff within_zero).2 (nameB_within h)
theorem name_le (l : List UInt8) : name l ≤ l.length := by
  rw [name]; split
  · exact run_le l
  · omega
theorem name_take {l : List UInt8} (h : 0 < name l) : isName (l.take (name l)) := by
  have hb := name_pos h
  have e : name l = run within l := by rw [name, if_pos hb]
  refine ⟨?_, by rw [e]; exact run_take l⟩
  rw [e]
  match l, hb with
  | [], hb => rw [nameB_nil] at hb; cases hb
  | [c], hb =>
    have : run within [c] = 1 := by rw [run, if_pos (show within c = true from nameB_within hb)]; rfl
    rw [this]; exact hb
  | c :: d :: r, hb =>
    have hc : within c = true := nameB_within hb
    by_cases hd : within d = true
    · have : run within (c :: d :: r) = run within r + 2 := by rw [run, if_pos hc, run, if_pos hd]
      rw [this]; exact hb
    · have hd' : within d = false := by simpa using hd
      have : run within (c :: d :: r) = 1 := by rw [run, if_pos hc, run, if_neg hd]
      rw [this]
      simp only [nameB, at0, List.tail_cons, Bool.or_eq_true, Bool.and_eq_true, beq_iff_eq] at hb
      have hbc : begins c = true := by
        rcases hb with hb | ⟨_, hb | hb⟩
        · exact hb
        · rw [begins_within hb] at hd'; cases hd'
        · exact absurd hd' (by rw [hb]; decide)
      simp [nameB, at0, hbc]
theorem shut_le : ∀ {l : List UInt8} {n : Nat}, shut l = some n → n ≤ l.length ∧ 2 ≤ n
  | c :: r, n, h => by
    rw [shut] at h
    split at h
    · rename_i hc
      cases h
      cases r with
      | nil => exact absurd hc.2 (by decide)
      | cons d r => simp
    · rw [Option.map_eq_some_iff] at h
      obtain ⟨m, hm, rfl⟩ := h
      have := shut_le hm
      simp; omega
theorem comment_pos (r : List UInt8) : 2 ≤ comment r := by unfold comment; split <;> omega
theorem inner_le {q : UInt8} : ∀ {l : List UInt8} {n : Nat}, inner q l = some n → n + 1 ≤ l.length
  | c :: r, n, h => by
    rw [inner] at h
    split at h
    · cases h; simp
    · split at h
      · cases h
      · rw [Option.map_eq_some_iff] at h
        obtain ⟨m, hm, rfl⟩ := h
        have := inner_le hm
        simp; omega
theorem inner_take {q : UInt8} : ∀ {l : List UInt8} {n : Nat}, inner q l = some n → ∀ b ∈ l.take n, b ≠ q ∧ ending b = false
  | c :: r, n, h, b, hb => by
    rw [inner] at h
    split at h
    · cases h; simp at hb
    · rename_i hq
      split at h
      · cases h
      · rename_i he
        rw [Option.map_eq_some_iff] at h
        obtain ⟨m, hm, rfl⟩ := h
        rw [List.take_succ_cons] at hb
        rcases List.mem_cons.1 hb with rfl | hb
        · exact ⟨hq, by simpa using he⟩
        · exact inner_take hm b hb
theorem inner_app {q : UInt8} {y : List UInt8} : ∀ {x : List UInt8}, (∀ b ∈ x, b ≠ q ∧ ending b = false) → inner q (x ++ q :: y) = some x.length
  | [], _ => by simp [inner]
  | c :: x, h => by
    have hc := h c (by simp)
    rw [List.cons_append, inner, if_neg hc.1, if_neg (by simp [hc.2]), inner_app fun b hb => h b (by simp [hb])]
    rfl
theorem num_app : ∀ {a y : List UInt8} {n : Int}, (∀ b ∈ a, digit b = true) → num n (a ++ y) = num (num n a) y
  | [], _, _, _ => rfl
  | c :: a, y, n, h => by
    rw [List.cons_append, num, if_pos (h c (by simp)), num, if_pos (h c (by simp)), num_app fun b hb => h b (by simp [hb])]
theorem num_stop {y : List UInt8} {n : Int} (h : digit (at0 y) = false) : num n y = n := by
  cases y with
  | nil => rfl
  | cons c r => rw [num, if_neg]; simpa [at0] using h
theorem num_bound : ∀ {l : List UInt8} {n : Int}, 0 ≤ n → n ≤ 999999999 → 0 ≤ num n l ∧ num n l ≤ 999999999
  | [], n, h1, h2 => ⟨h1, h2⟩
  | c :: r, n, h1, h2 => by
    rw [num]
    split
    · rename_i hc
      have : 48 ≤ c.toNat := by simp only [digit, decide_eq_true_eq] at hc; omega
      exact num_bound (by omega) (by omega)
    · exact ⟨h1, h2⟩
theorem digit_of {k : Nat} (h : k < 10) : digit (UInt8.ofNat (48 + k)) = true ∧ ((UInt8.ofNat (48 + k)).toNat : Int) - 48 = k := by
  have : (UInt8.ofNat (48 + k)).toNat = 48 + k := by rw [UInt8.toNat_ofNat']; omega
  refine ⟨?_, by rw [this]; omega⟩
  simp only [digit, this, decide_eq_true_eq]; omega
theorem dec_digits : ∀ (k u : Nat), u ≤ k → ∀ b ∈ Lib.decDigits u, digit b = true := by
  intro k
  induction k with
  | zero =>
    intro u hu b hb
    rw [Lib.decDigits, dif_pos (by omega)] at hb
    simp only [List.mem_singleton] at hb
    rw [hb]; exact (digit_of (by omega)).1
  | succ k ih =>
    intro u hu b hb
    rw [Lib.decDigits] at hb
    split at hb
    · simp only [List.mem_singleton] at hb
      rw [hb]; exact (digit_of (by omega)).1
    · rcases List.mem_append.1 hb with hb | hb
      · exact ih (u / 10) (by omega) b hb
      · simp only [List.mem_singleton] at hb
        rw [hb]; exact (digit_of (Nat.mod_lt _ (by omega))).1
theorem dec_num : ∀ (k u : Nat), u ≤ k → u ≤ 999999999 → num 0 (Lib.decDigits u) = u := by
  intro k
  induction k with
  | zero =>
    intro u hu _
    obtain rfl : u = 0 := by omega
    rw [Lib.decDigits, dif_pos (by omega)]
    decide
  | succ k ih =>
    intro u hu hm
    rw [Lib.decDigits]
    split
    · rename_i h
      have h2 := digit_of h
      rw [num, if_pos h2.1, num, h2.2]; omega
    · have h2 := digit_of (Nat.mod_lt u (by omega : 0 < 10))
      rw [num_app (dec_digits (u / 10) (u / 10) (Nat.le_refl _)), ih (u / 10) (by omega) (by omega), num, if_pos h2.1, num, h2.2]; omega
theorem dec_ne : ∀ (u : Nat), Lib.decDigits u ≠ [] := by
  intro u h
  rw [Lib.decDigits] at h
  split at h <;> simp at h
end Go.Abs.Tk
namespace Go.Abs.Tk
open Go
inductive Good : Tok → Prop
  | ident (x : List UInt8) : isName x → Good ⟨1, x, 0⟩
  | func (x : List UInt8) : isName x → Good ⟨2, x, 0⟩
  | word (x : List UInt8) : isName x → Good ⟨3, x, 0⟩
  | hash (x : List UInt8) : x ≠ [] → (∀ b ∈ x, within b = true) → Good ⟨4, x, 0⟩
  | num (x : List UInt8) (n : Int) : -999999999 ≤ n → n ≤ 999999999 → (x = [] ∨ x = [37] ∨ isName x) → Good ⟨5, x, n⟩
  | str (x : List UInt8) (q : UInt8) : q = 34 ∨ q = 39 → (∀ b ∈ x, b ≠ q ∧ ending b = false) → Good ⟨6, x, q.toNat⟩
  | delim (c : UInt8) : begins c = false → digit c = false → blank c = false → Good ⟨7, [c], 0⟩
  | white : Good ⟨8, [10], 0⟩
theorem unit_good (l : List UInt8) : l.take (unit l) = [] ∨ l.take (unit l) = [37] ∨ isName (l.take (unit l)) := by
  unfold unit
  split
  · rename_i h
    cases l with
    | nil => exact absurd h (by decide)
    | cons c r => right; left; rw [at0] at h; rw [h]; rfl
  · by_cases h : 0 < name l
    · exact .inr (.inr (name_take h))
    · left; rw [show name l = 0 by omega]; rfl
theorem unit_le (l : List UInt8) : unit l ≤ l.length := by
  unfold unit
  split
  · rename_i h
    cases l with
    | nil => exact absurd h (by decide)
    | cons c r => simp
  · exact name_le l
theorem number_good (neg : Bool) (l : List UInt8) : Good (number neg l).1 := by
  have hb := num_bound (l := l) (n := 0) (by omega) (by omega)
  unfold number
  refine .num _ _ ?_ ?_ (unit_good _)
  · cases neg <;> simp <;> omega
  · cases neg <;> simp <;> omega
theorem number_le (neg : Bool) (l : List UInt8) : (number neg l).2 ≤ l.length := by
  unfold number
  have h1 := run_le (p := digit) l
  have h2 := unit_le (l.drop (run digit l))
  simp only [List.length_drop] at h2
  simp only; omega
theorem number_pos (neg : Bool) (l : List UInt8) (h : digit (at0 l) = true) : 1 ≤ (number neg l).2 := by
  unfold number
  have := (run_pos_iff (y := l) digit_zero).2 h
  simp only; omega
theorem step_good {c : UInt8} {r : List UInt8} {t : Tok} (h : (step c r).1 = some t) : Good t := by
  unfold step at h
  split at h
  · cases h
  split at h
  · cases h; exact .white
  split at h
  · rename_i hq
    cases h
    obtain ⟨n, hn⟩ := Option.isSome_iff_exists.1 hq.2
    rw [hn]
    exact .str _ c hq.1 (inner_take hn)
  split at h
  · rename_i hq
    cases h
    exact .hash _ (fun e => by
      have h1 := congrArg List.length e
      rw [List.length_take, List.length_nil] at h1
      have h2 := run_le (p := within) r
      have h3 := hq.2
      omega) (run_take r)
  split at h
  · rename_i hq
    cases h
    exact .word _ (name_take hq.2)
  split at h
  · cases h; exact number_good _ _
  split at h
  · cases h; exact number_good _ _
  split at h
  · rename_i hn
    split at h
    · cases h; exact .func _ (name_take hn)
    · cases h; exact .ident _ (name_take hn)
  · rename_i h1 h2 h3 h4 h5 h6 h7 h8
    cases h
    refine .delim c ?_ (by simpa using h6) (by simpa using h2)
    cases hb : begins c
    · rfl
    · exact absurd (name_pos_iff.2 (show nameB (c :: r) = true by simp [nameB, at0, hb])) h8
theorem step_pos (c : UInt8) (r : List UInt8) : 1 ≤ (step c r).2 := by
  unfold step
  split
  · have := comment_pos r.tail; simp only; omega
  split
  · rename_i h; exact run_pos h
  split
  · rename_i h
    obtain ⟨n, hn⟩ := Option.isSome_iff_exists.1 h.2
    simp only; omega
  split
  · simp only; omega
  split
  · simp only; omega
  split
  · rename_i h; exact number_pos false (c :: r) h
  split
  · simp only; omega
  split
  · split <;> simp only <;> omega
  · exact Nat.le_refl _
theorem comment_le {r : List UInt8} : comment r ≤ r.length + 2 := by
  unfold comment
  split
  · rename_i n h; have := shut_le h; omega
  · omega
theorem step_le (c : UInt8) (r : List UInt8) : (step c r).2 ≤ (c :: r).length := by
  unfold step
  split
  · rename_i h
    have := comment_le (r := r.tail)
    cases r with
    | nil => exact absurd h.2 (by decide)
    | cons d r => simp only [List.tail_cons, List.length_cons] at *; omega
  split
  · exact run_le _
  split
  · rename_i h
    obtain ⟨n, hn⟩ := Option.isSome_iff_exists.1 h.2
    have := inner_le hn
    rw [hn]; simp; omega
  split
  · have := run_le (p := within) r; simp; omega
  split
  · have := name_le r; simp; omega
  split
  · exact number_le false _
  split
  · have := number_le true r; simp; omega
  split
  · rename_i h
    split
    · rename_i h40
      have h1 := name_le (c :: r)
      have : name (c :: r) ≠ (c :: r).length := fun e => by
        rw [e, List.drop_length] at h40; exact absurd h40 (by decide)
      simp only; omega
    · exact name_le _
  · simp
theorem allN_eq : ∀ (k j : Nat) (l : List UInt8), l.length ≤ k → l.length ≤ j → allN k l = allN j l := by
  intro k
  induction k with
  | zero =>
    intro j l h _
    obtain rfl : l = [] := List.length_eq_zero_iff.1 (by omega)
    cases j <;> rfl
  | succ k ih =>
    intro j l hk hj
    cases l with
    | nil => cases j <;> rfl
    | cons c r =>
      cases j with
      | zero => simp at hj
      | succ j =>
        have hp := step_pos c r
        have hd : ((c :: r).drop (step c r).2).length ≤ r.length := by rw [List.length_drop]; simp; omega
        simp only [List.length_cons] at hk hj
        rw [allN, allN, ih j _ (by omega) (by omega)]
theorem all_nil : all [] = [] := rfl
theorem all_cons (c : UInt8) (r : List UInt8) : all (c :: r) = (step c r).1.toList ++ all ((c :: r).drop (step c r).2) := by
  have hp := step_pos c r
  have hd : ((c :: r).drop (step c r).2).length ≤ r.length := by rw [List.length_drop]; simp; omega
  rw [all, List.length_cons, allN]
  rw [allN_eq r.length _ _ hd (Nat.le_refl _), ← all]
theorem all_ind {Q : List UInt8 → Prop} (h0 : Q []) (h1 : ∀ c r, Q ((c :: r).drop (step c r).2) → Q (c :: r)) : ∀ l, Q l := by
  have : ∀ (k : Nat) (l : List UInt8), l.length ≤ k → Q l := by
    intro k
    induction k with
    | zero => intro l h; obtain rfl : l = [] := List.length_eq_zero_iff.1 (by omega); exact h0
    | succ k ih =>
      intro l h
      cases l with
      | nil => exact h0
      | cons c r =>
        have hp := step_pos c r
        exact h1 c r (ih _ (by rw [List.length_drop]; simp at *; omega))
  exact fun l => this l.length l (Nat.le_refl _)
theorem at0_cons (c : UInt8) (r : List UInt8) : at0 (c :: r) = c := rfl
def sep (t : Tok) (y : List UInt8) : Prop :=
  (t.kind = 1 → within (at0 y) = false ∧ at0 y ≠ 40) ∧
  (t.kind = 3 ∨ t.kind = 4 → within (at0 y) = false) ∧
  (t.kind = 5 → (t.text = [] → digit (at0 y) = false ∧ at0 y ≠ 37 ∧ nameB y = false) ∧ (isName t.text → within (at0 y) = false)) ∧
  (t.kind = 8 → blank (at0 y) = false) ∧
  (t.kind = 7 → (t.text = [47] → at0 y ≠ 42) ∧ (t.text = [35] → within (at0 y) = false) ∧ (t.text = [64] → nameB y = false) ∧ (t.text = [45] → digit (at0 y) = false ∧ nameB (45 :: y) = false))
theorem nameB_head {c : UInt8} {y : List UInt8} (h : at0 y = c) (hc : within c = false) : nameB y = false := by
  cases hn : nameB y
  · rfl
  · have := nameB_within hn; rw [h, hc] at this; cases this
theorem nameB_dash {y : List UInt8} (h : begins (at0 y) = false) (h2 : at0 y ≠ 45) : nameB (45 :: y) = false := by
  have e : nameB (45 :: y) = (begins 45 || ((45 : UInt8) == 45 && (begins (at0 y) || at0 y == 45))) := rfl
  rw [e, h, beq_eq_false_iff_ne.2 h2]; decide
theorem sep_sign {y : List UInt8} {c : UInt8} (h : at0 y = c) (t : Tok) (h1 : within c = false) (h2 : blank c = false) (h3 : c ≠ 40) (h4 : c ≠ 37) (h5 : c ≠ 42) : sep t y := by
  have hb : begins c = false := by simp only [within, Bool.or_eq_false_iff] at h1; exact h1.1.1
  have hd : digit c = false := by simp only [within, Bool.or_eq_false_iff] at h1; exact h1.1.2
  have h45 : c ≠ 45 := fun e => by rw [e] at h1; revert h1; decide
  have hn := nameB_head h h1
  unfold sep
  rw [h]
  exact ⟨fun _ => ⟨h1, h3⟩, fun _ => h1, fun _ => ⟨fun _ => ⟨hd, h4, hn⟩, fun _ => h1⟩, fun _ => h2, fun _ => ⟨fun _ => h5, fun _ => h1, fun _ => hn, fun _ => ⟨hd, nameB_dash (by rw [h]; exact hb) (by rw [h]; exact h45)⟩⟩⟩
theorem sep_nil (t : Tok) : sep t [] := sep_sign (c := 0) rfl t (by decide) (by decide) (by decide) (by decide) (by decide)
theorem nameB_cases {c : UInt8} {r : List UInt8} (h : nameB (c :: r) = true) : begins c = true ∨ c = 45 ∧ (begins (at0 r) = true ∨ at0 r = 45) := by
  simpa [nameB, at0] using h
theorem step_name {c : UInt8} {r : List UInt8} (h : nameB (c :: r) = true) : step c r =
    if at0 ((c :: r).drop (name (c :: r))) = 40 then (some ⟨2, (c :: r).take (name (c :: r)), 0⟩, name (c :: r) + 1)
    else (some ⟨1, (c :: r).take (name (c :: r)), 0⟩, name (c :: r)) := by
  have hw : within c = true := nameB_within h
  have hne : ∀ d, within d = false → c ≠ d := fun d hd => within_ne hw hd
  have hdig : digit c = false := by
    rcases nameB_cases h with hb | ⟨rfl, _⟩
    · exact begins_digit hb
    · decide
  have h45 : ¬ (c = 45 ∧ digit (at0 r) = true) := by
    rintro ⟨rfl, hd⟩
    rcases nameB_cases h with hb | ⟨_, hb | hb⟩
    · exact absurd hb (by decide)
    · rw [begins_digit hb] at hd; cases hd
    · rw [hb] at hd; revert hd; decide
  unfold step
  rw [if_neg (fun e => hne 47 (by decide) e.1), if_neg (by simp [within_blank hw]), if_neg (fun e => by
    rcases e.1 with e | e
    · exact hne 34 (by decide) e
    · exact hne 39 (by decide) e), if_neg (fun e => hne 35 (by decide) e.1), if_neg (fun e => hne 64 (by decide) e.1), if_neg (by simp [hdig]), if_neg h45, if_pos (name_pos_iff.2 h)]
theorem step_number {c : UInt8} {r : List UInt8} (h : digit c = true) : step c r = (some (number false (c :: r)).1, (number false (c :: r)).2) := by
  have hne : ∀ d, digit d = false → c ≠ d := fun d hd => digit_ne h hd
  unfold step
  rw [if_neg (fun e => hne 47 (by decide) e.1), if_neg (by simp [digit_blank h]), if_neg (fun e => by
    rcases e.1 with e | e
    · exact hne 34 (by decide) e
    · exact hne 39 (by decide) e), if_neg (fun e => hne 35 (by decide) e.1), if_neg (fun e => hne 64 (by decide) e.1), if_pos h]
theorem step_minus {r : List UInt8} (h : digit (at0 r) = true) : step 45 r = (some (number true r).1, (number true r).2 + 1) := by
  unfold step
  rw [if_neg (fun e => absurd e.1 (by decide)), if_neg (by decide), if_neg (by simp), if_neg (by simp), if_neg (by simp), if_neg (by decide), if_pos ⟨rfl, h⟩]
theorem number_app (neg : Bool) {u : Nat} (hu : u ≤ 999999999) {z : List UInt8} (hz : digit (at0 z) = false) : number neg (Lib.decDigits u ++ z) = (⟨5, z.take (unit z), if neg then -(u : Int) else u⟩, (Lib.decDigits u).length + unit z) := by
  have hd := dec_digits u u (Nat.le_refl _)
  unfold number
  rw [run_word hd hz, List.drop_left, num_app hd, dec_num u u (Nat.le_refl _) hu, num_stop hz]
theorem unit_zero {y : List UInt8} (h1 : at0 y ≠ 37) (h2 : nameB y = false) : unit y = 0 := by rw [unit, if_neg h1, name_zero h2]
theorem unit_name {x y : List UInt8} (h : isName x) (hy : within (at0 y) = false) : unit (x ++ y) = x.length := by
  have : at0 (x ++ y) ≠ 37 := by
    rw [at0_app (isName_ne h)]
    exact within_ne (nameB_within h.1) (by decide)
  rw [unit, if_neg this, name_app h hy]
theorem name_nodigit {x : List UInt8} (h : nameB x = true) : digit (at0 x) = false := by
  cases x with
  | nil => rfl
  | cons c r =>
    rcases nameB_cases h with hb | ⟨rfl, _⟩
    · exact begins_digit hb
    · rw [at0_cons]; decide
theorem unit_sep {x y : List UInt8} {n : Int} (hx : x = [] ∨ x = [37] ∨ isName x) (hs : sep ⟨5, x, n⟩ y) : digit (at0 (x ++ y)) = false ∧ unit (x ++ y) = x.length := by
  obtain ⟨_, _, h5, _, _⟩ := hs
  obtain ⟨h6, h7⟩ := h5 rfl
  rcases hx with rfl | rfl | hx
  · obtain ⟨a, b, c⟩ := h6 rfl
    exact ⟨a, unit_zero b c⟩
  · exact ⟨by show digit 37 = false; decide, rfl⟩
  · exact ⟨by rw [at0_app (isName_ne hx)]; exact name_nodigit hx.1, unit_name hx (h7 hx)⟩
theorem one_num (x : List UInt8) (n : Int) : oneS ⟨5, x, n⟩ = Lib.itoa n ++ x := rfl
theorem all_num {x y : List UInt8} {n : Int} (h1 : -999999999 ≤ n) (h2 : n ≤ 999999999) (hd : digit (at0 (x ++ y)) = false) (hu : unit (x ++ y) = x.length) : all (Lib.itoa n ++ (x ++ y)) = ⟨5, x, n⟩ :: all y := by
  by_cases hn : n < 0
  · have e : Lib.itoa n = 45 :: Lib.decDigits n.natAbs := by unfold Lib.itoa; rw [if_pos hn]
    have hh : digit (at0 (Lib.decDigits n.natAbs ++ (x ++ y))) = true := by
      rw [at0_app (dec_ne _)]
      cases hl : Lib.decDigits n.natAbs with
      | nil => exact absurd hl (dec_ne _)
      | cons c r => exact dec_digits _ _ (Nat.le_refl _) c (by rw [hl]; simp)
    rw [e, List.cons_append, all_cons, step_minus hh, number_app true (by omega) hd, hu]
    simp only [Option.toList_some, List.drop_succ_cons, List.cons_append, List.nil_append, if_true]
    rw [← List.drop_drop, List.drop_left, List.drop_left, List.take_left]
    rw [show -((n.natAbs : Nat) : Int) = n by omega]
  · have e : Lib.itoa n = Lib.decDigits n.toNat := by unfold Lib.itoa; rw [if_neg hn]
    rw [e]
    cases hl : Lib.decDigits n.toNat with
    | nil => exact absurd hl (dec_ne _)
    | cons c r =>
      have hc : digit c = true := dec_digits _ _ (Nat.le_refl _) c (by rw [hl]; simp)
      rw [List.cons_append, all_cons, step_number hc, ← List.cons_append, ← hl, number_app false (by omega) hd, hu]
      simp only [Option.toList_some, List.cons_append, List.nil_append, Bool.false_eq_true, if_false]
      rw [← List.drop_drop, List.drop_left, List.drop_left, List.take_left]
      rw [show ((n.toNat : Nat) : Int) = n by omega]
theorem all_line (y : List UInt8) : all (47 :: 42 :: 10 :: 42 :: 47 :: y) = all y := by
  rw [all_cons]
  rfl
theorem all_quote {q : UInt8} (h : q = 34 ∨ q = 39) (y : List UInt8) : all (q :: 47 :: 42 :: 10 :: 42 :: 47 :: y) = ⟨7, [q], 0⟩ :: all y := by
  have hi : inner q (47 :: 42 :: 10 :: 42 :: 47 :: y) = none := by rcases h with rfl | rfl <;> rfl
  have e : step q (47 :: 42 :: 10 :: 42 :: 47 :: y) = (some ⟨7, [q], 0⟩, 1) := by
    unfold step
    rcases h with rfl | rfl <;> (rw [hi]; rfl)
  rw [all_cons, e]
  simp only [Option.toList_some, List.drop_succ_cons, List.drop_zero, List.cons_append, List.nil_append, all_line]
theorem step_delim {c : UInt8} {y : List UInt8} (h1 : begins c = false) (h2 : digit c = false) (h3 : blank c = false) (h34 : c ≠ 34) (h39 : c ≠ 39) (hs : sep ⟨7, [c], 0⟩ y) : step c y = (some ⟨7, [c], 0⟩, 1) := by
  obtain ⟨_, _, _, _, h7⟩ := hs
  obtain ⟨a, b, d, e⟩ := h7 rfl
  unfold step
  rw [if_neg (fun x => a (by rw [x.1]) x.2), if_neg (by simp [h3]), if_neg (fun x => by rcases x.1 with x | x <;> contradiction),
    if_neg (fun x => by have := (run_pos_iff within_zero).1 x.2; rw [b (by rw [x.1])] at this; cases this),
    if_neg (fun x => by have := name_pos_iff.1 x.2; rw [d (by rw [x.1])] at this; cases this),
    if_neg (by simp [h2]), if_neg (fun x => by have := (e (by rw [x.1])).1; rw [x.2] at this; cases this), if_neg]
  intro x
  have hn := name_pos_iff.1 x
  rcases nameB_cases hn with hb | ⟨rfl, _⟩
  · rw [h1] at hb; cases hb
  · rw [(e rfl).2] at hn; cases hn
theorem one_delim {c : UInt8} (h34 : c ≠ 34) (h39 : c ≠ 39) : oneS ⟨7, [c], 0⟩ = [c] := by simp [oneS, h34, h39]
theorem all_one {t : Tok} {y : List UInt8} (h : Good t) (hs : sep t y) : all (oneS t ++ y) = t :: all y := by
  cases h with
  | ident x hx =>
    have e1 : oneS ⟨1, x, 0⟩ = x := rfl
    obtain ⟨hw, h40⟩ := hs.1 rfl
    have hn := name_app hx hw
    have hb := nameB_app (y := y) hx.1
    rw [e1]
    cases x with
    | nil => exact absurd rfl (isName_ne hx)
    | cons c r =>
      rw [List.cons_append] at hn hb ⊢
      rw [all_cons, step_name hb, hn, ← List.cons_append, List.drop_left, List.take_left, if_neg h40]
      simp only [Option.toList_some, List.cons_append, List.nil_append]
      rw [← List.cons_append, List.drop_left]
  | func x hx =>
    have e1 : oneS ⟨2, x, 0⟩ = x ++ [40] := rfl
    have hn := name_app (y := 40 :: y) hx (by rw [at0_cons]; decide)
    have hb := nameB_app (y := 40 :: y) hx.1
    rw [e1, List.append_assoc, List.cons_append, List.nil_append]
    cases x with
    | nil => exact absurd rfl (isName_ne hx)
    | cons c r =>
      rw [List.cons_append] at hn hb ⊢
      rw [all_cons, step_name hb, hn, ← List.cons_append, List.drop_left, List.take_left, if_pos (at0_cons 40 y)]
      simp only [Option.toList_some, List.cons_append, List.nil_append]
      rw [← List.cons_append, ← List.drop_drop, List.drop_left]
      rfl
  | word x hx =>
    have e1 : oneS ⟨3, x, 0⟩ = 64 :: x := rfl
    have hw := hs.2.1 (.inl rfl)
    have hn := name_app hx hw
    have e : step 64 (x ++ y) = (some ⟨3, x, 0⟩, x.length + 1) := by
      unfold step
      rw [if_neg (fun e => absurd e.1 (by decide)), if_neg (by decide), if_neg (by simp), if_neg (by simp), if_pos ⟨rfl, by rw [hn]; exact isName_len hx⟩, hn, List.take_left]
    rw [e1, List.cons_append, all_cons, e]
    simp only [Option.toList_some, List.drop_succ_cons, List.drop_left, List.cons_append, List.nil_append]
  | hash x hne hx =>
    have e1 : oneS ⟨4, x, 0⟩ = 35 :: x := rfl
    have hw := hs.2.1 (.inr rfl)
    have hn := run_word hx hw
    have e : step 35 (x ++ y) = (some ⟨4, x, 0⟩, x.length + 1) := by
      unfold step
      rw [if_neg (fun e => absurd e.1 (by decide)), if_neg (by decide), if_neg (by simp), if_pos ⟨rfl, by rw [hn]; exact List.length_pos_iff.2 hne⟩, hn, List.take_left]
    rw [e1, List.cons_append, all_cons, e]
    simp only [Option.toList_some, List.drop_succ_cons, List.drop_left, List.cons_append, List.nil_append]
  | num x n h1 h2 hx =>
    obtain ⟨hd, hu⟩ := unit_sep hx hs
    rw [one_num, List.append_assoc]
    exact all_num h1 h2 hd hu
  | str x q hq hx =>
    have e1 : oneS ⟨6, x, q.toNat⟩ = q :: (x ++ [q]) := by rcases hq with rfl | rfl <;> rfl
    have hi := inner_app (y := y) hx
    have e : step q (x ++ q :: y) = (some ⟨6, x, q.toNat⟩, x.length + 2) := by
      unfold step
      rw [if_neg (fun e => by rcases hq with rfl | rfl <;> exact absurd e.1 (by decide)), if_neg (by rcases hq with rfl | rfl <;> decide), if_pos ⟨hq, by rw [hi]; rfl⟩, hi]
      simp only [Option.getD_some, List.take_left]
    rw [e1, List.cons_append, List.append_assoc, List.cons_append, List.nil_append, all_cons, e]
    simp only [Option.toList_some, List.drop_succ_cons, List.cons_append, List.nil_append]
    rw [← List.drop_drop, List.drop_left]
    rfl
  | delim c h1 h2 h3 =>
    by_cases hq : c = 34 ∨ c = 39
    · have e1 : oneS ⟨7, [c], 0⟩ = [c, 47, 42, 10, 42, 47] := by rcases hq with rfl | rfl <;> rfl
      rw [e1]
      exact all_quote hq y
    · rw [not_or] at hq
      rw [one_delim hq.1 hq.2, List.cons_append, List.nil_append, all_cons, step_delim h1 h2 h3 hq.1 hq.2 hs]
      simp only [Option.toList_some, List.drop_succ_cons, List.drop_zero, List.cons_append, List.nil_append]
  | white =>
    have hw := hs.2.2.2.1 rfl
    have e1 : oneS ⟨8, [10], 0⟩ = [10] := rfl
    have hr : run blank (10 :: y) = 1 := by rw [run, if_pos (by decide), run_zero hw]
    have e : step 10 y = (some ⟨8, [10], 0⟩, 1) := by
      unfold step
      rw [if_neg (fun e => absurd e.1 (by decide)), if_pos (by decide), hr]
    rw [e1, List.cons_append, List.nil_append, all_cons, e]
    simp only [Option.toList_some, List.drop_succ_cons, List.drop_zero, List.cons_append, List.nil_append]
end Go.Abs.Tk
namespace Go.Abs.Tk
open Go
theorem all_len (l : List UInt8) : (all l).length ≤ l.length := by
  refine all_ind (Q := fun l => (all l).length ≤ l.length) (Nat.le_refl _) (fun c r ih => ?_) l
  rw [all_cons, List.length_append]
  have h1 := step_pos c r
  have h2 := step_le c r
  have h3 : (step c r).1.toList.length ≤ 1 := by cases (step c r).1 <;> simp
  rw [List.length_drop] at ih
  simp only [List.length_cons] at *
  omega
section both
variable {R R' : List UInt8}
end both
end Go.Abs.Tk
namespace Go.Abs.Tk
open Go
theorem unit_len (l : List UInt8) : (l.take (unit l)).length ≤ l.length := by rw [List.length_take]; omega
theorem step_text {c : UInt8} {r : List UInt8} {t : Tok} (h : (step c r).1 = some t) : t.text.length ≤ r.length + 1 := by
  unfold step at h
  split at h
  · cases h
  split at h
  · cases h; simp
  split at h
  · cases h; simp only [List.length_take]; omega
  split at h
  · cases h; simp only [List.length_take]; omega
  split at h
  · cases h; simp only [List.length_take]; omega
  split at h
  · cases h
    have := unit_len ((c :: r).drop (run digit (c :: r)))
    simp only [List.length_drop, List.length_cons] at this
    simp only [number]; omega
  split at h
  · cases h
    have := unit_len (r.drop (run digit r))
    simp only [List.length_drop] at this
    simp only [number]; omega
  split at h
  · split at h
    · cases h; simp only [List.length_take, List.length_cons]; omega
    · cases h; simp only [List.length_take, List.length_cons]; omega
  · cases h; simp
theorem all_text (l : List UInt8) : ∀ t ∈ all l, t.text.length ≤ l.length := by
  refine all_ind (Q := fun l => ∀ t ∈ all l, t.text.length ≤ l.length) (fun t h => by simp [all_nil] at h) (fun c r ih t ht => ?_) l
  rw [all_cons] at ht
  rcases List.mem_append.1 ht with ht | ht
  · have := step_text (by simpa [Option.mem_toList] using ht)
    simpa using this
  · have := ih t ht
    rw [List.length_drop] at this
    omega
end Go.Abs.Tk
namespace Go.Abs.Sl
def readS (s : List UInt8) : Option (List Val) := (Ne.parse 60 (Tk.all s)).map trim
end Go.Abs.Sl
namespace Go.Abs
namespace Sl
open Tk (isName sep within digit begins at0 all)
def okNext (y : List UInt8) : Prop := ∀ t : Tok, t.kind ≠ 8 → sep t y
theorem okNext_sign {y : List UInt8} {c : UInt8} (h : at0 y = c) (h1 : within c = false) (h2 : Tk.blank c = false) (h3 : c ≠ 40) (h4 : c ≠ 37) (h5 : c ≠ 42) : okNext y := fun t _ => Tk.sep_sign h t h1 h2 h3 h4 h5
theorem okNext_nil : okNext [] := fun t _ => Tk.sep_nil t
theorem sep_delim {c : UInt8} (h1 : c ≠ 47) (h2 : c ≠ 35) (h3 : c ≠ 64) (h4 : c ≠ 45) (y : List UInt8) : sep ⟨7, [c], 0⟩ y := by
  unfold sep
  refine ⟨fun e => by simp at e, fun e => by simp at e, fun e => by simp at e, fun e => by simp at e, fun _ => ⟨fun e => ?_, fun e => ?_, fun e => ?_, fun e => ?_⟩⟩ <;> simp at e
  · exact absurd e h1
  · exact absurd e h2
  · exact absurd e h3
  · exact absurd e h4
theorem all_delim {c : UInt8} {y : List UInt8} (h : Tk.Good ⟨7, [c], 0⟩) (h34 : c ≠ 34) (h39 : c ≠ 39) (hs : sep ⟨7, [c], 0⟩ y) : all (c :: y) = ⟨7, [c], 0⟩ :: all y := by
  have := Tk.all_one h hs
  rw [Tk.one_delim h34 h39] at this
  exact this
theorem good_delim {c : UInt8} (h1 : begins c = false) (h2 : digit c = false) (h3 : Tk.blank c = false) : Tk.Good ⟨7, [c], 0⟩ := .delim c h1 h2 h3
theorem a43 (y : List UInt8) : all (43 :: y) = ⟨7, [43], 0⟩ :: all y := all_delim (good_delim (by decide) (by decide) (by decide)) (by decide) (by decide) (sep_delim (by decide) (by decide) (by decide) (by decide) y)
theorem n43 (y : List UInt8) : okNext (43 :: y) := okNext_sign (c := 43) rfl (by decide) (by decide) (by decide) (by decide) (by decide)
theorem digits_within : ∀ u : Nat, ∀ b ∈ Lib.decDigits u, digit b = true := by
  intro u
  induction u using Nat.strongRecOn with
  | _ u ih =>
    intro b hb
    unfold Lib.decDigits at hb
    split at hb
    · rename_i h
      obtain rfl : b = UInt8.ofNat (48 + u) := by simpa using hb
      have key : ∀ v : Fin 10, digit (UInt8.ofNat (48 + v.1)) = true := by decide
      exact key ⟨u, h⟩
    · rcases List.mem_append.1 hb with hb | hb
      · exact ih (u / 10) (by omega) b hb
      · obtain rfl : b = UInt8.ofNat (48 + u % 10) := by simpa using hb
        have key : ∀ v : Fin 10, digit (UInt8.ofNat (48 + v.1)) = true := by decide
        exact key ⟨u % 10, Nat.mod_lt _ (by decide)⟩
theorem digit_within {b : UInt8} (h : digit b = true) : within b = true := by unfold Tk.within; rw [h]; simp
theorem name_neg {b : Int} (h : b < 0) : isName (110 :: Lib.itoa b) := by
  have e : Lib.itoa b = 45 :: Lib.decDigits b.natAbs := by unfold Lib.itoa; rw [if_pos h]
  rw [e]
  refine ⟨rfl, fun c hc => ?_⟩
  simp only [List.mem_cons] at hc
  rcases hc with rfl | rfl | hc
  · decide
  · decide
  · exact digit_within (digits_within _ c hc)
theorem name_n : isName [110] := ⟨rfl, fun c hc => by obtain rfl : c = 110 := by simpa using hc
                                                      decide⟩
theorem flat_tv (t : Tok) : Ne.flatV (tv t) = [t] := by unfold tv; rw [Ne.flatV, if_pos rfl]
theorem flat_nil : Ne.flat [] = [] := by rw [Ne.flat]
theorem flat_cons (v : Val) (l : List Val) : Ne.flat (v :: l) = Ne.flatV v ++ Ne.flat l := by rw [Ne.flat]
theorem flat_dv (c : UInt8) : Ne.flatV (dv c) = [⟨7, [c], 0⟩] := flat_tv _
end Sl
end Go.Abs
namespace Go.Abs
namespace Sl
open Tk (isName sep within digit begins at0 all)
def numOf (s : List UInt8) : Int := s.foldl (fun n c => 10 * n + ((c.toNat : Int) - 48)) 0
theorem numOf_snoc (s : List UInt8) (c : UInt8) : numOf (s ++ [c]) = 10 * numOf s + ((c.toNat : Int) - 48) := by
  unfold numOf; rw [List.foldl_append]; rfl
theorem num_dec : ∀ u : Nat, numOf (Lib.decDigits u) = u := by
  intro u
  induction u using Nat.strongRecOn with
  | _ u ih =>
    have hd : ∀ v : Nat, v < 10 → ((UInt8.ofNat (48 + v)).toNat : Int) - 48 = v := fun v hv => by
      have key : ∀ v : Fin 10, (UInt8.ofNat (48 + v.1)).toNat = 48 + v.1 := by decide
      rw [key ⟨v, hv⟩]; simp only []; omega
    unfold Lib.decDigits
    split
    · rename_i h
      have := numOf_snoc [] (UInt8.ofNat (48 + u))
      rw [List.nil_append] at this
      rw [this, hd u h]
      show 10 * (0 : Int) + u = u
      omega
    · rw [numOf_snoc, ih (u / 10) (by omega), hd (u % 10) (Nat.mod_lt _ (by decide))]
      omega
theorem dec_one {u : Nat} (h : u < 10) : (Lib.decDigits u).length = 1 := by unfold Lib.decDigits; rw [dif_pos h]; rfl
theorem dec_more {u : Nat} (h : ¬ u < 10) : (Lib.decDigits u).length = (Lib.decDigits (u / 10)).length + 1 := by
  rw [Lib.decDigits, dif_neg h, List.length_append]; rfl
theorem dec_len {u : Nat} (h : u < 10000) : 1 ≤ (Lib.decDigits u).length ∧ (Lib.decDigits u).length ≤ 4 := by
  have step : ∀ u : Nat, (u < 10 ∧ (Lib.decDigits u).length = 1) ∨ (10 ≤ u ∧ (Lib.decDigits u).length = (Lib.decDigits (u / 10)).length + 1) := fun u => by
    by_cases h : u < 10
    · exact .inl ⟨h, dec_one h⟩
    · exact .inr ⟨by omega, dec_more h⟩
  rcases step u with h1 | h1
  · omega
  · rcases step (u / 10) with h2 | h2
    · omega
    · rcases step (u / 10 / 10) with h3 | h3
      · omega
      · rcases step (u / 10 / 10 / 10) with h4 | h4
        · omega
        · omega
theorem digits_dec {u : Nat} (h : u < 10000) : digits (Lib.decDigits u) = u := by
  obtain ⟨h1, h2⟩ := dec_len h
  unfold digits
  rw [if_neg (by omega), if_pos (List.all_eq_true.2 (digits_within u))]
  exact num_dec u
theorem trim_ends {v w : Val} {l m m' : List Val} (h1 : l = v :: m) (h2 : l = m' ++ [w]) (hv : isBlank v = false) (hw : isBlank w = false) : trim l = l := by
  have a : l.dropWhile isBlank = l := by rw [h1, List.dropWhile_cons, if_neg (by simp [hv])]
  have b : l.reverse.dropWhile isBlank = l.reverse := by rw [h2, List.reverse_append]; simp [hw]
  unfold trim
  rw [a, b, List.reverse_reverse]
theorem trim_all {l : List Val} (h : ∀ v ∈ l, isBlank v = false) : trim l = l := by
  cases hl : l with
  | nil => rfl
  | cons v m =>
    rcases List.eq_nil_or_concat l with e | ⟨m', w, e⟩
    · rw [e] at hl; cases hl
    · rw [← hl]
      exact trim_ends hl (by simpa using e) (h v (by rw [hl]; simp)) (h w (by rw [e]; simp))
end Sl
end Go.Abs
namespace Go.Abs
namespace Sl
open Tk (isName sep within digit begins at0 all)
theorem flat_mem : ∀ {l : List Val} {t : Tok}, t ∈ Ne.flat l ↔ ∃ v ∈ l, t ∈ Ne.flatV v
  | [], t => by rw [flat_nil]; simp
  | v :: l, t => by
    rw [flat_cons, List.mem_append, flat_mem (l := l)]
    simp
theorem mem_trim {l : List Val} {v : Val} (h : v ∈ trim l) : v ∈ l := by
  unfold trim at h
  have h1 := List.mem_reverse.1 h
  have h2 := (List.dropWhile_sublist _).subset h1
  exact (List.dropWhile_sublist _).subset (List.mem_reverse.1 h2)
end Sl
end Go.Abs
namespace Go.Abs
namespace Sl
open Tk (isName sep within digit begins at0 all)
def nb (n : Int) : Prop := -999999999 ≤ n ∧ n ≤ 999999999
theorem all_nb {x y : List UInt8} {n : Int} (h : nb n) (hx : x = [] ∨ isName x) (hy : okNext y) : all (Lib.itoa n ++ (x ++ y)) = ⟨5, x, n⟩ :: all y := by
  have hg : Tk.Good ⟨5, x, n⟩ := .num x n h.1 h.2 (by rcases hx with h | h; exact .inl h; exact .inr (.inr h))
  have := Tk.all_one (y := y) hg (hy _ (by simp))
  rw [Tk.one_num, List.append_assoc] at this
  exact this
def nthUS (a b : Int) : List UInt8 := Lib.itoa a ++ 110 :: (if 0 < b then 43 :: Lib.itoa b else if b < 0 then Lib.itoa b else [])
def nthUV (a b : Int) : List Val :=
  if b < 0 then [tv ⟨5, 110 :: Lib.itoa b, a⟩]
  else if 0 < b then [tv ⟨5, [110], a⟩, dv 43, tv ⟨5, [], b⟩]
  else [tv ⟨5, [110], a⟩]
theorem nthU_all {a b : Int} (ha : nb a) (hb : nb b) : all (nthUS a b) = Ne.flat (nthUV a b) := by
  unfold nthUS nthUV
  by_cases hn : b < 0
  · rw [if_neg (by omega), if_pos hn, if_pos hn, flat_cons, flat_nil, flat_tv]
    have := all_nb (x := 110 :: Lib.itoa b) (y := []) ha (.inr (name_neg hn)) okNext_nil
    rw [List.append_nil] at this
    rw [this, Tk.all_nil]; rfl
  · by_cases hp : 0 < b
    · rw [if_pos hp, if_neg hn, if_pos hp, flat_cons, flat_cons, flat_cons, flat_nil, flat_tv, flat_tv]
      have h1 := all_nb (x := [110]) ha (.inr name_n) (n43 (Lib.itoa b))
      have h2 := all_nb (x := []) (y := []) hb (.inl rfl) okNext_nil
      rw [List.nil_append, List.append_nil] at h2
      have e : Lib.itoa a ++ 110 :: 43 :: Lib.itoa b = Lib.itoa a ++ ([110] ++ 43 :: Lib.itoa b) := by simp
      rw [e, h1, a43, h2, flat_dv, Tk.all_nil]; rfl
    · rw [if_neg hp, if_neg hn, if_neg hn, if_neg hp, flat_cons, flat_nil, flat_tv]
      have := all_nb (x := [110]) (y := []) ha (.inr name_n) okNext_nil
      rw [List.append_nil] at this
      rw [this, Tk.all_nil]; rfl
def Flatv (l : List Val) : Prop := ∀ v ∈ l, ∃ t, v = tv t ∧ Ne.opens t = 0
theorem flatv_good {l : List Val} (h : Flatv l) : Ne.good 0 l = true ∧ Ne.depth l = 0 := by
  induction l with
  | nil => exact ⟨by rw [Ne.good], by rw [Ne.depth]⟩
  | cons v l ih =>
    obtain ⟨h1, h2⟩ := ih fun x hx => h x (by simp [hx])
    obtain ⟨t, rfl, ht⟩ := h v (by simp)
    constructor
    · rw [Ne.good, h1]
      unfold tv
      rw [Ne.goodV, Ne.last_zero, ht]; rfl
    · rw [Ne.depth, h2]
      unfold tv
      rw [Ne.depthV]; rfl
theorem opens5 (x : List UInt8) (n : Int) : Ne.opens ⟨5, x, n⟩ = 0 := by
  show opensL 5 x n = 0
  unfold opensL
  rw [if_neg (by decide), if_neg (by intro e; exact absurd e.1 (by decide))]
theorem nthU_flat (a b : Int) : Flatv (nthUV a b) ∧ ∀ v ∈ nthUV a b, isBlank v = false := by
  unfold nthUV
  constructor
  · intro v hv
    split at hv
    · exact ⟨_, by simpa using hv, opens5 _ _⟩
    · split at hv
      · simp only [List.mem_cons, List.not_mem_nil, or_false] at hv
        rcases hv with rfl | rfl | rfl
        · exact ⟨_, rfl, opens5 _ _⟩
        · exact ⟨_, rfl, by decide⟩
        · exact ⟨_, rfl, opens5 _ _⟩
      · exact ⟨_, by simpa using hv, opens5 _ _⟩
  · intro v hv
    split at hv
    · obtain rfl : v = _ := by simpa using hv
      rfl
    · split at hv
      · simp only [List.mem_cons, List.not_mem_nil, or_false] at hv
        rcases hv with rfl | rfl | rfl <;> rfl
      · obtain rfl : v = _ := by simpa using hv
        rfl
theorem read_of {s : List UInt8} {l : List Val} (h : all s = Ne.flat l) (hf : Flatv l) (hb : ∀ v ∈ l, isBlank v = false) : readS s = some l := by
  unfold readS
  rw [h, Ne.parse_flat (flatv_good hf).1, (flatv_good hf).2, if_pos (by omega)]
  show some (trim l) = _
  rw [trim_all hb]
theorem read_nthU {a b : Int} (ha : nb a) (hb : nb b) : readS (nthUS a b) = some (nthUV a b) := read_of (nthU_all ha hb) (nthU_flat a b).1 (nthU_flat a b).2
theorem read_numb {b : Int} (hb : nb b) : readS (Lib.itoa b) = some [tv ⟨5, [], b⟩] := by
  refine read_of ?_ (fun v hv => ⟨_, by simpa using hv, opens5 _ _⟩) (fun v hv => by
    obtain rfl : v = _ := by simpa using hv
    rfl)
  have := all_nb (x := []) (y := []) hb (.inl rfl) okNext_nil
  rw [List.nil_append, List.append_nil] at this
  rw [this, flat_cons, flat_nil, flat_tv, Tk.all_nil]; rfl
theorem dec_moreN : ∀ (k u : Nat), 10 ^ k ≤ u → k < (Lib.decDigits u).length
  | 0, u, _ => List.length_pos_iff.2 (Tk.dec_ne u)
  | k + 1, u, h => by
    have hk : 10 ^ (k + 1) = 10 ^ k * 10 := Nat.pow_succ ..
    have hp : 0 < 10 ^ k := Nat.pow_pos (by decide)
    have h10 : ¬ u < 10 := by omega
    unfold Lib.decDigits
    rw [dif_neg h10, List.length_append, List.length_singleton]
    have := dec_moreN k (u / 10) (by omega)
    omega
theorem nthM_nthU {a b : Int} (hb : -20000 ≤ b) : nthM (nthUV a b) = if few a ∧ few b then some (a, b) else none := by
  have key : nth (nthUV a b) = if -9999 ≤ b then some (a, b) else none := by
    unfold nth
    rw [trim_all (nthU_flat a b).2]
    unfold nthUV
    by_cases hn : b < 0
    · rw [if_pos hn]
      have e : Lib.itoa b = 45 :: Lib.decDigits b.natAbs := by unfold Lib.itoa; rw [if_pos hn]
      unfold tv
      simp only
      rw [if_pos trivial]
      unfold nth1
      rw [if_neg (by simp), if_pos rfl, if_neg (by simp), if_neg (by rw [e]; simp)]
      rw [e]
      have ht : (110 :: 45 :: Lib.decDigits b.natAbs : List UInt8).take 2 = [110, 45] := rfl
      have hdr : (110 :: 45 :: Lib.decDigits b.natAbs : List UInt8).drop 2 = Lib.decDigits b.natAbs := rfl
      simp only [ht, hdr, List.length_cons]
      by_cases h9 : -9999 ≤ b
      · have hd := digits_dec (u := b.natAbs) (by omega)
        have hl := dec_len (u := b.natAbs) (by omega)
        rw [hd, if_pos ⟨by omega, trivial, by omega⟩, if_pos h9]
        congr 2
        omega
      · have e4 : (10 : Nat) ^ 4 = 10000 := by decide
        have hm := dec_moreN 4 b.natAbs (by rw [e4]; omega)
        have hdg : digits (Lib.decDigits b.natAbs) = -1 := by
          unfold digits
          rw [if_pos (.inr hm)]
        rw [hdg, if_neg (fun h => absurd h.2.2 (by decide)), if_neg h9]
    · rw [if_neg hn]
      by_cases hp : 0 < b
      · rw [if_pos hp]
        unfold tv dv tv
        simp only
        rw [if_pos ⟨trivial, trivial, trivial, rfl, trivial, trivial, trivial, by omega⟩, if_pos (by omega)]
      · rw [if_neg hp]
        obtain rfl : b = 0 := by omega
        unfold tv
        simp only
        rw [if_pos trivial, if_pos (by decide)]
        rfl
  unfold nthM
  rw [key]
  by_cases h9 : -9999 ≤ b
  · rw [if_pos h9]
  · rw [if_neg h9, if_neg (fun h => h9 h.2.1)]
theorem nthM_numb (b : Int) : nthM [tv ⟨5, [], b⟩] = if few b then some (0, b) else none := by
  have key : nth [tv ⟨5, [], b⟩] = some (0, b) := by
    unfold nth
    rw [trim_all (fun v hv => by
      obtain rfl : v = _ := by simpa using hv
      rfl)]
    rfl
  unfold nthM
  rw [key]
  simp only
  have h0 : few 0 := by decide
  by_cases h : few b
  · rw [if_pos ⟨h0, h⟩, if_pos h]
  · rw [if_neg (fun x => h x.2), if_neg h]
end Sl
end Go.Abs
namespace Go.Abs
namespace Sl
open Tk (isName sep within digit begins at0 all)
theorem sign_inv {s : List UInt8} {l r : List Val} (h : sign s l = some r) : ∃ v, l = v :: r ∧ isSign s v = true := by
  cases l with
  | nil => cases h
  | cons v m =>
    have h' : (if isSign s v then some m else none) = some r := h
    split at h'
    · rename_i hv
      cases h'
      exact ⟨v, rfl, hv⟩
    · cases h'
end Sl
end Go.Abs
namespace Go.Abs
namespace Sl
def numP (l : List Val) : Option (Int × List Val) := match tokK 5 l with
  | some t => if t.text = [] then some (t.n, l.tail) else none
  | none => none
def namedP (s : List UInt8) : Option (Int × Int) := if s = [111, 100, 100] then some (2, 1) else if s = [101, 118, 101, 110] then some (2, 0) else if s = [110] then some (1, 0) else none
def lessP (s : List UInt8) : Option Int := if s.take 2 = [110, 45] ∧ 0 ≤ digits (s.drop 2) then some (-digits (s.drop 2)) else none
def nthP (l : List Val) : Option ((Int × Int) × List Val) :=
  match tokK 1 l with
  | some t => (namedP t.text).map fun x => (x, l.tail)
  | none =>
  match tokK 5 l with
  | none => none
  | some t =>
    if t.text = [] then some ((0, t.n), l.tail)
    else if t.text = [110] then
      (match sign [43] l.tail with
       | some r => (match numP r with
         | some (b, m) => if 0 ≤ b then some ((t.n, b), m) else none
         | none => none)
       | none => some ((t.n, 0), l.tail))
    else (lessP t.text).map fun b => ((t.n, b), l.tail)
def wholeP {α : Type} (f : List Val → Option (α × List Val)) (l : List Val) : Option α := match f (trim l) with
  | some (x, []) => some x
  | _ => none
theorem digits_pos {s : List UInt8} (h : 0 ≤ digits s) : 0 < s.length := by
  unfold digits at h
  split at h
  · omega
  · omega
theorem nth_whole (v : List Val) : wholeP nthP v = nth v := by
  unfold wholeP nth
  generalize trim v = l
  match l with
  | [] => rfl
  | [.mk k t c] =>
    unfold nthP tokK nth1 namedP lessP
    simp only [List.tail_cons]
    by_cases hk : k = 1
    · subst hk
      by_cases h1 : t.kind = 1
      · simp only [h1, true_and, if_true, and_self]
        split
        · rename_i x hx
          split at hx
          · cases hx; rename_i e; rw [if_pos e]
          · rename_i e
            rw [if_neg e]
            split at hx
            · cases hx; rename_i e; rw [if_pos e]
            · rename_i e
              rw [if_neg e]
              split at hx
              · cases hx; rename_i e; rw [if_pos e]
              · cases hx
        · rename_i hx
          split at hx
          · exact absurd rfl (hx _)
          · rename_i e
            rw [if_neg e]
            split at hx
            · exact absurd rfl (hx _)
            · rename_i e
              rw [if_neg e]
              split at hx
              · exact absurd rfl (hx _)
              · rename_i e
                rw [if_neg e]
      · simp only [h1, and_false, if_false, true_and]
        by_cases h5 : t.kind = 5
        · simp only [h5, if_true]
          by_cases ht : t.text = []
          · simp only [ht, if_true]
          · simp only [ht, if_false]
            by_cases hn : t.text = [110]
            · simp only [hn, if_true]
              rfl
            · simp only [hn, if_false]
              by_cases hl : t.text.take 2 = [110, 45] ∧ 0 ≤ digits (t.text.drop 2)
              · have h3 := digits_pos hl.2
                rw [List.length_drop] at h3
                rw [if_pos hl, if_pos ⟨by omega, hl⟩]
                rfl
              · rw [if_neg hl, if_neg fun h => hl h.2]
                rfl
        · simp [h5]
    · simp [hk]
  | [.mk k t c, s] =>
    unfold nthP tokK namedP lessP
    simp only [List.tail_cons]
    by_cases hk : k = 1
    · subst hk
      by_cases h1 : t.kind = 1
      · simp only [h1, and_self, if_true]
        split
        · rename_i x hx
          rw [Option.map_eq_some_iff] at hx
          obtain ⟨y, _, e⟩ := hx
          cases e
        · rfl
      · simp only [h1, and_false, if_false, true_and]
        by_cases h5 : t.kind = 5
        · simp only [h5, if_true]
          by_cases ht : t.text = []
          · simp only [ht, if_true]
          · simp only [ht, if_false]
            by_cases hn : t.text = [110]
            · simp only [hn, if_true, sign]
              cases hs : isSign [43] s
              · simp
              · simp [numP, tokK]
            · simp only [hn, if_false]
              split
              · rename_i x hx
                rw [Option.map_eq_some_iff] at hx
                obtain ⟨y, _, e⟩ := hx
                cases e
              · rfl
        · simp [h5]
    · simp [hk]
  | [.mk k t c, s, .mk k' u c'] =>
    unfold nthP tokK namedP lessP
    simp only [List.tail_cons]
    by_cases hk : k = 1
    · subst hk
      by_cases h1 : t.kind = 1
      · have h15 : ((1 : Int) = 5) = False := by simp
        simp only [h1, h15, and_self, if_true, false_and, and_false, if_false]
        split
        · rename_i x hx
          rw [Option.map_eq_some_iff] at hx
          obtain ⟨y, _, e⟩ := hx
          cases e
        · rfl
      · simp only [h1, and_false, if_false, true_and]
        by_cases h5 : t.kind = 5
        · simp only [h5, if_true, true_and]
          by_cases ht : t.text = []
          · simp [ht]
          · simp only [ht, if_false]
            by_cases hn : t.text = [110]
            · simp only [hn, if_true, sign, true_and]
              cases hs : isSign [43] s
              · simp
              · simp only [if_true, numP, tokK, true_and, List.tail_cons]
                by_cases hk' : k' = 1 ∧ u.kind = 5
                · rw [if_pos hk']
                  simp only
                  by_cases hu : u.text = []
                  · rw [if_pos hu]
                    simp only
                    by_cases h0 : 0 ≤ u.n
                    · rw [if_pos h0, if_pos ⟨hk'.1, hk'.2, hu, h0⟩]
                    · rw [if_neg h0, if_neg fun h => h0 h.2.2.2]
                  · rw [if_neg hu, if_neg fun h => hu h.2.2.1]
                · rw [if_neg hk', if_neg fun h => hk' ⟨h.1, h.2.1⟩]
            · simp only [hn, if_false, false_and]
              split
              · rename_i x hx
                rw [Option.map_eq_some_iff] at hx
                obtain ⟨y, _, e⟩ := hx
                cases e
              · rfl
        · simp [h5]
    · simp [hk]
  | .mk k t c :: s :: w :: z :: m =>
    unfold nthP tokK namedP lessP
    simp only [List.tail_cons]
    by_cases hk : k = 1
    · subst hk
      by_cases h1 : t.kind = 1
      · simp only [h1, and_self, if_true]
        split
        · rename_i x hx
          rw [Option.map_eq_some_iff] at hx
          obtain ⟨y, _, e⟩ := hx
          cases e
        · rfl
      · simp only [h1, and_false, if_false, true_and]
        by_cases h5 : t.kind = 5
        · simp only [h5, if_true]
          by_cases ht : t.text = []
          · simp only [ht, if_true]
          · simp only [ht, if_false]
            by_cases hn : t.text = [110]
            · simp only [hn, if_true, sign]
              cases hs : isSign [43] s
              · simp
              · simp only [if_true]
                split
                · rename_i x hx
                  split at hx
                  · rename_i b q hq
                    split at hx
                    · cases hx
                      unfold numP at hq
                      split at hq
                      · split at hq
                        · cases hq
                        · cases hq
                      · cases hq
                    · cases hx
                  · cases hx
                · rfl
            · simp only [hn, if_false]
              split
              · rename_i x hx
                rw [Option.map_eq_some_iff] at hx
                obtain ⟨y, _, e⟩ := hx
                cases e
              · rfl
        · simp [h5]
    · simp [hk]
end Sl
end Go.Abs
namespace Go.Abs
namespace Sl
def digitT : List UInt8 := [48, 49, 50, 51, 52, 53, 54, 55, 56, 57]
theorem digitT_has (c : UInt8) : digitT.contains c = Tk.digit c := by
  have h : ∀ n ∈ List.range 256, digitT.contains (UInt8.ofNat n) = Tk.digit (UInt8.ofNat n) := by decide +kernel
  have := h c.toNat (List.mem_range.2 c.toNat_lt)
  rwa [UInt8.ofNat_toNat] at this
theorem drop_all {p : UInt8 → Bool} {l : List UInt8} : l.dropWhile p = [] ↔ l.all p = true := by
  induction l with
  | nil => simp
  | cons c l ih =>
    rw [List.dropWhile_cons, List.all_cons]
    split
    · rename_i h; rw [h, Bool.true_and]; exact ih
    · rename_i h; simp [h]
theorem trim_digits (s : List UInt8) : (Lib.trimS s digitT == []) = s.all Tk.digit := by
  have hf : (fun c => digitT.contains c) = Tk.digit := funext digitT_has
  unfold Lib.trimS Lib.trimLeftS Lib.trimRightS
  rw [hf, Bool.eq_iff_iff, beq_iff_eq, drop_all, List.all_reverse]
  constructor
  · intro h
    rw [List.all_eq_true] at h ⊢
    have h2 : s.reverse.dropWhile Tk.digit = [] := by
      cases hd : s.reverse.dropWhile Tk.digit with
      | nil => rfl
      | cons c r =>
        have hc := h c (by rw [hd]; simp)
        have : ¬ (Tk.digit c = true) := by
          have := List.head?_dropWhile_not Tk.digit s.reverse
          rw [hd] at this
          simpa using this
        exact absurd hc this
    rw [drop_all, List.all_reverse, List.all_eq_true] at h2
    exact h2
  · intro h
    have : s.reverse.dropWhile Tk.digit = [] := by rw [drop_all, List.all_reverse]; exact h
    rw [this]; rfl
theorem decFrom_fold : ∀ (s : List UInt8) (n : Nat), s.all Tk.digit = true → ∃ m : Nat, Lib.decFrom n s = some m ∧ (m : Int) = s.foldl (fun n c => 10 * n + ((c.toNat : Int) - 48)) (n : Int)
  | [], n, _ => ⟨n, rfl, rfl⟩
  | c :: s, n, h => by
    rw [List.all_cons, Bool.and_eq_true] at h
    obtain ⟨h1, h2⟩ := h
    have hc : 48 ≤ c.toNat ∧ c.toNat ≤ 57 := of_decide_eq_true h1
    have hd : Lib.digitVal c = some (c.toNat - 48) := if_pos hc
    obtain ⟨m, e1, e2⟩ := decFrom_fold s (n * 10 + (c.toNat - 48)) h2
    refine ⟨m, ?_, ?_⟩
    · unfold Lib.decFrom; rw [hd]; exact e1
    · rw [e2, List.foldl_cons]
      congr 1
      omega
theorem atoi_digits {s : List UInt8} (h : s.all Tk.digit = true) (h1 : 1 ≤ s.length) (h4 : s.length ≤ 4) : Lib.atoi s = some (digits s) := by
  obtain ⟨m, e1, e2⟩ := decFrom_fold s 0 h
  have hd : digits s = (m : Int) := by
    unfold digits
    rw [if_neg (by omega), if_pos h, e2]
    rfl
  rw [hd]
  cases s with
  | nil => simp at h1
  | cons c r =>
    rw [List.all_cons, Bool.and_eq_true] at h
    have hc : 48 ≤ c.toNat ∧ c.toNat ≤ 57 := of_decide_eq_true h.1
    have n1 : (c == 45) = false := by
      rw [beq_eq_false_iff_ne]; rintro rfl; exact absurd hc.1 (by decide)
    have n2 : (c == 43) = false := by
      rw [beq_eq_false_iff_ne]; rintro rfl; exact absurd hc.1 (by decide)
    unfold Lib.atoi
    simp only [n1, n2, Bool.false_eq_true, if_false]
    unfold Lib.decNat
    rw [List.isEmpty_cons, if_neg (by simp), e1]
    rfl
theorem digits_none {s : List UInt8} (h : ¬ (s.all Tk.digit = true ∧ 1 ≤ s.length ∧ s.length ≤ 4)) : digits s = -1 := by
  unfold digits
  split
  · rfl
  · split
    · rename_i h1 h2
      exact absurd ⟨h2, by omega, by omega⟩ h
    · rfl
theorem digits_some {s : List UInt8} (h : s.all Tk.digit = true ∧ 1 ≤ s.length ∧ s.length ≤ 4) : 0 ≤ digits s := by
  obtain ⟨m, e1, e2⟩ := decFrom_fold s 0 h.1
  have hd : digits s = (m : Int) := by
    unfold digits
    rw [if_neg (by omega), if_pos h.1, e2]
    rfl
  omega
theorem digits_max {s : List UInt8} : digits s ≤ 9999 := by
  unfold digits
  split
  · omega
  · rename_i h0
    split
    · rename_i h1
      have key : ∀ (r : List UInt8) (n k : Int), r.all Tk.digit = true → n ≤ k → r.foldl (fun n c => 10 * n + ((c.toNat : Int) - 48)) n ≤ k * 10 ^ r.length + (10 ^ r.length - 1) := by
        intro r
        induction r with
        | nil => intro n k _ h; simp; omega
        | cons c r ih =>
          intro n k h hk
          rw [List.all_cons, Bool.and_eq_true] at h
          have hc : 48 ≤ c.toNat ∧ c.toNat ≤ 57 := of_decide_eq_true h.1
          rw [List.foldl_cons]
          refine Int.le_trans (ih _ (10 * k + 9) h.2 (by omega)) ?_
          rw [List.length_cons, Int.pow_succ]
          have : (10 * k + 9) * 10 ^ r.length = k * (10 ^ r.length * 10) + 9 * 10 ^ r.length := by
            rw [Int.add_mul]; congr 1; rw [Int.mul_comm 10 k, Int.mul_assoc, Int.mul_comm 10]
          omega
      have h2 := key s 0 0 h1 (Int.le_refl _)
      have h3 : (10 : Int) ^ s.length ≤ 10000 := by
        have : s.length ≤ 4 := by omega
        match s.length, this with
        | 0, _ => decide
        | 1, _ => decide
        | 2, _ => decide
        | 3, _ => decide
        | 4, _ => decide
      omega
    · omega
end Sl
end Go.Abs
