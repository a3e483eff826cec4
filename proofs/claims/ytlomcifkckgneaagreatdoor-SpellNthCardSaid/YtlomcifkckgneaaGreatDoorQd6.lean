/-
  FACTS ON THE TYPES OF THIS PROGRAM, each by the kernel (printed by a program).
  WHAT THE FUNCTIONS COMPUTE: the smallest; the builder of texts.
  WHAT THE FUNCTIONS COMPUTE: loops; texts of words.
  WHAT THE FUNCTIONS COMPUTE: a token's text; numbers of an nth; simple selectors.
  WHAT THE FUNCTIONS COMPUTE, layer 1: tokens that are the same; lists of them.
  WHAT THE FUNCTIONS COMPUTE, layer 2: blocks' last tokens; values told flat; depth.
  WHAT THE FUNCTIONS COMPUTE, layer 2: are values the same?
  WHAT THE FUNCTIONS COMPUTE, layer 3, the document's answer: blanks, signs; values trimmed, cut by a sign.
  WHAT THE FUNCTIONS COMPUTE, layer 3: values trimmed, cut, joined.
  WHAT THE FUNCTIONS COMPUTE, layer 1: classes of bytes, runs, names.
  WHAT THE FUNCTIONS COMPUTE, layer 1: the scanner's small steps: a name, a token that is laid, a comment, a string.
  Functions as values: what captures nothing, or one variable of whatever cells; texts as the interpreter's data.
  WHAT THE FUNCTIONS COMPUTE, layer 4, the document's reader of selectors: numbers; where a compound one ends; combinators.
  WHAT THE FUNCTIONS COMPUTE, layer 4, the document's reader of selectors: simple selectors.
  WHAT THE FUNCTIONS COMPUTE, layer 4, the document's reader of selectors: an nth; attributes.
  WHAT THE FUNCTIONS COMPUTE, layer 1: the scanner's number.
  DATA OF A TYPE: what reads as a value of a struct, of a slice; what reads as tokens, and as values.
  DATA OF A TYPE: what reads as selectors (as in layer 5's rows, upon the types of layer 3).
-/
import Derived.Test.YtlomcifkckgneaaGreatDoorQd1
import Derived.Test.YtlomcifkckgneaaGreatDoorQd2
import Derived.Test.YtlomcifkckgneaaGreatDoorQd3
import Derived.Test.YtlomcifkckgneaaGreatDoorQd4
import Derived.Test.YtlomcifkckgneaaGreatDoorQd5
set_option linter.unusedSimpArgs false
set_option linter.unusedVariables false
namespace Go.Abs
open Go Go.Proofs
theorem good_10 : K.good 10 = true := by kernel_rfl
theorem good_11 : K.good 11 = true := by kernel_rfl
theorem good_12 : K.good 12 = true := by kernel_rfl
theorem good_13 : K.good 13 = true := by kernel_rfl
theorem good_32 : K.good 32 = true := by kernel_rfl
theorem good_33 : K.good 33 = true := by kernel_rfl
theorem good_34 : K.good 34 = true := by kernel_rfl
theorem good_35 : K.good 35 = true := by kernel_rfl
theorem good_36 : K.good 36 = true := by kernel_rfl
theorem good_37 : K.good 37 = true := by kernel_rfl
theorem good_39 : K.good 39 = true := by kernel_rfl
theorem good_40 : K.good 40 = true := by kernel_rfl
theorem good_41 : K.good 41 = true := by kernel_rfl
theorem good_64 : K.good 64 = true := by kernel_rfl
theorem good_65 : K.good 65 = true := by kernel_rfl
theorem good_66 : K.good 66 = true := by kernel_rfl
theorem good_67 : K.good 67 = true := by kernel_rfl
theorem good_68 : K.good 68 = true := by kernel_rfl
theorem good_71 : K.good 71 = true := by kernel_rfl
theorem good_72 : K.good 72 = true := by kernel_rfl
theorem good_73 : K.good 73 = true := by kernel_rfl
theorem good_74 : K.good 74 = true := by kernel_rfl
theorem good_75 : K.good 75 = true := by kernel_rfl
theorem good_76 : K.good 76 = true := by kernel_rfl
theorem good_77 : K.good 77 = true := by kernel_rfl
theorem good_78 : K.good 78 = true := by kernel_rfl
theorem good_79 : K.good 79 = true := by kernel_rfl
theorem good_80 : K.good 80 = true := by kernel_rfl
theorem good_106 : K.good 106 = true := by kernel_rfl
theorem good_113 : K.good 113 = true := by kernel_rfl
theorem good_114 : K.good 114 = true := by kernel_rfl
theorem good_115 : K.good 115 = true := by kernel_rfl
theorem good_116 : K.good 116 = true := by kernel_rfl
theorem good_117 : K.good 117 = true := by kernel_rfl
theorem good_118 : K.good 118 = true := by kernel_rfl
theorem good_119 : K.good 119 = true := by kernel_rfl
theorem good_120 : K.good 120 = true := by kernel_rfl
theorem good_121 : K.good 121 = true := by kernel_rfl
theorem good_123 : K.good 123 = true := by kernel_rfl
theorem good_124 : K.good 124 = true := by kernel_rfl
theorem good_125 : K.good 125 = true := by kernel_rfl
theorem good_151 : K.good 151 = true := by kernel_rfl
theorem good_157 : K.good 157 = true := by kernel_rfl
theorem good_160 : K.good 160 = true := by kernel_rfl
theorem keep_33_3 : keepF 33 3 = ([0, 3, 4], []) := by kernel_rfl
theorem keep_35_1 : keepF 35 1 = ([0, 8, 9, 10], [100000]) := by kernel_rfl
theorem keep_65_5 : keepF 65 5 = ([0, 4, 6], [4]) := by kernel_rfl
theorem keep_34_2 : keepF 34 2 = ([0, 3, 4], []) := by kernel_rfl
theorem keep_34_4 : keepF 34 4 = ([0, 3, 4], []) := by kernel_rfl
theorem keep_115_2 : keepF 115 2 = ([0, 5], []) := by kernel_rfl
theorem keep_117_2 : keepF 117 2 = ([0, 1, 5], []) := by kernel_rfl
theorem keep_118_1 : keepF 118 1 = ([0, 1], []) := by kernel_rfl
theorem keep_120_4 : keepF 120 4 = ([0, 1, 4, 6, 7], [4]) := by kernel_rfl
theorem keep_64_2 : keepF 64 2 = ([0, 2, 3, 8, 9], [8, 9]) := by kernel_rfl
theorem keep_70_1 : keepF 70 1 = ([0], []) := by kernel_rfl
theorem keep_70_3 : keepF 70 3 = ([0], []) := by kernel_rfl
theorem keep_151_2 : keepF 151 2 = ([0, 1, 7, 8], []) := by kernel_rfl
end Go.Abs
namespace Go.Abs
open Go Go.Proofs
abbrev I (n : Int) : AV := .c (.pv (.int .i64 n))
abbrev T (l : List UInt8) : AV := .c (.pv (.str l))
abbrev B (b : Bool) : AV := .c (.pv (.bool b))
abbrev L (l : List (List PV)) : AV := .c (.pv (.sl l))
abbrev P0 : AV := .c (.loc 100000 0)
theorem den_run {f : FuncId} {fn : Func} {x : Code} {nt : Nat} {args : List AV} {bxs : List (List CV)} {r : Res} (hp : prF f = none) (hh : hpF f = none) (hf : Tryz.prog.funcs[f]? = some fn) (hx : fn.body = some x) (hn : fn.ntmps = nt)
    (hl : args.length ≤ nt ∧ nt < LK) (h : (exL K f x (enterSt nt args bxs)).bind (fun r => leave K f fn bxs.length (some r)) = some r) : den K f args bxs = some r := by
  rw [den_eq (K := K) hp hh hf hx, hn, if_pos hl]
  exact h
theorem K_own (f : FuncId) (h : (
  f == 227 ||
  f == 1000000) = false) : K.ownRet f = false := h
theorem K_hook (f i : Nat) : K.hook f i = hookB f i := rfl
theorem K_P : K.P = Tryz.prog := rfl
theorem K_keep (f r : Nat) : K.keep f r = keepF f r := rfl
theorem prim_run {f : FuncId} {F : Prim} {args : List AV} {bxs cs : List (List CV)} {v : AV} (h : prF f = some F) (hF : F args bxs = some (v, cs)) : den K f args bxs = some (.ret v cs) := by
  rw [den_prim (K := K) h, hF]; rfl
set_option maxRecDepth 10000
def bytesC (s : List UInt8) : List (List PV) := s.map fun b => [.int .u8 b.toNat]
inductive BS where
  | fresh
  | live
  | wr (s : List UInt8)
def BS.text : BS → List UInt8
  | .wr s => s
  | _ => []
def BS.cells (k : Nat) : BS → List CV
  | .fresh => [.bld, .nils]
  | .live => [.bld, .own 0 []]
  | .wr s => [.loc k 0, .own 5 (bytesC s)]
def txtLim : Nat := 4294967296
theorem bytesC_append (s t : List UInt8) : bytesC s ++ bytesC t = bytesC (s ++ t) := by simp [bytesC]
theorem bytesC_length (s : List UInt8) : (bytesC s).length = s.length := by simp [bytesC]
theorem lens_bytes (s : List UInt8) : lens 1 (bytesC s) = true := by simp [lens, bytesC]
theorem lens_nil (n : Nat) : lens n [] = true := rfl
theorem bytesC_map (s : List UInt8) : (s.map fun b => [PV.int .u8 b.toNat]) = bytesC s := rfl
theorem copyCheck_den (b : BS) : den K 121 [P0] [b.cells 100000] = some (.ret (.tup []) [match b.cells 100000 with | [_, v] => [.loc 100000 0, v] | _ => []]) := by
  refine prim_run (F := pCopyCheck) rfl ?_
  cases b <;> rfl
theorem WriteString_den (b : BS) (t : List UInt8) (h : (b.text ++ t).length < txtLim) :
    den K 67 [P0, T t] [b.cells 100000] = some (.ret (.tup [.c (.pv (.int .i64 t.length)), .c (.pv .nilifc)]) [BS.cells 100000 (.wr (b.text ++ t))]) := by
  refine den_run rfl rfl Tryz.func67 rfl Tryz.ntmps67 ⟨by simp, by simp [LK]⟩ ?_
  have hr : Tryz.f67.results = #[.tmp 4, .tmp 5] := rfl
  have hcc := copyCheck_den b
  have hl : b.text.length + t.length < appLim := by simpa [appLim, txtLim] using h
  cases b
  all_goals (simp only [BS.cells, BS.text, List.length_nil, Nat.zero_add] at hcc hl ⊢; simp only [exL_seq, exL_region, exL_cond, exL_block, exL_scope, exL_ret, exL_skip, exL_exit, runRegion, runOps, stepOp, guardA, absOp, takeOver, opd, avOf, cvOf, St.degAt, St.put, okPV, okVal, okAV, absBin, intBin, strBin, boolBin, setBoxes, if_true, Bool.false_eq_true, if_false, Option.map_some, Option.map_none, Option.bind_some, Option.bind_none, thenO, outOf, upd, List.toList_toArray, isOwn, steal, appArgs, mvB, fullAt, absFull, inApps, AV.deg, CV.deg, AV.gv, AV.isIter, absNext, some_bne, some_beqN, Nat.reduceLT, reduceIte, reduceCtorEq, Nat.reduceEqDiff, List.length_nil, List.length_cons, apply_ite (Option.map (outOf _)), List.filterMap_cons, List.filterMap_nil, beq_iff_eq, List.getElem?_cons_zero, List.getElem?_cons_succ, Option.getD_some, K_hook, hookB, Nat.reduceBEq, Bool.false_and, Bool.and_false, Bool.and_self, K_P, K_own, absCall, doCall, getBoxes, lend, back, idx, dedup, AV.ren, CV.ren, TV.ren, AV.ptrs, CV.ptrs, zipBox, AV.flat, CV.flat, absLoad, absStore, cellsOfAV, setAt, newBox, markB, bldTypes, absFieldAddr, absField, absExtract, absAssert, noAssert, absMkIface, ifcOf, CV.pv?, content, pushHead, ownT, fillCells, reps, pvs, chunks, enterSt, leave, resOf, resVars, resVar, outBoxes, lentOnly, TV.deg, TV.av, LK, CV.plain, CV.noBld, nilBin, absUn, bound, List.map_cons, List.map_nil, List.all_cons, List.all_nil, List.any_cons, List.any_nil, List.contains_cons, List.contains_nil, List.elem_cons, List.elem_nil, List.cons_append, List.nil_append, List.append_nil, List.flatMap_cons, List.flatMap_nil, List.zip_cons_cons, List.zip_nil_left, List.zip_nil_right, List.take_succ_cons, List.take_zero, List.take_nil, List.drop_succ_cons, List.drop_zero, List.drop_nil, List.isEmpty_nil, List.isEmpty_cons, Bool.and_true, Bool.true_and, Bool.or_true, Bool.true_or, Bool.or_false, Bool.false_or, Bool.not_true, Bool.not_false, Nat.reduceAdd, Nat.reduceSub, Nat.reduceLeDiff, Nat.add_zero, Nat.zero_add, Nat.reduceMul, Option.isNone_none, Option.isNone_some, Option.getD_none, true_and, and_true, not_true_eq_false, not_false_eq_true, decide_true, decide_false, List.toList_toArray, Nat.le_refl, and_self, Bool.not_eq_true, Nat.sub_self, or_true, true_or, Option.some.injEq, List.length_map, List.nil_eq, and_false, false_and, AV.live, CV.live, CV.liveIn, K_keep, firstReg, Option.orElse_some, Option.orElse_none, head, keepSlots, keepBoxes, Int.lt_irrefl, List.length_append, ite_self, memOK, logOps, opKey, lentBoxes, Key.clash, Key.sees, Key.writes, Nat.lt_irrefl, gt_iff_lt, nobox_at, bot_at, false_or, or_false, beq_self_eq_true, Bool.true_beq, Bool.false_beq, good_121, ty_fieldOff_66_1, ty_szOf_64, ty_shapeT_64, ev_append ty_appInfo_64, ev_appNew_str (e := 5) ty_descOf_9 (h8 := ty_isU8_5), ev_len_str ty_descOf_9, hr, hcc, hl, lens_nil, lens_bytes, bytesC_map, bytesC_length, bytesC_append, BS.cells, BS.text])
end Go.Abs
namespace Go.Abs
open Go Go.Proofs
theorem exL_head (f : FuncId) (a : Code) (S : St) : exL K f (.loop a) S = exL K f (.loop a) (head (keepF f ((firstReg a).getD 0)) S) := by
  rw [exL_loop, exL_loop (S := head _ S), K_keep, head_head]
set_option maxRecDepth 10000
attribute [local go_sem] exL_seq exL_region exL_cond exL_block exL_scope exL_ret exL_skip exL_exit runRegion runOps stepOp guardA absOp takeOver opd avOf cvOf St.degAt St.put okPV okVal okAV absBin intBin strBin boolBin setBoxes if_true Bool.false_eq_true if_false Option.map_some Option.map_none Option.bind_some Option.bind_none thenO outOf upd List.toList_toArray isOwn steal appArgs mvB fullAt absFull inApps AV.deg CV.deg AV.gv AV.isIter absNext some_bne some_beqN List.length_nil List.length_cons List.filterMap_cons List.filterMap_nil beq_iff_eq List.getElem?_cons_zero List.getElem?_cons_succ Option.getD_some K_hook hookB Bool.false_and Bool.and_false Bool.and_self K_P K_own absCall doCall getBoxes lend back idx dedup AV.ren CV.ren TV.ren AV.ptrs CV.ptrs zipBox AV.flat CV.flat absLoad absStore cellsOfAV setAt newBox markB bldTypes absFieldAddr absField absExtract absAssert noAssert absMkIface ifcOf CV.pv? content pushHead ownT fillCells reps pvs chunks enterSt leave resOf resVars resVar outBoxes lentOnly TV.deg TV.av LK CV.plain CV.noBld nilBin absUn bound List.map_cons List.map_nil List.all_cons List.all_nil List.any_cons List.any_nil List.contains_cons List.contains_nil List.elem_cons List.elem_nil List.cons_append List.nil_append List.append_nil List.flatMap_cons List.flatMap_nil List.zip_cons_cons List.zip_nil_left List.zip_nil_right List.take_succ_cons List.take_zero List.take_nil List.drop_succ_cons List.drop_zero List.drop_nil List.isEmpty_nil List.isEmpty_cons Bool.and_true Bool.true_and Bool.or_true Bool.true_or Bool.or_false Bool.false_or Bool.not_true Bool.not_false Nat.add_zero Nat.zero_add Option.isNone_none Option.isNone_some Option.getD_none true_and and_true not_true_eq_false not_false_eq_true decide_true decide_false Nat.le_refl and_self Bool.not_eq_true Nat.sub_self or_true true_or Option.some.injEq List.length_map List.nil_eq and_false false_and AV.live CV.live CV.liveIn K_keep firstReg Option.orElse_some Option.orElse_none head keepSlots keepBoxes Int.lt_irrefl List.length_append ite_self memOK logOps opKey lentBoxes Key.clash Key.sees Key.writes Nat.lt_irrefl gt_iff_lt nobox_at bot_at false_or or_false beq_self_eq_true Bool.true_beq Bool.false_beq
inductive Wd where
  | s (t : List UInt8)
  | n (k : Int)
def Wd.enc : Wd → List PV
  | .s t => [.ifc 9 (.str t)]
  | .n k => [.ifc 3 (.int .i64 k)]
def Wd.ok : Wd → Prop
  | .s _ => True
  | .n k => -9223372036854775808 ≤ k ∧ k ≤ 9223372036854775807
def Wd.text : Wd → List UInt8
  | .s t => t
  | .n k => Lib.itoa k
def wordsS (l : List Wd) : List UInt8 := l.flatMap Wd.text
theorem itoa_den (n : Int) (h : -9223372036854775808 ≤ n ∧ n ≤ 9223372036854775807) : den K 68 [I n] [] = some (.ret (T (Lib.itoa n)) []) :=
  prim_run (F := pItoa) rfl (by simp [pItoa, h])
def BS.live' : BS → BS
  | .fresh => .live
  | b => b
theorem BS.live_text (b : BS) : b.live'.text = b.text := by cases b <;> rfl
def wordsB (b : BS) : List Wd → BS
  | [] => b.live'
  | l => .wr (b.text ++ wordsS l)
theorem wrap_nat (n : Nat) (h : n < 9223372036854775807) : IntKind.i64.wrap ((n : Int) + 1) = ((n + 1 : Nat) : Int) := by
  rw [IntWalk.i64_in _ (by omega)]; rfl
theorem cells_live (b : BS) (k : Nat) (l : List Nat) (h : l.contains k = true) : (b.cells k).map (CV.live l) = b.live'.cells k := by
  cases b with
  | wr s => simp only [BS.cells, List.map_cons, List.map_nil, CV.live, BS.live', h, if_true]
  | _ => rfl
theorem cells_lend (b : BS) (k : Nat) (l : List Nat) : (b.cells k).map (CV.ren (lend (k :: l))) = b.cells 100000 := by
  cases b with
  | wr s => simp [BS.cells, CV.ren, lend, idx, LK]
  | _ => rfl
theorem cells_back (b : BS) (k : Nat) (l : List Nat) : (b.cells 100000).map (CV.ren (back (k :: l))) = b.cells k := by
  cases b with
  | wr s => simp [BS.cells, CV.ren, back, LK]
  | _ => rfl
theorem cells_lent (b : BS) : (b.cells 100000).map (CV.ren lentOnly) = b.cells 100000 := by
  cases b <;> rfl
theorem drop_cons {α : Type} {l rest : List α} {x : α} {i : Nat} (h : l.drop i = x :: rest) : l[i]? = some x ∧ l.drop (i + 1) = rest ∧ i < l.length := by
  have h1 : l[i]? = some x := by
    have : (l.drop i)[0]? = some x := by rw [h]; rfl
    simpa using this
  refine ⟨h1, ?_, (List.getElem?_eq_some_iff.1 h1).1⟩
  have : (l.drop i).tail = rest := by rw [h]; rfl
  rw [← this, List.tail_drop]
theorem lt_true {a b : Int} (h : a < b) : decide (a < b) = true := decide_eq_true h
abbrev wordsH (b : BS) (l : List Wd) (i : Nat) : St :=
  { sl := upd (upd (upd (upd bot 10 (I i)) 9 (I l.length)) 8 (L (l.map Wd.enc))) 0 P0, bx := upd nobox 100000 (some (b.cells 100000)), nt := 33 }
theorem wordsB_cons (b : BS) (x : Wd) (rest : List Wd) : wordsB (.wr (b.text ++ x.text)) rest = wordsB b (x :: rest) := by
  cases rest with
  | nil => simp [wordsB, BS.live', wordsS]
  | cons y r => simp [wordsB, BS.text, wordsS]
theorem words_loop (all : List Wd) : ∀ (rest : List Wd) (i : Nat) (b : BS), all.drop i = rest → (∀ x ∈ rest, x.ok) → (b.text ++ wordsS rest).length < txtLim → b.live' = b → i ≤ all.length → all.length < 1000000 →
    exL K 35 (.loop (loopAt Tryz.f35 1)) (wordsH b all i) =
      some (.exit 0, { sl := upd (upd (upd (upd (upd bot 10 (I all.length)) 9 (I all.length)) 8 (L (all.map Wd.enc))) 0 P0) 11 (B false), bx := upd nobox 100000 (some ((wordsB b rest).cells 100000)), nt := 33 })
  | [], i, b, hd, hok, hlen, hb, hi, hal => by
    have hin : i = all.length := by
      have := List.drop_eq_nil_iff.1 hd
      omega
    subst hin
    conv in loopAt _ _ => whnf
    rw [exL_loop]
    simp only [go_sem, Nat.reduceLT, reduceIte, reduceCtorEq, Nat.reduceEqDiff, apply_ite (Option.map (outOf _)), Nat.reduceBEq, Nat.reduceAdd, Nat.reduceSub, Nat.reduceLeDiff, Nat.reduceMul, ev_len_sl ty_descOf_108, ev_indexAddr ty_descOf_108, ty_szOf_20, ty_shapeT_20, ty_concreteT_9, ty_tvZero_9, ty_fieldOff_68_0, ty_szOf_66, good_67, ty_concreteT_3, ty_tvZero_3, good_68, keep_35_1, cells_live, hb, wordsB]
  | x :: rest, i, b, hd, hok, hlen, hb, hi, hal => by
    obtain ⟨h1, h2, h3⟩ := drop_cons hd
    have hx := hok x (by simp)
    have ih := fun b => words_loop all rest (i + 1) b h2 (fun y hy => hok y (by simp [hy]))
    conv in loopAt _ _ => whnf
    rw [exL_loop]
    have hl1 : (b.text ++ x.text).length < txtLim := by simp [wordsS] at hlen ⊢; omega
    have hws := WriteString_den b x.text hl1
    have hget : (all.map Wd.enc)[(i : Int).toNat]? = some x.enc := by simp [h1]
    have hlt : decide ((i : Int) < (all.length : Int)) = true := lt_true (by omega)
    have hnext := ih (.wr (b.text ++ x.text)) (by simpa [BS.text, wordsS] using hlen) rfl (by omega) hal
    rw [← wordsB_cons b x rest]
    conv at hnext in loopAt _ _ => whnf
    cases x with
    | s t =>
      simp only [Wd.text] at hws hnext ⊢
      simp only [go_sem, Nat.reduceLT, reduceIte, reduceCtorEq, Nat.reduceEqDiff, apply_ite (Option.map (outOf _)), Nat.reduceBEq, Nat.reduceAdd, Nat.reduceSub, Nat.reduceLeDiff, Nat.reduceMul, ev_len_sl ty_descOf_108, ev_indexAddr ty_descOf_108, ty_szOf_20, ty_shapeT_20, ty_concreteT_9, ty_tvZero_9, ty_fieldOff_68_0, ty_szOf_66, good_67, ty_concreteT_3, ty_tvZero_3, good_68, keep_35_1, cells_live, cells_lend, cells_back, hb, hlt, hget, Int.natCast_nonneg, Wd.enc, hws, wrap_nat i (by omega)]
      rw [exL_head]
      simp only [go_sem, Nat.reduceLT, reduceIte, reduceCtorEq, Nat.reduceEqDiff, apply_ite (Option.map (outOf _)), Nat.reduceBEq, Nat.reduceAdd, Nat.reduceSub, Nat.reduceLeDiff, Nat.reduceMul, ev_len_sl ty_descOf_108, ev_indexAddr ty_descOf_108, ty_szOf_20, ty_shapeT_20, ty_concreteT_9, ty_tvZero_9, ty_fieldOff_68_0, ty_szOf_66, good_67, ty_concreteT_3, ty_tvZero_3, good_68, keep_35_1, cells_live]
      exact hnext
    | n k =>
      have hit := itoa_den k hx
      simp only [Wd.text] at hws hnext ⊢
      simp only [go_sem, Nat.reduceLT, reduceIte, reduceCtorEq, Nat.reduceEqDiff, apply_ite (Option.map (outOf _)), Nat.reduceBEq, Nat.reduceAdd, Nat.reduceSub, Nat.reduceLeDiff, Nat.reduceMul, ev_len_sl ty_descOf_108, ev_indexAddr ty_descOf_108, ty_szOf_20, ty_shapeT_20, ty_concreteT_9, ty_tvZero_9, ty_fieldOff_68_0, ty_szOf_66, good_67, ty_concreteT_3, ty_tvZero_3, good_68, keep_35_1, cells_live, cells_lend, cells_back, hb, hlt, hget, Int.natCast_nonneg, Wd.enc, hws, hit, wrap_nat i (by omega)]
      rw [exL_head]
      simp only [go_sem, Nat.reduceLT, reduceIte, reduceCtorEq, Nat.reduceEqDiff, apply_ite (Option.map (outOf _)), Nat.reduceBEq, Nat.reduceAdd, Nat.reduceSub, Nat.reduceLeDiff, Nat.reduceMul, ev_len_sl ty_descOf_108, ev_indexAddr ty_descOf_108, ty_szOf_20, ty_shapeT_20, ty_concreteT_9, ty_tvZero_9, ty_fieldOff_68_0, ty_szOf_66, good_67, ty_concreteT_3, ty_tvZero_3, good_68, keep_35_1, cells_live]
      exact hnext
theorem words_den (l : List Wd) (b : BS) (hok : ∀ x ∈ l, x.ok) (hlen : (b.text ++ wordsS l).length < txtLim) (hl : l.length < 1000000) :
    den K 35 [P0, L (l.map Wd.enc)] [b.cells 100000] = some (.ret (.tup []) [(wordsB b l).cells 100000]) := by
  refine den_run rfl rfl Tryz.func35 rfl Tryz.ntmps35 ⟨by simp, by simp [LK]⟩ ?_
  have hr : Tryz.f35.results = #[] := rfl
  have hnext := words_loop l l 0 b.live' rfl hok (by rw [BS.live_text]; exact hlen) (by cases b <;> rfl) (by omega) hl
  conv at hnext in loopAt _ _ => whnf
  have hB : wordsB b.live' l = wordsB b l := by cases b <;> cases l <;> rfl
  rw [hB] at hnext
  simp only [go_sem, Nat.reduceLT, reduceIte, reduceCtorEq, Nat.reduceEqDiff, apply_ite (Option.map (outOf _)), Nat.reduceBEq, Nat.reduceAdd, Nat.reduceSub, Nat.reduceLeDiff, Nat.reduceMul, ev_len_sl ty_descOf_108, ev_indexAddr ty_descOf_108, ty_szOf_20, ty_shapeT_20, ty_concreteT_9, ty_tvZero_9, ty_fieldOff_68_0, ty_szOf_66, good_67, ty_concreteT_3, ty_tvZero_3, good_68, keep_35_1, cells_live]
  rw [exL_head]
  simp only [go_sem, Nat.reduceLT, reduceIte, reduceCtorEq, Nat.reduceEqDiff, apply_ite (Option.map (outOf _)), Nat.reduceBEq, Nat.reduceAdd, Nat.reduceSub, Nat.reduceLeDiff, Nat.reduceMul, ev_len_sl ty_descOf_108, ev_indexAddr ty_descOf_108, ty_szOf_20, ty_shapeT_20, ty_concreteT_9, ty_tvZero_9, ty_fieldOff_68_0, ty_szOf_66, good_67, ty_concreteT_3, ty_tvZero_3, good_68, keep_35_1, cells_live]
  erw [hnext]
  simp only [go_sem, Nat.reduceLT, reduceIte, reduceCtorEq, Nat.reduceEqDiff, apply_ite (Option.map (outOf _)), Nat.reduceBEq, Nat.reduceAdd, Nat.reduceSub, Nat.reduceLeDiff, Nat.reduceMul, ev_len_sl ty_descOf_108, ev_indexAddr ty_descOf_108, ty_szOf_20, ty_shapeT_20, ty_concreteT_9, ty_tvZero_9, ty_fieldOff_68_0, ty_szOf_66, good_67, ty_concreteT_3, ty_tvZero_3, good_68, keep_35_1, cells_live, cells_lent, hr]
end Go.Abs
namespace Go.Abs
open Go Go.Proofs
set_option maxRecDepth 10000
attribute [local go_sem] exL_seq exL_region exL_cond exL_block exL_scope exL_ret exL_skip exL_exit runRegion runOps stepOp guardA absOp takeOver opd avOf cvOf St.degAt St.put okPV okVal okAV absBin intBin strBin boolBin setBoxes if_true Bool.false_eq_true if_false Option.map_some Option.map_none Option.bind_some Option.bind_none thenO outOf upd List.toList_toArray isOwn steal appArgs mvB fullAt absFull inApps AV.deg CV.deg AV.gv AV.isIter absNext some_bne some_beqN List.length_nil List.length_cons List.filterMap_cons List.filterMap_nil beq_iff_eq List.getElem?_cons_zero List.getElem?_cons_succ Option.getD_some K_hook hookB Bool.false_and Bool.and_false Bool.and_self K_P K_own absCall doCall getBoxes lend back idx dedup AV.ren CV.ren TV.ren AV.ptrs CV.ptrs zipBox AV.flat CV.flat absLoad absStore cellsOfAV setAt newBox markB bldTypes absFieldAddr absField absExtract absAssert noAssert absMkIface ifcOf CV.pv? content pushHead ownT fillCells reps pvs chunks enterSt leave resOf resVars resVar outBoxes lentOnly TV.deg TV.av LK CV.plain CV.noBld nilBin absUn bound List.map_cons List.map_nil List.all_cons List.all_nil List.any_cons List.any_nil List.contains_cons List.contains_nil List.elem_cons List.elem_nil List.cons_append List.nil_append List.append_nil List.flatMap_cons List.flatMap_nil List.zip_cons_cons List.zip_nil_left List.zip_nil_right List.take_succ_cons List.take_zero List.take_nil List.drop_succ_cons List.drop_zero List.drop_nil List.isEmpty_nil List.isEmpty_cons Bool.and_true Bool.true_and Bool.or_true Bool.true_or Bool.or_false Bool.false_or Bool.not_true Bool.not_false Nat.add_zero Nat.zero_add Option.isNone_none Option.isNone_some Option.getD_none true_and and_true not_true_eq_false not_false_eq_true decide_true decide_false Nat.le_refl and_self Bool.not_eq_true Nat.sub_self or_true true_or Option.some.injEq List.length_map List.nil_eq and_false false_and AV.live CV.live CV.liveIn K_keep firstReg Option.orElse_some Option.orElse_none head keepSlots keepBoxes Int.lt_irrefl List.length_append ite_self memOK logOps opKey lentBoxes Key.clash Key.sees Key.writes Nat.lt_irrefl gt_iff_lt nobox_at bot_at false_or or_false beq_self_eq_true Bool.true_beq Bool.false_beq
theorem itoa_len {n : Int} (h : I64 n) : (Lib.itoa n).length ≤ 21 := Lib.itoa_length_le n h.1 h.2
theorem String_den (b : BS) (h : b.text.length < txtLim) : den K 36 [P0] [b.cells 100000] = some (.ret (T b.text) [match b with | .wr s => [.loc 100000 0, .pv (.sl (bytesC s))] | .live => [.bld, .pv (.sl [])] | .fresh => [.bld, .nils]]) := by
  refine prim_run (F := pString) rfl ?_
  have hb : ∀ s : List UInt8, bytesIn (bytesC s) = some s := fun s => by
    induction s with
    | nil => rfl
    | cons x s ih =>
      show bytesIn ([PV.int .u8 x.toNat] :: bytesC s) = _
      have hx : (0 : Int) ≤ (x.toNat : Int) ∧ (x.toNat : Int) < 256 := ⟨by omega, by have := x.toNat_lt; omega⟩
      unfold bytesIn
      rw [if_pos hx, ih]
      simp
  cases b with
  | wr s =>
    have hs : s.length < strLim := by simp [BS.text, txtLim] at h; simp [strLim]; omega
    simp [BS.cells, BS.text, pString, LK, hb, hs]
  | live => simp [BS.cells, BS.text, pString, LK, bytesIn, strLim]
  | fresh => rfl
set_option maxHeartbeats 4000000 in
theorem Nth_den (a b : Int) (ha : I64 a) (hb : I64 b) : den K 12 [I a, I b] [] = some (.ret (T (nthS a b)) []) := by
  have la := itoa_len ha
  have lb := itoa_len hb
  refine den_run rfl rfl Tryz.func12 rfl Tryz.ntmps12 ⟨by simp, by simp [LK]⟩ ?_
  have hr : Tryz.f12.results = #[.tmp 4] := rfl
  have w1 := words_den [.n a, .s [110]] .fresh (by simp [Wd.ok]; exact ha) (by simp [wordsS, Wd.text, BS.text, txtLim]; omega) (by simp)
  have w2 := words_den [.n b] .fresh (by simp [Wd.ok]; exact hb) (by simp [wordsS, Wd.text, BS.text, txtLim]; omega) (by simp)
  have w3 := words_den [.n b] (.wr (Lib.itoa a ++ [110])) (by simp [Wd.ok]; exact hb) (by simp [wordsS, Wd.text, BS.text, txtLim]; omega) (by simp)
  have w4 := words_den [.s [43], .n b] (.wr (Lib.itoa a ++ [110])) (by simp [Wd.ok]; exact hb) (by simp [wordsS, Wd.text, BS.text, txtLim]; omega) (by simp)
  have s1 := String_den (.wr (Lib.itoa b)) (by simp [BS.text, txtLim]; omega)
  have s2 := String_den (.wr (Lib.itoa a ++ 110 :: Lib.itoa b)) (by simp [BS.text, txtLim]; omega)
  have s3 := String_den (.wr (Lib.itoa a ++ 110 :: 43 :: Lib.itoa b)) (by simp [BS.text, txtLim]; omega)
  have s4 := String_den (.wr (Lib.itoa a ++ [110])) (by simp [BS.text, txtLim]; omega)
  simp only [Wd.enc, wordsB, wordsS, List.map_cons, List.map_nil, List.flatMap_cons, List.flatMap_nil, Wd.text, List.append_nil, BS.text, List.nil_append, BS.cells, List.append_assoc, List.cons_append] at w1 w2 w3 w4 s1 s2 s3 s4
  unfold nthS
  by_cases h0 : a = 0
  · subst h0
    simp [go_sem, Nat.reduceLT, reduceIte, reduceCtorEq, Nat.reduceEqDiff, apply_ite (Option.map (outOf _)), Nat.reduceBEq, Nat.reduceAdd, Nat.reduceSub, Nat.reduceLeDiff, Nat.reduceMul, ty_zeroCells_68, ty_concreteT_3, ty_concreteT_9, ev_buildSlice (len := 2) ty_descOf_108 ty_szOf_20 ty_zeroCells_20 ⟨rfl, by decide, by decide⟩, good_35, ev_buildSlice (len := 1) ty_descOf_108 ty_szOf_20 ty_zeroCells_20 ⟨rfl, by decide, by decide⟩, ty_fieldOff_68_0, ty_szOf_66, good_36, hr, w2, s1]
  · have e0 : (a != 0) = true := by simp [h0]
    have e1 : (a == 0) = false := by simp [h0]
    by_cases h1 : b < 0
    · simp [go_sem, Nat.reduceLT, reduceIte, reduceCtorEq, Nat.reduceEqDiff, apply_ite (Option.map (outOf _)), Nat.reduceBEq, Nat.reduceAdd, Nat.reduceSub, Nat.reduceLeDiff, Nat.reduceMul, ty_zeroCells_68, ty_concreteT_3, ty_concreteT_9, ev_buildSlice (len := 2) ty_descOf_108 ty_szOf_20 ty_zeroCells_20 ⟨rfl, by decide, by decide⟩, good_35, ev_buildSlice (len := 1) ty_descOf_108 ty_szOf_20 ty_zeroCells_20 ⟨rfl, by decide, by decide⟩, ty_fieldOff_68_0, ty_szOf_66, good_36, hr, w1, w3, s2, h0, e0, e1, h1]
    · by_cases h2 : 0 < b
      · simp [go_sem, Nat.reduceLT, reduceIte, reduceCtorEq, Nat.reduceEqDiff, apply_ite (Option.map (outOf _)), Nat.reduceBEq, Nat.reduceAdd, Nat.reduceSub, Nat.reduceLeDiff, Nat.reduceMul, ty_zeroCells_68, ty_concreteT_3, ty_concreteT_9, ev_buildSlice (len := 2) ty_descOf_108 ty_szOf_20 ty_zeroCells_20 ⟨rfl, by decide, by decide⟩, good_35, ev_buildSlice (len := 1) ty_descOf_108 ty_szOf_20 ty_zeroCells_20 ⟨rfl, by decide, by decide⟩, ty_fieldOff_68_0, ty_szOf_66, good_36, hr, w1, w4, s3, h0, e0, e1, h1, h2]
      · simp [go_sem, Nat.reduceLT, reduceIte, reduceCtorEq, Nat.reduceEqDiff, apply_ite (Option.map (outOf _)), Nat.reduceBEq, Nat.reduceAdd, Nat.reduceSub, Nat.reduceLeDiff, Nat.reduceMul, ty_zeroCells_68, ty_concreteT_3, ty_concreteT_9, ev_buildSlice (len := 2) ty_descOf_108 ty_szOf_20 ty_zeroCells_20 ⟨rfl, by decide, by decide⟩, good_35, ev_buildSlice (len := 1) ty_descOf_108 ty_szOf_20 ty_zeroCells_20 ⟨rfl, by decide, by decide⟩, ty_fieldOff_68_0, ty_szOf_66, good_36, hr, w1, s4, h0, e0, e1, h1, h2]
end Go.Abs
namespace Go.Abs
open Go Go.Proofs
set_option maxRecDepth 10000
attribute [local go_sem] exL_seq exL_region exL_cond exL_block exL_scope exL_ret exL_skip exL_exit runRegion runOps stepOp guardA absOp takeOver opd avOf cvOf St.degAt St.put okPV okVal okAV absBin intBin strBin boolBin setBoxes if_true Bool.false_eq_true if_false Option.map_some Option.map_none Option.bind_some Option.bind_none thenO outOf upd List.toList_toArray isOwn steal appArgs mvB fullAt absFull inApps AV.deg CV.deg AV.gv AV.isIter absNext some_bne some_beqN List.length_nil List.length_cons List.filterMap_cons List.filterMap_nil beq_iff_eq List.getElem?_cons_zero List.getElem?_cons_succ Option.getD_some K_hook hookB Bool.false_and Bool.and_false Bool.and_self K_P K_own absCall doCall getBoxes lend back idx dedup AV.ren CV.ren TV.ren AV.ptrs CV.ptrs zipBox AV.flat CV.flat absLoad absStore cellsOfAV setAt newBox markB bldTypes absFieldAddr absField absExtract absAssert noAssert absMkIface ifcOf CV.pv? content pushHead ownT fillCells reps pvs chunks enterSt leave resOf resVars resVar outBoxes lentOnly TV.deg TV.av LK CV.plain CV.noBld nilBin absUn bound List.map_cons List.map_nil List.all_cons List.all_nil List.any_cons List.any_nil List.contains_cons List.contains_nil List.elem_cons List.elem_nil List.cons_append List.nil_append List.append_nil List.flatMap_cons List.flatMap_nil List.zip_cons_cons List.zip_nil_left List.zip_nil_right List.take_succ_cons List.take_zero List.take_nil List.drop_succ_cons List.drop_zero List.drop_nil List.isEmpty_nil List.isEmpty_cons Bool.and_true Bool.true_and Bool.or_true Bool.true_or Bool.or_false Bool.false_or Bool.not_true Bool.not_false Nat.add_zero Nat.zero_add Option.isNone_none Option.isNone_some Option.getD_none true_and and_true not_true_eq_false not_false_eq_true decide_true decide_false Nat.le_refl and_self Bool.not_eq_true Nat.sub_self or_true true_or Option.some.injEq List.length_map List.nil_eq and_false false_and AV.live CV.live CV.liveIn K_keep firstReg Option.orElse_some Option.orElse_none head keepSlots keepBoxes Int.lt_irrefl List.length_append ite_self memOK logOps opKey lentBoxes Key.clash Key.sees Key.writes Nat.lt_irrefl gt_iff_lt nobox_at bot_at false_or or_false beq_self_eq_true Bool.true_beq Bool.false_beq
theorem tok_beq (a b : Tok) : ((a.kind == b.kind) && ((a.text == b.text) && ((a.n == b.n) && true))) = decide (a = b) := by
  obtain ⟨k, t, n⟩ := a
  obtain ⟨k', t', n'⟩ := b
  rw [Bool.eq_iff_iff, decide_eq_true_eq]
  simp [Tok.mk.injEq]
end Go.Abs
namespace Go.Abs
open Go Go.Proofs
set_option maxRecDepth 10000
attribute [local go_sem] exL_seq exL_region exL_cond exL_block exL_scope exL_ret exL_skip exL_exit runRegion runOps stepOp guardA absOp takeOver opd avOf cvOf St.degAt St.put okPV okVal okAV absBin intBin strBin boolBin setBoxes if_true Bool.false_eq_true if_false Option.map_some Option.map_none Option.bind_some Option.bind_none thenO outOf upd List.toList_toArray isOwn steal appArgs mvB fullAt absFull inApps AV.deg CV.deg AV.gv AV.isIter absNext some_bne some_beqN List.length_nil List.length_cons List.filterMap_cons List.filterMap_nil beq_iff_eq List.getElem?_cons_zero List.getElem?_cons_succ Option.getD_some K_hook hookB Bool.false_and Bool.and_false Bool.and_self K_P K_own absCall doCall getBoxes lend back idx dedup AV.ren CV.ren TV.ren AV.ptrs CV.ptrs zipBox AV.flat CV.flat absLoad absStore cellsOfAV setAt newBox markB bldTypes absFieldAddr absField absExtract absAssert noAssert absMkIface ifcOf CV.pv? content pushHead ownT fillCells reps pvs chunks enterSt leave resOf resVars resVar outBoxes lentOnly TV.deg TV.av LK CV.plain CV.noBld nilBin absUn bound List.map_cons List.map_nil List.all_cons List.all_nil List.any_cons List.any_nil List.contains_cons List.contains_nil List.elem_cons List.elem_nil List.cons_append List.nil_append List.append_nil List.flatMap_cons List.flatMap_nil List.zip_cons_cons List.zip_nil_left List.zip_nil_right List.take_succ_cons List.take_zero List.take_nil List.drop_succ_cons List.drop_zero List.drop_nil List.isEmpty_nil List.isEmpty_cons Bool.and_true Bool.true_and Bool.or_true Bool.true_or Bool.or_false Bool.false_or Bool.not_true Bool.not_false Nat.add_zero Nat.zero_add Option.isNone_none Option.isNone_some Option.getD_none true_and and_true not_true_eq_false not_false_eq_true decide_true decide_false Nat.le_refl and_self Bool.not_eq_true Nat.sub_self or_true true_or Option.some.injEq List.length_map List.nil_eq and_false false_and AV.live CV.live CV.liveIn K_keep firstReg Option.orElse_some Option.orElse_none head keepSlots keepBoxes Int.lt_irrefl List.length_append ite_self memOK logOps opKey lentBoxes Key.clash Key.sees Key.writes Nat.lt_irrefl gt_iff_lt nobox_at bot_at false_or or_false beq_self_eq_true Bool.true_beq Bool.false_beq
theorem lens_valsK (l : List Val) : lens 5 (encL l) = true := by
  rw [encL_map]
  simp only [lens, List.all_map, List.all_eq_true, Function.comp_apply, beq_iff_eq]
  intro v _
  exact enc_len v
theorem lens_valK (a b c d e : PV) : lens 5 [[a, b, c, d, e]] = true := rfl
theorem val_at (l : List Val) (i : Nat) (k : Int) (t : Tok) (l' : List Val) (h : l[i]? = some (.mk k t l')) : (encL l)[(i : Int).toNat]? = some [.int .i64 k, .int .i64 t.kind, .str t.text, .int .i64 t.n, .sl (encL l')] := encL_get l i _ h
end Go.Abs
namespace Go.Abs
open Go Go.Proofs
set_option maxRecDepth 10000
attribute [local go_sem] exL_seq exL_region exL_cond exL_block exL_scope exL_ret exL_skip exL_exit runRegion runOps stepOp guardA absOp takeOver opd avOf cvOf St.degAt St.put okPV okVal okAV absBin intBin strBin boolBin setBoxes if_true Bool.false_eq_true if_false Option.map_some Option.map_none Option.bind_some Option.bind_none thenO outOf upd List.toList_toArray isOwn steal appArgs mvB fullAt absFull inApps AV.deg CV.deg AV.gv AV.isIter absNext some_bne some_beqN List.length_nil List.length_cons List.filterMap_cons List.filterMap_nil beq_iff_eq List.getElem?_cons_zero List.getElem?_cons_succ Option.getD_some K_hook hookB Bool.false_and Bool.and_false Bool.and_self K_P K_own absCall doCall getBoxes lend back idx dedup AV.ren CV.ren TV.ren AV.ptrs CV.ptrs zipBox AV.flat CV.flat absLoad absStore cellsOfAV setAt newBox markB bldTypes absFieldAddr absField absExtract absAssert noAssert absMkIface ifcOf CV.pv? content pushHead ownT fillCells reps pvs chunks enterSt leave resOf resVars resVar outBoxes lentOnly TV.deg TV.av LK CV.plain CV.noBld nilBin absUn bound List.map_cons List.map_nil List.all_cons List.all_nil List.any_cons List.any_nil List.contains_cons List.contains_nil List.elem_cons List.elem_nil List.cons_append List.nil_append List.append_nil List.flatMap_cons List.flatMap_nil List.zip_cons_cons List.zip_nil_left List.zip_nil_right List.take_succ_cons List.take_zero List.take_nil List.drop_succ_cons List.drop_zero List.drop_nil List.isEmpty_nil List.isEmpty_cons Bool.and_true Bool.true_and Bool.or_true Bool.true_or Bool.or_false Bool.false_or Bool.not_true Bool.not_false Nat.add_zero Nat.zero_add Option.isNone_none Option.isNone_some Option.getD_none true_and and_true not_true_eq_false not_false_eq_true decide_true decide_false Nat.le_refl and_self Bool.not_eq_true Nat.sub_self or_true true_or Option.some.injEq List.length_map List.nil_eq and_false false_and AV.live CV.live CV.liveIn K_keep firstReg Option.orElse_some Option.orElse_none head keepSlots keepBoxes Int.lt_irrefl List.length_append ite_self memOK logOps opKey lentBoxes Key.clash Key.sees Key.writes Nat.lt_irrefl gt_iff_lt nobox_at bot_at false_or or_false beq_self_eq_true Bool.true_beq Bool.false_beq
abbrev valCv (k : Int) (t : Tok) (l : List Val) : List CV := [.pv (.int .i64 k), .pv (.int .i64 t.kind), .pv (.str t.text), .pv (.int .i64 t.n), .pv (.sl (encL l))]
end Go.Abs
namespace Go.Abs
open Go Go.Proofs
set_option maxRecDepth 10000
attribute [local go_sem] exL_seq exL_region exL_cond exL_block exL_scope exL_ret exL_skip exL_exit runRegion runOps stepOp guardA absOp takeOver opd avOf cvOf St.degAt St.put okPV okVal okAV absBin intBin strBin boolBin setBoxes if_true Bool.false_eq_true if_false Option.map_some Option.map_none Option.bind_some Option.bind_none thenO outOf upd List.toList_toArray isOwn steal appArgs mvB fullAt absFull inApps AV.deg CV.deg AV.gv AV.isIter absNext some_bne some_beqN List.length_nil List.length_cons List.filterMap_cons List.filterMap_nil beq_iff_eq List.getElem?_cons_zero List.getElem?_cons_succ Option.getD_some K_hook hookB Bool.false_and Bool.and_false Bool.and_self K_P K_own absCall doCall getBoxes lend back idx dedup AV.ren CV.ren TV.ren AV.ptrs CV.ptrs zipBox AV.flat CV.flat absLoad absStore cellsOfAV setAt newBox markB bldTypes absFieldAddr absField absExtract absAssert noAssert absMkIface ifcOf CV.pv? content pushHead ownT fillCells reps pvs chunks enterSt leave resOf resVars resVar outBoxes lentOnly TV.deg TV.av LK CV.plain CV.noBld nilBin absUn bound List.map_cons List.map_nil List.all_cons List.all_nil List.any_cons List.any_nil List.contains_cons List.contains_nil List.elem_cons List.elem_nil List.cons_append List.nil_append List.append_nil List.flatMap_cons List.flatMap_nil List.zip_cons_cons List.zip_nil_left List.zip_nil_right List.take_succ_cons List.take_zero List.take_nil List.drop_succ_cons List.drop_zero List.drop_nil List.isEmpty_nil List.isEmpty_cons Bool.and_true Bool.true_and Bool.or_true Bool.true_or Bool.or_false Bool.false_or Bool.not_true Bool.not_false Nat.add_zero Nat.zero_add Option.isNone_none Option.isNone_some Option.getD_none true_and and_true not_true_eq_false not_false_eq_true decide_true decide_false Nat.le_refl and_self Bool.not_eq_true Nat.sub_self or_true true_or Option.some.injEq List.length_map List.nil_eq and_false false_and AV.live CV.live CV.liveIn K_keep firstReg Option.orElse_some Option.orElse_none head keepSlots keepBoxes Int.lt_irrefl List.length_append ite_self memOK logOps opKey lentBoxes Key.clash Key.sees Key.writes Nat.lt_irrefl gt_iff_lt nobox_at bot_at false_or or_false beq_self_eq_true Bool.true_beq Bool.false_beq
theorem blank_den (k : Int) (t : Tok) (l : List Val) : den K 66 [.agg (valCv k t l)] [] = some (.ret (B (Sl.isBlank (.mk k t l))) []) := by
  refine den_run rfl rfl Tryz.func66 rfl Tryz.ntmps66 ⟨by simp, by simp [LK]⟩ ?_
  have hr : Tryz.f66.results = #[.tmp 2] := rfl
  have hs : Sl.isBlank (.mk k t l) = ((k == 1) && (t.kind == 8)) := rfl
  rw [hs]
  cases e1 : (k == 1)
  · simp only [go_sem, Nat.reduceLT, reduceIte, reduceCtorEq, Nat.reduceEqDiff, apply_ite (Option.map (outOf _)), Nat.reduceBEq, Nat.reduceAdd, Nat.reduceSub, Nat.reduceLeDiff, Nat.reduceMul, ty_fieldOff_93_0, ty_szOf_3, ty_shapeT_3, ty_fieldOff_93_1, ty_szOf_91, ty_fieldOff_91_0, hr, e1]
  · simp only [go_sem, Nat.reduceLT, reduceIte, reduceCtorEq, Nat.reduceEqDiff, apply_ite (Option.map (outOf _)), Nat.reduceBEq, Nat.reduceAdd, Nat.reduceSub, Nat.reduceLeDiff, Nat.reduceMul, ty_fieldOff_93_0, ty_szOf_3, ty_shapeT_3, ty_fieldOff_93_1, ty_szOf_91, ty_fieldOff_91_0, hr, e1]
abbrev trimH (l : List Val) (i j : Nat) : St :=
  { sl := upd (upd (upd bot 4 (I j)) 3 (I i)) 0 (L (encL l)), bx := nobox, nt := 38 }
noncomputable def tlp2 : Code := .loop (loopAt Tryz.f34 2)
noncomputable def tlp4 : Code := .loop (loopAt Tryz.f34 4)
theorem trim2_yes (l : List Val) (i : Nat) (hl : l.length ≤ 100000000) (v : Val) (hi : l[i]? = some v) (hb : Sl.isBlank v = true) :
    exL K 34 tlp2 (trimH l i l.length) = exL K 34 tlp2 (trimH l (i + 1) l.length) := by
  obtain ⟨k, t, c⟩ := v
  have hil : i < l.length := (List.getElem?_eq_some_iff.1 hi).1
  have hlt : decide ((i : Int) < (l.length : Int)) = true := decide_eq_true (by omega)
  have hget := val_at l i k t c hi
  have hw : IntKind.i64.wrap ((i : Int) + 1) = ((i + 1 : Nat) : Int) := wrap_nat i (by omega)
  have hd := blank_den k t c
  rw [hb] at hd
  unfold tlp2
  conv in loopAt _ _ => whnf
  conv in loopAt _ _ => whnf
  conv in exL _ _ _ (trimH l i l.length) => rw [exL_loop]
  simp only [go_sem, Nat.reduceLT, reduceIte, reduceCtorEq, Nat.reduceEqDiff, apply_ite (Option.map (outOf _)), Nat.reduceBEq, Nat.reduceAdd, Nat.reduceSub, Nat.reduceLeDiff, Nat.reduceMul, ev_len_sl ty_descOf_23, ev_indexAddr ty_descOf_23, ty_szOf_93, ty_shapeT_93, good_66, ev_buildSlice (len := 0) ty_descOf_23 ty_szOf_93 ty_zeroCells_93 ⟨rfl, by decide, by decide⟩, ev_slice_sl ty_descOf_23 ty_szOf_93, ev_append ty_appInfo_23, ev_appNew_sl ty_descOf_23, keep_34_2, keep_34_4, hlt, hget, Int.natCast_nonneg, hw, hd]
  rw [exL_head]
  simp only [go_sem, Nat.reduceLT, reduceIte, reduceCtorEq, Nat.reduceEqDiff, apply_ite (Option.map (outOf _)), Nat.reduceBEq, Nat.reduceAdd, Nat.reduceSub, Nat.reduceLeDiff, Nat.reduceMul, ev_len_sl ty_descOf_23, ev_indexAddr ty_descOf_23, ty_szOf_93, ty_shapeT_93, good_66, ev_buildSlice (len := 0) ty_descOf_23 ty_szOf_93 ty_zeroCells_93 ⟨rfl, by decide, by decide⟩, ev_slice_sl ty_descOf_23 ty_szOf_93, ev_append ty_appInfo_23, ev_appNew_sl ty_descOf_23, keep_34_2, keep_34_4]
theorem trim2_no (l : List Val) (i : Nat) (hl : l.length ≤ 100000000) (v : Val) (hi : l[i]? = some v) (hb : Sl.isBlank v = false) :
    Ends (exL K 34 tlp2 (trimH l i l.length)) fun o S => o = .exit 0 ∧ S.nt = 38 ∧ S.sl 0 = L (encL l) ∧ S.sl 3 = I i ∧ S.sl 4 = I l.length := by
  obtain ⟨k, t, c⟩ := v
  have hil : i < l.length := (List.getElem?_eq_some_iff.1 hi).1
  have hlt : decide ((i : Int) < (l.length : Int)) = true := decide_eq_true (by omega)
  have hget := val_at l i k t c hi
  have hd := blank_den k t c
  rw [hb] at hd
  unfold tlp2
  conv in loopAt _ _ => whnf
  rw [exL_loop]
  simp only [go_sem, Nat.reduceLT, reduceIte, reduceCtorEq, Nat.reduceEqDiff, apply_ite (Option.map (outOf _)), Nat.reduceBEq, Nat.reduceAdd, Nat.reduceSub, Nat.reduceLeDiff, Nat.reduceMul, ev_len_sl ty_descOf_23, ev_indexAddr ty_descOf_23, ty_szOf_93, ty_shapeT_93, good_66, ev_buildSlice (len := 0) ty_descOf_23 ty_szOf_93 ty_zeroCells_93 ⟨rfl, by decide, by decide⟩, ev_slice_sl ty_descOf_23 ty_szOf_93, ev_append ty_appInfo_23, ev_appNew_sl ty_descOf_23, keep_34_2, keep_34_4, hlt, hget, Int.natCast_nonneg, hd, ends_some]
theorem trim2_end (l : List Val) : Ends (exL K 34 tlp2 (trimH l l.length l.length)) fun o S => o = .exit 0 ∧ S.nt = 38 ∧ S.sl 0 = L (encL l) ∧ S.sl 3 = I l.length ∧ S.sl 4 = I l.length := by
  unfold tlp2
  conv in loopAt _ _ => whnf
  rw [exL_loop]
  simp only [go_sem, Nat.reduceLT, reduceIte, reduceCtorEq, Nat.reduceEqDiff, apply_ite (Option.map (outOf _)), Nat.reduceBEq, Nat.reduceAdd, Nat.reduceSub, Nat.reduceLeDiff, Nat.reduceMul, ev_len_sl ty_descOf_23, ev_indexAddr ty_descOf_23, ty_szOf_93, ty_shapeT_93, good_66, ev_buildSlice (len := 0) ty_descOf_23 ty_szOf_93 ty_zeroCells_93 ⟨rfl, by decide, by decide⟩, ev_slice_sl ty_descOf_23 ty_szOf_93, ev_append ty_appInfo_23, ev_appNew_sl ty_descOf_23, keep_34_2, keep_34_4, ends_some]
theorem trim2_loop (l : List Val) (hl : l.length ≤ 100000000) : ∀ (rest : List Val) (i : Nat), l.drop i = rest → i ≤ l.length →
    Ends (exL K 34 tlp2 (trimH l i l.length)) fun o S => o = .exit 0 ∧ S.nt = 38 ∧ ∃ j : Nat, j ≤ l.length ∧ l.drop j = rest.dropWhile Sl.isBlank ∧ S.sl 0 = L (encL l) ∧ S.sl 3 = I j ∧ S.sl 4 = I l.length
  | [], i, hd, hi => by
    have hin : i = l.length := by
      have := List.drop_eq_nil_iff.1 hd
      omega
    subst hin
    refine ends_imp (trim2_end l) fun o S q => ⟨q.1, q.2.1, l.length, Nat.le_refl _, ?_, q.2.2⟩
    simp
  | v :: rest, i, hd, hi => by
    obtain ⟨g1, g2, g3⟩ := drop_cons hd
    cases hb : Sl.isBlank v with
    | true =>
      rw [trim2_yes l i hl v g1 hb, List.dropWhile_cons, if_pos hb]
      exact trim2_loop l hl rest (i + 1) g2 (by omega)
    | false =>
      refine ends_imp (trim2_no l i hl v g1 hb) fun o S q => ⟨q.1, q.2.1, i, hi, ?_, q.2.2⟩
      rw [hd, List.dropWhile_cons, if_neg (by rw [hb]; simp)]
theorem trim4_yes (l : List Val) (i j : Nat) (hl : l.length ≤ 100000000) (hij : i ≤ j) (v : Val) (hi : l[j]? = some v) (hb : Sl.isBlank v = true) :
    exL K 34 tlp4 (trimH l i (j + 1)) = exL K 34 tlp4 (trimH l i j) := by
  obtain ⟨k, t, c⟩ := v
  have hil : j < l.length := (List.getElem?_eq_some_iff.1 hi).1
  have hlt : decide ((i : Int) < ((j + 1 : Nat) : Int)) = true := decide_eq_true (by omega)
  have hget := val_at l j k t c hi
  have hw : IntKind.i64.wrap (((j + 1 : Nat) : Int) - 1) = (j : Int) := by rw [IntWalk.i64_in _ (by omega)]; omega
  have hd := blank_den k t c
  rw [hb] at hd
  unfold tlp4
  conv in loopAt _ _ => whnf
  conv in loopAt _ _ => whnf
  conv in exL _ _ _ (trimH l i (j + 1)) => rw [exL_loop]
  simp only [go_sem, Nat.reduceLT, reduceIte, reduceCtorEq, Nat.reduceEqDiff, apply_ite (Option.map (outOf _)), Nat.reduceBEq, Nat.reduceAdd, Nat.reduceSub, Nat.reduceLeDiff, Nat.reduceMul, ev_len_sl ty_descOf_23, ev_indexAddr ty_descOf_23, ty_szOf_93, ty_shapeT_93, good_66, ev_buildSlice (len := 0) ty_descOf_23 ty_szOf_93 ty_zeroCells_93 ⟨rfl, by decide, by decide⟩, ev_slice_sl ty_descOf_23 ty_szOf_93, ev_append ty_appInfo_23, ev_appNew_sl ty_descOf_23, keep_34_2, keep_34_4, hlt, hget, Int.natCast_nonneg, hw, hd]
  rw [exL_head]
  simp only [go_sem, Nat.reduceLT, reduceIte, reduceCtorEq, Nat.reduceEqDiff, apply_ite (Option.map (outOf _)), Nat.reduceBEq, Nat.reduceAdd, Nat.reduceSub, Nat.reduceLeDiff, Nat.reduceMul, ev_len_sl ty_descOf_23, ev_indexAddr ty_descOf_23, ty_szOf_93, ty_shapeT_93, good_66, ev_buildSlice (len := 0) ty_descOf_23 ty_szOf_93 ty_zeroCells_93 ⟨rfl, by decide, by decide⟩, ev_slice_sl ty_descOf_23 ty_szOf_93, ev_append ty_appInfo_23, ev_appNew_sl ty_descOf_23, keep_34_2, keep_34_4]
theorem trim4_no (l : List Val) (i j : Nat) (hl : l.length ≤ 100000000) (hij : i ≤ j) (v : Val) (hi : l[j]? = some v) (hb : Sl.isBlank v = false) :
    Ends (exL K 34 tlp4 (trimH l i (j + 1))) fun o S => o = .exit 2 ∧ S.nt = 38 ∧ S.sl 0 = L (encL l) ∧ S.sl 3 = I i ∧ S.sl 4 = I ((j + 1 : Nat) : Int) := by
  obtain ⟨k, t, c⟩ := v
  have hil : j < l.length := (List.getElem?_eq_some_iff.1 hi).1
  have hlt : decide ((i : Int) < ((j + 1 : Nat) : Int)) = true := decide_eq_true (by omega)
  have hget := val_at l j k t c hi
  have hw : IntKind.i64.wrap (((j + 1 : Nat) : Int) - 1) = (j : Int) := by rw [IntWalk.i64_in _ (by omega)]; omega
  have hd := blank_den k t c
  rw [hb] at hd
  unfold tlp4
  conv in loopAt _ _ => whnf
  rw [exL_loop]
  simp only [go_sem, Nat.reduceLT, reduceIte, reduceCtorEq, Nat.reduceEqDiff, apply_ite (Option.map (outOf _)), Nat.reduceBEq, Nat.reduceAdd, Nat.reduceSub, Nat.reduceLeDiff, Nat.reduceMul, ev_len_sl ty_descOf_23, ev_indexAddr ty_descOf_23, ty_szOf_93, ty_shapeT_93, good_66, ev_buildSlice (len := 0) ty_descOf_23 ty_szOf_93 ty_zeroCells_93 ⟨rfl, by decide, by decide⟩, ev_slice_sl ty_descOf_23 ty_szOf_93, ev_append ty_appInfo_23, ev_appNew_sl ty_descOf_23, keep_34_2, keep_34_4, hlt, hget, Int.natCast_nonneg, hw, hd, ends_some]
theorem trim4_end (l : List Val) (i : Nat) : Ends (exL K 34 tlp4 (trimH l i i)) fun o S => o = .exit 2 ∧ S.nt = 38 ∧ S.sl 0 = L (encL l) ∧ S.sl 3 = I i ∧ S.sl 4 = I i := by
  unfold tlp4
  conv in loopAt _ _ => whnf
  rw [exL_loop]
  simp only [go_sem, Nat.reduceLT, reduceIte, reduceCtorEq, Nat.reduceEqDiff, apply_ite (Option.map (outOf _)), Nat.reduceBEq, Nat.reduceAdd, Nat.reduceSub, Nat.reduceLeDiff, Nat.reduceMul, ev_len_sl ty_descOf_23, ev_indexAddr ty_descOf_23, ty_szOf_93, ty_shapeT_93, good_66, ev_buildSlice (len := 0) ty_descOf_23 ty_szOf_93 ty_zeroCells_93 ⟨rfl, by decide, by decide⟩, ev_slice_sl ty_descOf_23 ty_szOf_93, ev_append ty_appInfo_23, ev_appNew_sl ty_descOf_23, keep_34_2, keep_34_4, ends_some]
theorem trim4_loop (l : List Val) (hl : l.length ≤ 100000000) (i : Nat) : ∀ (m j : Nat), j = i + m → j ≤ l.length →
    Ends (exL K 34 tlp4 (trimH l i j)) fun o S => o = .exit 2 ∧ S.nt = 38 ∧ ∃ e : Nat, i ≤ e ∧ e ≤ l.length ∧ (l.take e).drop i = (((l.take j).drop i).reverse.dropWhile Sl.isBlank).reverse ∧ S.sl 0 = L (encL l) ∧ S.sl 3 = I i ∧ S.sl 4 = I e
  | 0, j, hj, hjl => by
    obtain rfl : j = i := by omega
    refine ends_imp (trim4_end l j) fun o S q => ⟨q.1, q.2.1, j, Nat.le_refl _, hjl, ?_, q.2.2⟩
    have : (l.take j).drop j = [] := by rw [List.drop_eq_nil_iff, List.length_take]; omega
    rw [this]; rfl
  | m + 1, j, hj, hjl => by
    obtain rfl : j = (i + m) + 1 := by omega
    have hlt : i + m < l.length := by omega
    have hg : l[i + m]? = some l[i + m] := List.getElem?_eq_getElem hlt
    have htk : (l.take (i + m + 1)).drop i = (l.take (i + m)).drop i ++ [l[i + m]] := by
      rw [List.take_add_one, hg, Option.toList_some, List.drop_append_of_le_length (by rw [List.length_take]; omega)]
    generalize hv : l[i + m] = v at hg htk
    cases hb : Sl.isBlank v with
    | true =>
      rw [trim4_yes l i (i + m) hl (by omega) v hg hb]
      refine ends_imp (trim4_loop l hl i m (i + m) rfl (by omega)) fun o S q => ?_
      obtain ⟨q1, q2, e, q3, q4, q5, q6⟩ := q
      refine ⟨q1, q2, e, q3, q4, ?_, q6⟩
      rw [q5, htk, List.reverse_append, List.reverse_singleton, List.singleton_append, List.dropWhile_cons, if_pos hb]
    | false =>
      refine ends_imp (trim4_no l i (i + m) hl (by omega) v hg hb) fun o S q => ⟨q.1, q.2.1, i + m + 1, by omega, hjl, ?_, q.2.2⟩
      rw [htk, List.reverse_append, List.reverse_singleton, List.singleton_append, List.dropWhile_cons, if_neg (by rw [hb]; simp), List.reverse_cons, List.reverse_reverse]
theorem encL_cut (l : List Val) (a b : Nat) : ((encL l).take a).drop b = encL ((l.take a).drop b) := by
  rw [encL_map, encL_map, List.map_drop, List.map_take]
theorem Sl.trim_len (l : List Val) : (Sl.trim l).length ≤ l.length := by
  unfold Sl.trim
  rw [List.length_reverse]
  have h1 := (List.dropWhile_sublist Sl.isBlank (l := (l.dropWhile Sl.isBlank).reverse)).length_le
  have h2 := (List.dropWhile_sublist Sl.isBlank (l := l)).length_le
  rw [List.length_reverse] at h1
  omega
theorem Trim_den (l : List Val) (hl : l.length ≤ 100000000) : den K 34 [L (encL l)] [] = some (.ret (L (encL (Sl.trim l))) []) := by
  have h2 := trim2_loop l hl l 0 rfl (Nat.zero_le _)
  unfold tlp2 at h2
  conv at h2 in loopAt _ _ => whnf
  obtain ⟨o, S, w, rfl, hn, j, hj, hjd, s0, s3, s4⟩ := h2
  have h4 := trim4_loop l hl j (l.length - j) l.length (by omega) (Nat.le_refl _)
  unfold tlp4 at h4
  conv at h4 in loopAt _ _ => whnf
  obtain ⟨o', S', w', rfl, hn', e, he1, he2, hed, s0', s3', s4'⟩ := h4
  have hres : (l.take e).drop j = Sl.trim l := by
    rw [hed, List.take_length, hjd]; rfl
  have hlen : (Sl.trim l).length < appLim := by
    have : (Sl.trim l).length ≤ l.length := by rw [← hres, List.length_drop, List.length_take]; omega
    unfold appLim; omega
  have hlv := lens_valsK l
  have hlv2 := lens_valsK (Sl.trim l)
  have hb1 : ((0 : Int) ≤ (e : Int) ∧ (e : Int) ≤ (l.length : Int)) = True := by rw [eq_iff_iff]; simp; omega
  have hb2 : ((0 : Int) ≤ (j : Int) ∧ (j : Int) ≤ (e : Int)) = True := by rw [eq_iff_iff]; simp; omega
  refine den_run rfl rfl Tryz.func34 rfl Tryz.ntmps34 ⟨by simp, by simp [LK]⟩ ?_
  have hr : Tryz.f34.results = #[.tmp 2] := rfl
  simp only [go_sem, Nat.reduceLT, reduceIte, reduceCtorEq, Nat.reduceEqDiff, apply_ite (Option.map (outOf _)), Nat.reduceBEq, Nat.reduceAdd, Nat.reduceSub, Nat.reduceLeDiff, Nat.reduceMul, ev_len_sl ty_descOf_23, ev_indexAddr ty_descOf_23, ty_szOf_93, ty_shapeT_93, good_66, ev_buildSlice (len := 0) ty_descOf_23 ty_szOf_93 ty_zeroCells_93 ⟨rfl, by decide, by decide⟩, ev_slice_sl ty_descOf_23 ty_szOf_93, ev_append ty_appInfo_23, ev_appNew_sl ty_descOf_23, keep_34_2, keep_34_4, encL_len]
  rw [exL_head]
  simp only [go_sem, Nat.reduceLT, reduceIte, reduceCtorEq, Nat.reduceEqDiff, apply_ite (Option.map (outOf _)), Nat.reduceBEq, Nat.reduceAdd, Nat.reduceSub, Nat.reduceLeDiff, Nat.reduceMul, ev_len_sl ty_descOf_23, ev_indexAddr ty_descOf_23, ty_szOf_93, ty_shapeT_93, good_66, ev_buildSlice (len := 0) ty_descOf_23 ty_szOf_93 ty_zeroCells_93 ⟨rfl, by decide, by decide⟩, ev_slice_sl ty_descOf_23 ty_szOf_93, ev_append ty_appInfo_23, ev_appNew_sl ty_descOf_23, keep_34_2, keep_34_4]
  erw [w]
  simp only [go_sem, Nat.reduceLT, reduceIte, reduceCtorEq, Nat.reduceEqDiff, apply_ite (Option.map (outOf _)), Nat.reduceBEq, Nat.reduceAdd, Nat.reduceSub, Nat.reduceLeDiff, Nat.reduceMul, ev_len_sl ty_descOf_23, ev_indexAddr ty_descOf_23, ty_szOf_93, ty_shapeT_93, good_66, ev_buildSlice (len := 0) ty_descOf_23 ty_szOf_93 ty_zeroCells_93 ⟨rfl, by decide, by decide⟩, ev_slice_sl ty_descOf_23 ty_szOf_93, ev_append ty_appInfo_23, ev_appNew_sl ty_descOf_23, keep_34_2, keep_34_4, hn, s0, s3, s4]
  rw [exL_head]
  simp only [go_sem, Nat.reduceLT, reduceIte, reduceCtorEq, Nat.reduceEqDiff, apply_ite (Option.map (outOf _)), Nat.reduceBEq, Nat.reduceAdd, Nat.reduceSub, Nat.reduceLeDiff, Nat.reduceMul, ev_len_sl ty_descOf_23, ev_indexAddr ty_descOf_23, ty_szOf_93, ty_shapeT_93, good_66, ev_buildSlice (len := 0) ty_descOf_23 ty_szOf_93 ty_zeroCells_93 ⟨rfl, by decide, by decide⟩, ev_slice_sl ty_descOf_23 ty_szOf_93, ev_append ty_appInfo_23, ev_appNew_sl ty_descOf_23, keep_34_2, keep_34_4, hn, s0, s3, s4]
  erw [w']
  simp only [go_sem, Nat.reduceLT, reduceIte, reduceCtorEq, Nat.reduceEqDiff, apply_ite (Option.map (outOf _)), Nat.reduceBEq, Nat.reduceAdd, Nat.reduceSub, Nat.reduceLeDiff, Nat.reduceMul, ev_len_sl ty_descOf_23, ev_indexAddr ty_descOf_23, ty_szOf_93, ty_shapeT_93, good_66, ev_buildSlice (len := 0) ty_descOf_23 ty_szOf_93 ty_zeroCells_93 ⟨rfl, by decide, by decide⟩, ev_slice_sl ty_descOf_23 ty_szOf_93, ev_append ty_appInfo_23, ev_appNew_sl ty_descOf_23, keep_34_2, keep_34_4, hr, hn', s0', s3', s4', encL_len, hb1, hb2, Int.toNat_natCast, encL_cut, hres, hlen, hlv, hlv2, lens_nil]
end Go.Abs
namespace Go.Abs
open Go Go.Proofs
set_option maxRecDepth 10000
attribute [local go_sem] exL_seq exL_region exL_cond exL_block exL_scope exL_ret exL_skip exL_exit runRegion runOps stepOp guardA absOp takeOver opd avOf cvOf St.degAt St.put okPV okVal okAV absBin intBin strBin boolBin setBoxes if_true Bool.false_eq_true if_false Option.map_some Option.map_none Option.bind_some Option.bind_none thenO outOf upd List.toList_toArray isOwn steal appArgs mvB fullAt absFull inApps AV.deg CV.deg AV.gv AV.isIter absNext some_bne some_beqN List.length_nil List.length_cons List.filterMap_cons List.filterMap_nil beq_iff_eq List.getElem?_cons_zero List.getElem?_cons_succ Option.getD_some K_hook hookB Bool.false_and Bool.and_false Bool.and_self K_P K_own absCall doCall getBoxes lend back idx dedup AV.ren CV.ren TV.ren AV.ptrs CV.ptrs zipBox AV.flat CV.flat absLoad absStore cellsOfAV setAt newBox markB bldTypes absFieldAddr absField absExtract absAssert noAssert absMkIface ifcOf CV.pv? content pushHead ownT fillCells reps pvs chunks enterSt leave resOf resVars resVar outBoxes lentOnly TV.deg TV.av LK CV.plain CV.noBld nilBin absUn bound List.map_cons List.map_nil List.all_cons List.all_nil List.any_cons List.any_nil List.contains_cons List.contains_nil List.elem_cons List.elem_nil List.cons_append List.nil_append List.append_nil List.flatMap_cons List.flatMap_nil List.zip_cons_cons List.zip_nil_left List.zip_nil_right List.take_succ_cons List.take_zero List.take_nil List.drop_succ_cons List.drop_zero List.drop_nil List.isEmpty_nil List.isEmpty_cons Bool.and_true Bool.true_and Bool.or_true Bool.true_or Bool.or_false Bool.false_or Bool.not_true Bool.not_false Nat.add_zero Nat.zero_add Option.isNone_none Option.isNone_some Option.getD_none true_and and_true not_true_eq_false not_false_eq_true decide_true decide_false Nat.le_refl and_self Bool.not_eq_true Nat.sub_self or_true true_or Option.some.injEq List.length_map List.nil_eq and_false false_and AV.live CV.live CV.liveIn K_keep firstReg Option.orElse_some Option.orElse_none head keepSlots keepBoxes Int.lt_irrefl List.length_append ite_self memOK logOps opKey lentBoxes Key.clash Key.sees Key.writes Nat.lt_irrefl gt_iff_lt nobox_at bot_at false_or or_false beq_self_eq_true Bool.true_beq Bool.false_beq
theorem blank3_den (k : Int) (t : Tok) (l : List Val) : den K 123 [.agg (valCv k t l)] [] = some (.ret (B (Sl.isBlank (.mk k t l))) []) := by
  refine den_run rfl rfl Tryz.func123 rfl Tryz.ntmps123 ⟨by simp, by simp [LK]⟩ ?_
  have hr : Tryz.f123.results = #[.tmp 2] := rfl
  have hs : Sl.isBlank (.mk k t l) = ((k == 1) && (t.kind == 8)) := rfl
  rw [hs]
  cases e1 : (k == 1)
  · simp only [go_sem, Nat.reduceLT, reduceIte, reduceCtorEq, Nat.reduceEqDiff, apply_ite (Option.map (outOf _)), Nat.reduceBEq, Nat.reduceAdd, Nat.reduceSub, Nat.reduceLeDiff, Nat.reduceMul, ty_fieldOff_93_0, ty_szOf_3, ty_shapeT_3, ty_fieldOff_93_1, ty_szOf_91, ty_fieldOff_91_0, hr, e1]
  · simp only [go_sem, Nat.reduceLT, reduceIte, reduceCtorEq, Nat.reduceEqDiff, apply_ite (Option.map (outOf _)), Nat.reduceBEq, Nat.reduceAdd, Nat.reduceSub, Nat.reduceLeDiff, Nat.reduceMul, ty_fieldOff_93_0, ty_szOf_3, ty_shapeT_3, ty_fieldOff_93_1, ty_szOf_91, ty_fieldOff_91_0, hr, e1]
abbrev trH (l : List Val) : St := { sl := upd bot 0 (L (encL l)), bx := nobox, nt := 33 }
noncomputable def trlp1 : Code := .loop (loopAt Tryz.f70 1)
noncomputable def trlp3 : Code := .loop (loopAt Tryz.f70 3)
theorem head_val (k : Int) (t : Tok) (c r : List Val) : (encL (.mk k t c :: r))[(0 : Int).toNat]? = some [.int .i64 k, .int .i64 t.kind, .str t.text, .int .i64 t.n, .sl (encL c)] := rfl
theorem cut_head (v : Val) (r : List Val) (n : Nat) (h : n = r.length + 1) : ((encL (v :: r)).take n).drop (1 : Int).toNat = encL r := by
  subst h
  rw [encL, List.take_of_length_le (by rw [List.length_cons, encL_len]; omega)]; rfl
theorem le00 : ((0 : Int) ≤ 0) = True := by simp
theorem tr1_yes (v : Val) (r : List Val) (hl : r.length ≤ 100000000) (hb : Sl.isBlank v = true) :
    exL K 70 trlp1 (trH (v :: r)) = exL K 70 trlp1 (trH r) := by
  obtain ⟨k, t, c⟩ := v
  have hlt : decide ((0 : Int) < (((r.length + 1 : Nat)) : Int)) = true := decide_eq_true (by omega)
  have hget := head_val k t c r
  have hcut := cut_head (.mk k t c) r (r.length + 1) rfl
  have hb1 : ((0 : Int) ≤ 1 ∧ (1 : Int) ≤ ((r.length + 1 : Nat) : Int)) = True := by rw [eq_iff_iff]; simp; omega
  have hlv := lens_valsK (.mk k t c :: r)
  have hd := blank3_den k t c
  rw [hb] at hd
  unfold trlp1
  conv in loopAt _ _ => whnf
  conv in loopAt _ _ => whnf
  conv in exL _ _ _ (trH (.mk k t c :: r)) => rw [exL_loop]
  simp only [go_sem, Nat.reduceLT, reduceIte, reduceCtorEq, Nat.reduceEqDiff, apply_ite (Option.map (outOf _)), Nat.reduceBEq, Nat.reduceAdd, Nat.reduceSub, Nat.reduceLeDiff, Nat.reduceMul, ev_len_sl ty_descOf_23, ev_indexAddr ty_descOf_23, ty_szOf_93, ty_shapeT_93, good_123, ev_slice_sl ty_descOf_23 ty_szOf_93, good_124, keep_70_1, keep_70_3, encL_len, List.length_cons, hlt, hget, hd, hb1, hlv, hcut, le00]
  rw [exL_head]
  simp only [go_sem, Nat.reduceLT, reduceIte, reduceCtorEq, Nat.reduceEqDiff, apply_ite (Option.map (outOf _)), Nat.reduceBEq, Nat.reduceAdd, Nat.reduceSub, Nat.reduceLeDiff, Nat.reduceMul, ev_len_sl ty_descOf_23, ev_indexAddr ty_descOf_23, ty_szOf_93, ty_shapeT_93, good_123, ev_slice_sl ty_descOf_23 ty_szOf_93, good_124, keep_70_1, keep_70_3]
theorem tr1_no (v : Val) (r : List Val) (hl : r.length ≤ 100000000) (hb : Sl.isBlank v = false) :
    Ends (exL K 70 trlp1 (trH (v :: r))) fun o S => o = .exit 0 ∧ S.nt = 33 ∧ S.sl 0 = L (encL (v :: r)) := by
  obtain ⟨k, t, c⟩ := v
  have hlt : decide ((0 : Int) < (((r.length + 1 : Nat)) : Int)) = true := decide_eq_true (by omega)
  have hget := head_val k t c r
  have hd := blank3_den k t c
  rw [hb] at hd
  unfold trlp1
  conv in loopAt _ _ => whnf
  rw [exL_loop]
  simp only [go_sem, Nat.reduceLT, reduceIte, reduceCtorEq, Nat.reduceEqDiff, apply_ite (Option.map (outOf _)), Nat.reduceBEq, Nat.reduceAdd, Nat.reduceSub, Nat.reduceLeDiff, Nat.reduceMul, ev_len_sl ty_descOf_23, ev_indexAddr ty_descOf_23, ty_szOf_93, ty_shapeT_93, good_123, ev_slice_sl ty_descOf_23 ty_szOf_93, good_124, keep_70_1, keep_70_3, encL_len, List.length_cons, hlt, hget, hd, le00, ends_some]
theorem tr1_end : Ends (exL K 70 trlp1 (trH [])) fun o S => o = .exit 0 ∧ S.nt = 33 ∧ S.sl 0 = L (encL []) := by
  have hlt : decide ((0 : Int) < ((0 : Nat) : Int)) = false := rfl
  unfold trlp1
  conv in loopAt _ _ => whnf
  rw [exL_loop]
  simp only [go_sem, Nat.reduceLT, reduceIte, reduceCtorEq, Nat.reduceEqDiff, apply_ite (Option.map (outOf _)), Nat.reduceBEq, Nat.reduceAdd, Nat.reduceSub, Nat.reduceLeDiff, Nat.reduceMul, ev_len_sl ty_descOf_23, ev_indexAddr ty_descOf_23, ty_szOf_93, ty_shapeT_93, good_123, ev_slice_sl ty_descOf_23 ty_szOf_93, good_124, keep_70_1, keep_70_3, encL_len, List.length_nil, hlt, ends_some]
theorem tr1_loop : ∀ (l : List Val), l.length ≤ 100000000 → Ends (exL K 70 trlp1 (trH l)) fun o S => o = .exit 0 ∧ S.nt = 33 ∧ S.sl 0 = L (encL (l.dropWhile Sl.isBlank))
  | [], _ => tr1_end
  | v :: r, hl => by
    rw [List.length_cons] at hl
    cases hb : Sl.isBlank v with
    | true =>
      rw [tr1_yes v r (by omega) hb, List.dropWhile_cons, if_pos hb]
      exact tr1_loop r (by omega)
    | false =>
      rw [List.dropWhile_cons, if_neg (by rw [hb]; simp)]
      exact tr1_no v r (by omega) hb
theorem last_val (m : List Val) (k : Int) (t : Tok) (c : List Val) : (encL (m ++ [.mk k t c]))[((m.length : Nat) : Int).toNat]? = some [.int .i64 k, .int .i64 t.kind, .str t.text, .int .i64 t.n, .sl (encL c)] := by
  exact encL_get (m ++ [.mk k t c]) m.length (.mk k t c) (by simp)
theorem cut_last (m : List Val) (v : Val) : (encL (m ++ [v])).take m.length = encL m := by
  rw [encL_app, List.take_append_of_le_length (by rw [encL_len]; exact Nat.le_refl _), List.take_of_length_le (by rw [encL_len]; exact Nat.le_refl _)]
theorem tr3_yes (m : List Val) (v : Val) (hl : m.length ≤ 100000000) (hb : Sl.isBlank v = true) :
    exL K 70 trlp3 (trH (m ++ [v])) = exL K 70 trlp3 (trH m) := by
  obtain ⟨k, t, c⟩ := v
  have hn : (encL (m ++ [.mk k t c])).length = m.length + 1 := by rw [encL_len]; simp
  have hlt : decide ((0 : Int) < (((m.length + 1 : Nat)) : Int)) = true := decide_eq_true (by omega)
  have hw : IntKind.i64.wrap (((m.length + 1 : Nat) : Int) - 1) = (m.length : Int) := by rw [IntWalk.i64_in _ (by omega)]; omega
  have hget := last_val m k t c
  have hcut := cut_last m (.mk k t c)
  have hb1 : ((m.length : Int) ≤ ((m.length + 1 : Nat) : Int)) = True := by rw [eq_iff_iff]; simp; omega
  have hlv := lens_valsK (m ++ [.mk k t c])
  have hd := blank3_den k t c
  rw [hb] at hd
  rw [Int.toNat_natCast] at hget
  unfold trlp3
  conv in loopAt _ _ => whnf
  conv in loopAt _ _ => whnf
  conv in exL _ _ _ (trH (m ++ [.mk k t c])) => rw [exL_loop]
  simp only [go_sem, Nat.reduceLT, reduceIte, reduceCtorEq, Nat.reduceEqDiff, apply_ite (Option.map (outOf _)), Nat.reduceBEq, Nat.reduceAdd, Nat.reduceSub, Nat.reduceLeDiff, Nat.reduceMul, ev_len_sl ty_descOf_23, ev_indexAddr ty_descOf_23, ty_szOf_93, ty_shapeT_93, good_123, ev_slice_sl ty_descOf_23 ty_szOf_93, good_124, keep_70_1, keep_70_3, hn, hlt, hw, Int.natCast_nonneg, Int.toNat_natCast, hget, hd, hb1, hlv, hcut]
  rw [exL_head]
  simp only [go_sem, Nat.reduceLT, reduceIte, reduceCtorEq, Nat.reduceEqDiff, apply_ite (Option.map (outOf _)), Nat.reduceBEq, Nat.reduceAdd, Nat.reduceSub, Nat.reduceLeDiff, Nat.reduceMul, ev_len_sl ty_descOf_23, ev_indexAddr ty_descOf_23, ty_szOf_93, ty_shapeT_93, good_123, ev_slice_sl ty_descOf_23 ty_szOf_93, good_124, keep_70_1, keep_70_3]
theorem tr3_no (m : List Val) (v : Val) (hl : m.length ≤ 100000000) (hb : Sl.isBlank v = false) :
    Ends (exL K 70 trlp3 (trH (m ++ [v]))) fun o S => o = .exit 2 ∧ S.nt = 33 ∧ S.sl 0 = L (encL (m ++ [v])) := by
  obtain ⟨k, t, c⟩ := v
  have hn : (encL (m ++ [.mk k t c])).length = m.length + 1 := by rw [encL_len]; simp
  have hlt : decide ((0 : Int) < (((m.length + 1 : Nat)) : Int)) = true := decide_eq_true (by omega)
  have hw : IntKind.i64.wrap (((m.length + 1 : Nat) : Int) - 1) = (m.length : Int) := by rw [IntWalk.i64_in _ (by omega)]; omega
  have hget := last_val m k t c
  have hd := blank3_den k t c
  rw [hb] at hd
  rw [Int.toNat_natCast] at hget
  unfold trlp3
  conv in loopAt _ _ => whnf
  rw [exL_loop]
  simp only [go_sem, Nat.reduceLT, reduceIte, reduceCtorEq, Nat.reduceEqDiff, apply_ite (Option.map (outOf _)), Nat.reduceBEq, Nat.reduceAdd, Nat.reduceSub, Nat.reduceLeDiff, Nat.reduceMul, ev_len_sl ty_descOf_23, ev_indexAddr ty_descOf_23, ty_szOf_93, ty_shapeT_93, good_123, ev_slice_sl ty_descOf_23 ty_szOf_93, good_124, keep_70_1, keep_70_3, hn, hlt, hw, Int.natCast_nonneg, Int.toNat_natCast, hget, hd, ends_some]
theorem tr3_end : Ends (exL K 70 trlp3 (trH [])) fun o S => o = .exit 2 ∧ S.nt = 33 ∧ S.sl 0 = L (encL []) := by
  have hlt : decide ((0 : Int) < ((0 : Nat) : Int)) = false := rfl
  unfold trlp3
  conv in loopAt _ _ => whnf
  rw [exL_loop]
  simp only [go_sem, Nat.reduceLT, reduceIte, reduceCtorEq, Nat.reduceEqDiff, apply_ite (Option.map (outOf _)), Nat.reduceBEq, Nat.reduceAdd, Nat.reduceSub, Nat.reduceLeDiff, Nat.reduceMul, ev_len_sl ty_descOf_23, ev_indexAddr ty_descOf_23, ty_szOf_93, ty_shapeT_93, good_123, ev_slice_sl ty_descOf_23 ty_szOf_93, good_124, keep_70_1, keep_70_3, encL_len, List.length_nil, hlt, ends_some]
theorem tr3_loop : ∀ (n : Nat) (l : List Val), l.length = n → l.length ≤ 100000000 → Ends (exL K 70 trlp3 (trH l)) fun o S => o = .exit 2 ∧ S.nt = 33 ∧ S.sl 0 = L (encL (l.reverse.dropWhile Sl.isBlank).reverse)
  | 0, l, h, _ => by
    obtain rfl : l = [] := List.eq_nil_of_length_eq_zero h
    exact tr3_end
  | n + 1, l, h, hl => by
    obtain ⟨m, v, rfl⟩ : ∃ m v, l = m ++ [v] := ⟨l.dropLast, l.getLast (fun e => by rw [e] at h; simp at h), (List.dropLast_concat_getLast _).symm⟩
    rw [List.length_append, List.length_singleton] at h hl
    rw [List.reverse_append, List.reverse_singleton, List.singleton_append]
    cases hb : Sl.isBlank v with
    | true =>
      rw [tr3_yes m v (by omega) hb, List.dropWhile_cons, if_pos hb]
      exact tr3_loop n m (by omega) (by omega)
    | false =>
      rw [List.dropWhile_cons, if_neg (by rw [hb]; simp), List.reverse_cons, List.reverse_reverse]
      exact tr3_no m v (by omega) hb
theorem Clone_den (l : List Val) (hl : l.length ≤ 1000000000) : den K 124 [L (encL l)] [] = some (.ret (L (encL l)) []) := by
  refine prim_run (F := pClone) rfl ?_
  show (if (encL l).length ≤ 1000000000 ∧ (encL l).all (fun el => el.length == 5) then _ else none) = _
  have h2 : (encL l).all (fun el => el.length == 5) = true := lens_valsK l
  rw [if_pos ⟨by rw [encL_len]; exact hl, h2⟩]
theorem TrimS_den (l : List Val) (hl : l.length ≤ 100000000) : den K 70 [L (encL l)] [] = some (.ret (L (encL (Sl.trim l))) []) := by
  have h1 := tr1_loop l hl
  have hlen := (List.dropWhile_sublist Sl.isBlank (l := l)).length_le
  have h3 := tr3_loop _ (l.dropWhile Sl.isBlank) rfl (by omega)
  unfold trlp1 at h1
  conv at h1 in loopAt _ _ => whnf
  obtain ⟨o, S, w, rfl, hn, s0⟩ := h1
  unfold trlp3 at h3
  conv at h3 in loopAt _ _ => whnf
  obtain ⟨o', S', w', rfl, hn', s0'⟩ := h3
  have hc := Clone_den (Sl.trim l) (by have := Sl.trim_len l; omega)
  have e : (((l.dropWhile Sl.isBlank).reverse).dropWhile Sl.isBlank).reverse = Sl.trim l := rfl
  rw [e] at s0'
  refine den_run rfl rfl Tryz.func70 rfl Tryz.ntmps70 ⟨by simp, by simp [LK]⟩ ?_
  have hr : Tryz.f70.results = #[.tmp 2] := rfl
  simp only [go_sem, Nat.reduceLT, reduceIte, reduceCtorEq, Nat.reduceEqDiff, apply_ite (Option.map (outOf _)), Nat.reduceBEq, Nat.reduceAdd, Nat.reduceSub, Nat.reduceLeDiff, Nat.reduceMul, ev_len_sl ty_descOf_23, ev_indexAddr ty_descOf_23, ty_szOf_93, ty_shapeT_93, good_123, ev_slice_sl ty_descOf_23 ty_szOf_93, good_124, keep_70_1, keep_70_3]
  rw [exL_head]
  simp only [go_sem, Nat.reduceLT, reduceIte, reduceCtorEq, Nat.reduceEqDiff, apply_ite (Option.map (outOf _)), Nat.reduceBEq, Nat.reduceAdd, Nat.reduceSub, Nat.reduceLeDiff, Nat.reduceMul, ev_len_sl ty_descOf_23, ev_indexAddr ty_descOf_23, ty_szOf_93, ty_shapeT_93, good_123, ev_slice_sl ty_descOf_23 ty_szOf_93, good_124, keep_70_1, keep_70_3]
  erw [w]
  simp only [go_sem, Nat.reduceLT, reduceIte, reduceCtorEq, Nat.reduceEqDiff, apply_ite (Option.map (outOf _)), Nat.reduceBEq, Nat.reduceAdd, Nat.reduceSub, Nat.reduceLeDiff, Nat.reduceMul, ev_len_sl ty_descOf_23, ev_indexAddr ty_descOf_23, ty_szOf_93, ty_shapeT_93, good_123, ev_slice_sl ty_descOf_23 ty_szOf_93, good_124, keep_70_1, keep_70_3, hn, s0]
  rw [exL_head]
  simp only [go_sem, Nat.reduceLT, reduceIte, reduceCtorEq, Nat.reduceEqDiff, apply_ite (Option.map (outOf _)), Nat.reduceBEq, Nat.reduceAdd, Nat.reduceSub, Nat.reduceLeDiff, Nat.reduceMul, ev_len_sl ty_descOf_23, ev_indexAddr ty_descOf_23, ty_szOf_93, ty_shapeT_93, good_123, ev_slice_sl ty_descOf_23 ty_szOf_93, good_124, keep_70_1, keep_70_3, hn, s0]
  erw [w']
  simp only [go_sem, Nat.reduceLT, reduceIte, reduceCtorEq, Nat.reduceEqDiff, apply_ite (Option.map (outOf _)), Nat.reduceBEq, Nat.reduceAdd, Nat.reduceSub, Nat.reduceLeDiff, Nat.reduceMul, ev_len_sl ty_descOf_23, ev_indexAddr ty_descOf_23, ty_szOf_93, ty_shapeT_93, good_123, ev_slice_sl ty_descOf_23 ty_szOf_93, good_124, keep_70_1, keep_70_3, hr, hn', s0', hc]
end Go.Abs
namespace Go.Abs
open Go Go.Proofs
set_option maxRecDepth 10000
attribute [local go_sem] exL_seq exL_region exL_cond exL_block exL_scope exL_ret exL_skip exL_exit runRegion runOps stepOp guardA absOp takeOver opd avOf cvOf St.degAt St.put okPV okVal okAV absBin intBin strBin boolBin setBoxes if_true Bool.false_eq_true if_false Option.map_some Option.map_none Option.bind_some Option.bind_none thenO outOf upd List.toList_toArray isOwn steal appArgs mvB fullAt absFull inApps AV.deg CV.deg AV.gv AV.isIter absNext some_bne some_beqN List.length_nil List.length_cons List.filterMap_cons List.filterMap_nil beq_iff_eq List.getElem?_cons_zero List.getElem?_cons_succ Option.getD_some K_hook hookB Bool.false_and Bool.and_false Bool.and_self K_P K_own absCall doCall getBoxes lend back idx dedup AV.ren CV.ren TV.ren AV.ptrs CV.ptrs zipBox AV.flat CV.flat absLoad absStore cellsOfAV setAt newBox markB bldTypes absFieldAddr absField absExtract absAssert noAssert absMkIface ifcOf CV.pv? content pushHead ownT fillCells reps pvs chunks enterSt leave resOf resVars resVar outBoxes lentOnly TV.deg TV.av LK CV.plain CV.noBld nilBin absUn bound List.map_cons List.map_nil List.all_cons List.all_nil List.any_cons List.any_nil List.contains_cons List.contains_nil List.elem_cons List.elem_nil List.cons_append List.nil_append List.append_nil List.flatMap_cons List.flatMap_nil List.zip_cons_cons List.zip_nil_left List.zip_nil_right List.take_succ_cons List.take_zero List.take_nil List.drop_succ_cons List.drop_zero List.drop_nil List.isEmpty_nil List.isEmpty_cons Bool.and_true Bool.true_and Bool.or_true Bool.true_or Bool.or_false Bool.false_or Bool.not_true Bool.not_false Nat.add_zero Nat.zero_add Option.isNone_none Option.isNone_some Option.getD_none true_and and_true not_true_eq_false not_false_eq_true decide_true decide_false Nat.le_refl and_self Bool.not_eq_true Nat.sub_self or_true true_or Option.some.injEq List.length_map List.nil_eq and_false false_and AV.live CV.live CV.liveIn K_keep firstReg Option.orElse_some Option.orElse_none head keepSlots keepBoxes Int.lt_irrefl List.length_append ite_self memOK logOps opKey lentBoxes Key.clash Key.sees Key.writes Nat.lt_irrefl gt_iff_lt nobox_at bot_at false_or or_false beq_self_eq_true Bool.true_beq Bool.false_beq
abbrev U (c : UInt8) : AV := .c (.pv (.int .u8 c.toNat))
theorem u8_beq (c d : UInt8) : ((c.toNat : Int) == (d.toNat : Int)) = (c == d) := by
  by_cases e : c = d
  · subst e; simp
  · have : c.toNat ≠ d.toNat := fun h2 => e (UInt8.toNat_inj.1 h2)
    rw [beq_eq_false_iff_ne.2 e, beq_eq_false_iff_ne.2 (by omega)]
theorem at0_drop (s : List UInt8) (i : Nat) : (s[i]? = none ∧ Tk.at0 (s.drop i) = 0 ∧ s.length ≤ i) ∨ (i < s.length ∧ s[i]? = some (Tk.at0 (s.drop i))) := by
  by_cases h : i < s.length
  · right
    refine ⟨h, ?_⟩
    rw [List.drop_eq_getElem_cons h, Tk.at0_cons, List.getElem?_eq_getElem h]
  · left
    refine ⟨List.getElem?_eq_none (by omega), ?_, by omega⟩
    rw [List.drop_eq_nil_of_le (by omega)]; rfl
end Go.Abs
namespace Go.Abs
open Go Go.Proofs
set_option maxRecDepth 10000
theorem lens_tok (a b c : PV) : lens 3 [[a, b, c]] = true := rfl
theorem lens_toks (l : List Tok) : lens 3 (l.map Tok.enc) = true := by simp [lens, Tok.enc]
end Go.Abs
namespace Go.Abs
open Go
theorem arr_nil {α : Type} : (#[] : Array α).isEmpty = true := rfl
def encT (l : List (List UInt8)) : List (List PV) := l.map fun s => [.str s]
theorem encT_len (l : List (List UInt8)) : (encT l).length = l.length := List.length_map ..
theorem txt_at (l : List (List UInt8)) (i : Nat) (x : List UInt8) (h : l[i]? = some x) : (encT l)[(i : Int).toNat]? = some [.str x] := by
  rw [Int.toNat_natCast, encT, List.getElem?_map, h]; rfl
def ixI (o : Option Nat) : Int := match o with | some j => j | none => -1
theorem ix_any {α : Type} {p : α → Bool} {l : List α} : decide (0 ≤ ixI (l.findIdx? p)) = l.any p := by
  cases h : l.findIdx? p with
  | none =>
    rw [List.findIdx?_eq_none_iff] at h
    have : l.any p = false := by
      rw [List.any_eq_false]
      intro x hx
      rw [h x hx]; simp
    rw [this]; decide
  | some j =>
    obtain ⟨hj, hp, _⟩ := List.findIdx?_eq_some_iff_getElem.1 h
    have : l.any p = true := by
      rw [List.any_eq_true]
      exact ⟨_, List.getElem_mem hj, hp⟩
    rw [this]
    show decide ((0 : Int) ≤ (j : Int)) = true
    exact decide_eq_true (by omega)
end Go.Abs
namespace Go.Abs
open Go Go.Proofs
set_option maxRecDepth 10000
attribute [local go_sem] exL_seq exL_region exL_cond exL_block exL_scope exL_ret exL_skip exL_exit runRegion runOps stepOp guardA absOp takeOver opd avOf cvOf St.degAt St.put okPV okVal okAV absBin intBin strBin boolBin setBoxes if_true Bool.false_eq_true if_false Option.map_some Option.map_none Option.bind_some Option.bind_none thenO outOf upd List.toList_toArray isOwn steal appArgs mvB fullAt absFull inApps AV.deg CV.deg AV.gv AV.isIter absNext some_bne some_beqN List.length_nil List.length_cons List.filterMap_cons List.filterMap_nil beq_iff_eq List.getElem?_cons_zero List.getElem?_cons_succ Option.getD_some K_hook hookB Bool.false_and Bool.and_false Bool.and_self K_P K_own absCall doCall getBoxes lend back idx dedup AV.ren CV.ren TV.ren AV.ptrs CV.ptrs zipBox AV.flat CV.flat absLoad absStore cellsOfAV setAt newBox markB bldTypes absFieldAddr absField absExtract absAssert noAssert absMkIface ifcOf CV.pv? content pushHead ownT fillCells reps pvs chunks enterSt leave resOf resVars resVar outBoxes lentOnly TV.deg TV.av LK CV.plain CV.noBld nilBin absUn bound List.map_cons List.map_nil List.all_cons List.all_nil List.any_cons List.any_nil List.contains_cons List.contains_nil List.elem_cons List.elem_nil List.cons_append List.nil_append List.append_nil List.flatMap_cons List.flatMap_nil List.zip_cons_cons List.zip_nil_left List.zip_nil_right List.take_succ_cons List.take_zero List.take_nil List.drop_succ_cons List.drop_zero List.drop_nil List.isEmpty_nil List.isEmpty_cons Bool.and_true Bool.true_and Bool.or_true Bool.true_or Bool.or_false Bool.false_or Bool.not_true Bool.not_false Nat.add_zero Nat.zero_add Option.isNone_none Option.isNone_some Option.getD_none true_and and_true not_true_eq_false not_false_eq_true decide_true decide_false Nat.le_refl and_self Bool.not_eq_true Nat.sub_self or_true true_or Option.some.injEq List.length_map List.nil_eq and_false false_and AV.live CV.live CV.liveIn K_keep firstReg Option.orElse_some Option.orElse_none head keepSlots keepBoxes Int.lt_irrefl List.length_append ite_self memOK logOps opKey lentBoxes Key.clash Key.sees Key.writes Nat.lt_irrefl gt_iff_lt nobox_at bot_at false_or or_false beq_self_eq_true Bool.true_beq Bool.false_beq
theorem reach_if2 {α : Type} {ops ops' : List Oper} {n j i n' j' i' : Nat} {a b : α} (h : (reach ops n j i && reach ops' n' j' i') = true) : (if (reach ops n j i && reach ops' n' j' i') = true then a else b) = a := if_pos h
end Go.Abs
namespace Go.Abs
open Go Go.Proofs
set_option maxRecDepth 10000
attribute [local go_sem] exL_seq exL_region exL_cond exL_block exL_scope exL_ret exL_skip exL_exit runRegion runOps stepOp guardA absOp takeOver opd avOf cvOf St.degAt St.put okPV okVal okAV absBin intBin strBin boolBin setBoxes if_true Bool.false_eq_true if_false Option.map_some Option.map_none Option.bind_some Option.bind_none thenO outOf upd List.toList_toArray isOwn steal appArgs mvB fullAt absFull inApps AV.deg CV.deg AV.gv AV.isIter absNext some_bne some_beqN List.length_nil List.length_cons List.filterMap_cons List.filterMap_nil beq_iff_eq List.getElem?_cons_zero List.getElem?_cons_succ Option.getD_some K_hook hookB Bool.false_and Bool.and_false Bool.and_self K_P K_own absCall doCall getBoxes lend back idx dedup AV.ren CV.ren TV.ren AV.ptrs CV.ptrs zipBox AV.flat CV.flat absLoad absStore cellsOfAV setAt newBox markB bldTypes absFieldAddr absField absExtract absAssert noAssert absMkIface ifcOf CV.pv? content pushHead ownT fillCells reps pvs chunks enterSt leave resOf resVars resVar outBoxes lentOnly TV.deg TV.av LK CV.plain CV.noBld nilBin absUn bound List.map_cons List.map_nil List.all_cons List.all_nil List.any_cons List.any_nil List.contains_cons List.contains_nil List.elem_cons List.elem_nil List.cons_append List.nil_append List.append_nil List.flatMap_cons List.flatMap_nil List.zip_cons_cons List.zip_nil_left List.zip_nil_right List.take_succ_cons List.take_zero List.take_nil List.drop_succ_cons List.drop_zero List.drop_nil List.isEmpty_nil List.isEmpty_cons Bool.and_true Bool.true_and Bool.or_true Bool.true_or Bool.or_false Bool.false_or Bool.not_true Bool.not_false Nat.add_zero Nat.zero_add Option.isNone_none Option.isNone_some Option.getD_none true_and and_true not_true_eq_false not_false_eq_true decide_true decide_false Nat.le_refl and_self Bool.not_eq_true Nat.sub_self or_true true_or Option.some.injEq List.length_map List.nil_eq and_false false_and AV.live CV.live CV.liveIn K_keep firstReg Option.orElse_some Option.orElse_none head keepSlots keepBoxes Int.lt_irrefl List.length_append ite_self memOK logOps opKey lentBoxes Key.clash Key.sees Key.writes Nat.lt_irrefl gt_iff_lt nobox_at bot_at false_or or_false beq_self_eq_true Bool.true_beq Bool.false_beq
def TSh (l : List Val) : Prop := ∀ t ∈ Ne.flat l, t.text.length < 1000000000
theorem ts_sub {l m : List Val} (h : TSh l) (hs : ∀ v ∈ m, v ∈ l) : TSh m := fun t ht => by
  obtain ⟨v, hv, ht⟩ := Sl.flat_mem.1 ht
  exact h t (Sl.flat_mem.2 ⟨v, hs v hv, ht⟩)
theorem ts_trim {l : List Val} (h : TSh l) : TSh (Sl.trim l) := ts_sub h fun v hv => Sl.mem_trim hv
theorem ts_tok {t : Tok} {c l : List Val} (h : TSh (.mk 1 t c :: l)) : t.text.length < 1000000000 := h t (Sl.flat_mem.2 ⟨.mk 1 t c, by simp, by rw [Ne.flatV, if_pos rfl]; simp⟩)
theorem size_appL (a b : List Val) : Ne.size (a ++ b) = Ne.size a + Ne.size b := by
  induction a with
  | nil => rw [Ne.size]; simp
  | cons v a ih => rw [List.cons_append, Ne.size, Ne.size, ih]; omega
theorem size_dropW (p : Val → Bool) (l : List Val) : Ne.size (l.dropWhile p) ≤ Ne.size l := by
  have h : l.takeWhile p ++ l.dropWhile p = l := List.takeWhile_append_dropWhile
  have := size_appL (l.takeWhile p) (l.dropWhile p)
  rw [h] at this
  omega
theorem size_revL (l : List Val) : Ne.size l.reverse = Ne.size l := by
  induction l with
  | nil => rfl
  | cons v l ih =>
    rw [List.reverse_cons, size_appL, ih, Ne.size, Ne.size, Ne.size]
    omega
theorem size_trimL (l : List Val) : Ne.size (Sl.trim l) ≤ Ne.size l := by
  unfold Sl.trim
  rw [size_revL]
  have h1 := size_dropW Sl.isBlank (l.dropWhile Sl.isBlank).reverse
  have h2 := size_dropW Sl.isBlank l
  rw [size_revL] at h1
  omega
end Go.Abs
namespace Go.Abs
open Go Go.Proofs
set_option maxRecDepth 10000
attribute [local go_sem] exL_seq exL_region exL_cond exL_block exL_scope exL_ret exL_skip exL_exit runRegion runOps stepOp guardA absOp takeOver opd avOf cvOf St.degAt St.put okPV okVal okAV absBin intBin strBin boolBin setBoxes if_true Bool.false_eq_true if_false Option.map_some Option.map_none Option.bind_some Option.bind_none thenO outOf upd List.toList_toArray isOwn steal appArgs mvB fullAt absFull inApps AV.deg CV.deg AV.gv AV.isIter absNext some_bne some_beqN List.length_nil List.length_cons List.filterMap_cons List.filterMap_nil beq_iff_eq List.getElem?_cons_zero List.getElem?_cons_succ Option.getD_some K_hook hookB Bool.false_and Bool.and_false Bool.and_self K_P K_own absCall doCall getBoxes lend back idx dedup AV.ren CV.ren TV.ren AV.ptrs CV.ptrs zipBox AV.flat CV.flat absLoad absStore cellsOfAV setAt newBox markB bldTypes absFieldAddr absField absExtract absAssert noAssert absMkIface ifcOf CV.pv? content pushHead ownT fillCells reps pvs chunks enterSt leave resOf resVars resVar outBoxes lentOnly TV.deg TV.av LK CV.plain CV.noBld nilBin absUn bound List.map_cons List.map_nil List.all_cons List.all_nil List.any_cons List.any_nil List.contains_cons List.contains_nil List.elem_cons List.elem_nil List.cons_append List.nil_append List.append_nil List.flatMap_cons List.flatMap_nil List.zip_cons_cons List.zip_nil_left List.zip_nil_right List.take_succ_cons List.take_zero List.take_nil List.drop_succ_cons List.drop_zero List.drop_nil List.isEmpty_nil List.isEmpty_cons Bool.and_true Bool.true_and Bool.or_true Bool.true_or Bool.or_false Bool.false_or Bool.not_true Bool.not_false Nat.add_zero Nat.zero_add Option.isNone_none Option.isNone_some Option.getD_none true_and and_true not_true_eq_false not_false_eq_true decide_true decide_false Nat.le_refl and_self Bool.not_eq_true Nat.sub_self or_true true_or Option.some.injEq List.length_map List.nil_eq and_false false_and AV.live CV.live CV.liveIn K_keep firstReg Option.orElse_some Option.orElse_none head keepSlots keepBoxes Int.lt_irrefl List.length_append ite_self memOK logOps opKey lentBoxes Key.clash Key.sees Key.writes Nat.lt_irrefl gt_iff_lt nobox_at bot_at false_or or_false beq_self_eq_true Bool.true_beq Bool.false_beq
def nthA (x : Option (Int × Int)) : AV := match x with
  | some x => .tup [.c (.pv (.int .i64 x.1)), .c (.pv (.int .i64 x.2)), .c (.pv (.int .i64 0))]
  | none => .tup [.c (.pv (.int .i64 0)), .c (.pv (.int .i64 0)), .c (.pv (.int .i64 40))]
end Go.Abs
namespace Go.Abs
open Go Go.Proofs
set_option maxRecDepth 10000
attribute [local go_sem] exL_seq exL_region exL_cond exL_block exL_scope exL_ret exL_skip exL_exit runRegion runOps stepOp guardA absOp takeOver opd avOf cvOf St.degAt St.put okPV okVal okAV absBin intBin strBin boolBin setBoxes if_true Bool.false_eq_true if_false Option.map_some Option.map_none Option.bind_some Option.bind_none thenO outOf upd List.toList_toArray isOwn steal appArgs mvB fullAt absFull inApps AV.deg CV.deg AV.gv AV.isIter absNext some_bne some_beqN List.length_nil List.length_cons List.filterMap_cons List.filterMap_nil beq_iff_eq List.getElem?_cons_zero List.getElem?_cons_succ Option.getD_some K_hook hookB Bool.false_and Bool.and_false Bool.and_self K_P K_own absCall doCall getBoxes lend back idx dedup AV.ren CV.ren TV.ren AV.ptrs CV.ptrs zipBox AV.flat CV.flat absLoad absStore cellsOfAV setAt newBox markB bldTypes absFieldAddr absField absExtract absAssert noAssert absMkIface ifcOf CV.pv? content pushHead ownT fillCells reps pvs chunks enterSt leave resOf resVars resVar outBoxes lentOnly TV.deg TV.av LK CV.plain CV.noBld nilBin absUn bound List.map_cons List.map_nil List.all_cons List.all_nil List.any_cons List.any_nil List.contains_cons List.contains_nil List.elem_cons List.elem_nil List.cons_append List.nil_append List.append_nil List.flatMap_cons List.flatMap_nil List.zip_cons_cons List.zip_nil_left List.zip_nil_right List.take_succ_cons List.take_zero List.take_nil List.drop_succ_cons List.drop_zero List.drop_nil List.isEmpty_nil List.isEmpty_cons Bool.and_true Bool.true_and Bool.or_true Bool.true_or Bool.or_false Bool.false_or Bool.not_true Bool.not_false Nat.add_zero Nat.zero_add Option.isNone_none Option.isNone_some Option.getD_none true_and and_true not_true_eq_false not_false_eq_true decide_true decide_false Nat.le_refl and_self Bool.not_eq_true Nat.sub_self or_true true_or Option.some.injEq List.length_map List.nil_eq and_false false_and AV.live CV.live CV.liveIn K_keep firstReg Option.orElse_some Option.orElse_none head keepSlots keepBoxes Int.lt_irrefl List.length_append ite_self memOK logOps opKey lentBoxes Key.clash Key.sees Key.writes Nat.lt_irrefl gt_iff_lt nobox_at bot_at false_or or_false beq_self_eq_true Bool.true_beq Bool.false_beq
theorem min_law (v : Int) : (if (999999999 : Int) < v then (999999999 : Int) else v) = min v 999999999 := by
  split <;> omega
end Go.Abs
namespace Go.Abs
open Go Go.Proofs
section
variable {P : Program} {t e : TypeId} {n : Nat} {ps : List PV}
theorem TyP_int {k : IntKind} (h : descOf P t = some (.int k)) (hp : TyP P n t ps) : ∃ z, ps = [.int k z] ∧ (Lit.int k z).wf = true := by
  cases n with
  | zero => exact hp.elim
  | succ n => unfold TyP at hp; rw [desc_int h] at hp; exact hp
theorem wf_I64 {z : Int} (h : (Lit.int .i64 z).wf = true) : I64 z := by
  simp only [Lit.wf, Bool.and_eq_true, decide_eq_true_eq] at h
  exact h
end
end Go.Abs
namespace Go.Abs
open Go Go.Proofs
set_option maxRecDepth 100000
theorem argOf_num (p : PV) : argOf Tryz.prog 3 [p] = .c (.pv p) := by
  unfold argOf; rw [Tryz.underlying3]
theorem args2 {t u : TypeId} {pss : List (List PV)} {Q : Prop} (h : All2 (fun t p => ∃ n, TyP Tryz.prog n t p) [t, u] pss) (hq : ∀ n m p q, TyP Tryz.prog n t p → TyP Tryz.prog m u q → pss = [p, q] → Q) : Q := by
  cases h with
  | cons h1 h =>
  cases h with
  | cons h2 h =>
  cases h
  obtain ⟨n, h1⟩ := h1
  obtain ⟨m, h2⟩ := h2
  exact hq n m _ _ h1 h2 rfl
end Go.Abs
namespace Go.Abs
open Go Go.Proofs
set_option maxRecDepth 100000
end Go.Abs
namespace Go.Abs
open Go Go.Proofs
set_option maxRecDepth 100000
def flatQ : List TypeId := [4, 3, 9, 91, 60, 93, 23, 52, 48, 50, 45, 47, 31]
theorem flatQ_ok : flatSet Tryz.prog flatQ = true := by kernel_rfl
end Go.Abs
