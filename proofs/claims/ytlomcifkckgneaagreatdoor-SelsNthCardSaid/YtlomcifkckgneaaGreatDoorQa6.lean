/-
  FACTS ON THE TYPES OF THIS PROGRAM, each by the kernel (printed by a program).
  WHAT THE FUNCTIONS COMPUTE: the smallest; the builder of texts.
  WHAT THE FUNCTIONS COMPUTE: loops; texts of words.
  WHAT THE FUNCTIONS COMPUTE: a token's text; numbers of an nth; simple selectors.
  WHAT THE FUNCTIONS COMPUTE, layer 1: tokens that are the same; lists of them.
  WHAT THE FUNCTIONS COMPUTE, layer 2: blocks' last tokens; values told flat; depth.
  WHAT THE FUNCTIONS COMPUTE, layer 2: are values the same?
  WHAT THE FUNCTIONS COMPUTE, layer 3, the document's answer: blanks, signs; values trimmed, cut by a sign.
  WHAT THE FUNCTIONS COMPUTE, layer 3: values trimmed, cut, joined.
  WHAT THE FUNCTIONS COMPUTE, layer 1: classes of bytes, runs, names.
  WHAT THE FUNCTIONS COMPUTE, layer 1: the scanner's small steps: a name, a token that is laid, a comment, a string.
  Functions as values: what captures nothing, or one variable of whatever cells; texts as the interpreter's data.
  FROM A ROW's READING TO THE INTERPRETER's VALUES: an argument that reads as data is data without memory; a law whose answer the interpreter gives as 'true' meets its row.
  DATA OF A TYPE: what reads as a value of a struct, of a slice; what reads as tokens, and as values.
  DATA OF A TYPE: what reads as selectors (as in layer 5's rows, upon the types of layer 3).
-/
import Derived.Test.YtlomcifkckgneaaGreatDoorRows
import Derived.ReadAgain
import Derived.ChangeBears
import Derived.RowKit
import Derived.OpenShut
import Derived.SizedLaws
import Derived.Deep.DeepHandedRow
import Derived.Lib.LaidTab
import Derived.Test.YtlomcifkckgneaaGreatDoorQa1
import Derived.Test.YtlomcifkckgneaaGreatDoorQa2
import Derived.Test.YtlomcifkckgneaaGreatDoorQa3
import Derived.Test.YtlomcifkckgneaaGreatDoorQa4
import Derived.Test.YtlomcifkckgneaaGreatDoorQa5
set_option linter.unusedSimpArgs false
set_option linter.unusedVariables false
namespace Go.Abs
open Go Go.Proofs
theorem good_11 : K.good 11 = true := by kernel_rfl
theorem good_13 : K.good 13 = true := by kernel_rfl
theorem good_16 : K.good 16 = true := by kernel_rfl
theorem good_27 : K.good 27 = true := by kernel_rfl
theorem good_32 : K.good 32 = true := by kernel_rfl
theorem good_33 : K.good 33 = true := by kernel_rfl
theorem good_34 : K.good 34 = true := by kernel_rfl
theorem good_37 : K.good 37 = true := by kernel_rfl
theorem good_39 : K.good 39 = true := by kernel_rfl
theorem good_40 : K.good 40 = true := by kernel_rfl
theorem good_41 : K.good 41 = true := by kernel_rfl
theorem good_64 : K.good 64 = true := by kernel_rfl
theorem good_65 : K.good 65 = true := by kernel_rfl
theorem good_66 : K.good 66 = true := by kernel_rfl
theorem good_70 : K.good 70 = true := by kernel_rfl
theorem good_71 : K.good 71 = true := by kernel_rfl
theorem good_72 : K.good 72 = true := by kernel_rfl
theorem good_73 : K.good 73 = true := by kernel_rfl
theorem good_74 : K.good 74 = true := by kernel_rfl
theorem good_75 : K.good 75 = true := by kernel_rfl
theorem good_76 : K.good 76 = true := by kernel_rfl
theorem good_77 : K.good 77 = true := by kernel_rfl
theorem good_78 : K.good 78 = true := by kernel_rfl
theorem good_79 : K.good 79 = true := by kernel_rfl
theorem good_80 : K.good 80 = true := by kernel_rfl
theorem good_98 : K.good 98 = true := by kernel_rfl
theorem good_99 : K.good 99 = true := by kernel_rfl
theorem good_106 : K.good 106 = true := by kernel_rfl
theorem good_113 : K.good 113 = true := by kernel_rfl
theorem good_114 : K.good 114 = true := by kernel_rfl
theorem good_115 : K.good 115 = true := by kernel_rfl
theorem good_116 : K.good 116 = true := by kernel_rfl
theorem good_117 : K.good 117 = true := by kernel_rfl
theorem good_118 : K.good 118 = true := by kernel_rfl
theorem good_119 : K.good 119 = true := by kernel_rfl
theorem good_120 : K.good 120 = true := by kernel_rfl
theorem good_123 : K.good 123 = true := by kernel_rfl
theorem good_124 : K.good 124 = true := by kernel_rfl
theorem good_125 : K.good 125 = true := by kernel_rfl
theorem good_149 : K.good 149 = true := by kernel_rfl
theorem good_151 : K.good 151 = true := by kernel_rfl
theorem good_157 : K.good 157 = true := by kernel_rfl
theorem good_160 : K.good 160 = true := by kernel_rfl
theorem good_175 : K.good 175 = true := by kernel_rfl
theorem good_176 : K.good 176 = true := by kernel_rfl
theorem good_177 : K.good 177 = true := by kernel_rfl
theorem good_178 : K.good 178 = true := by kernel_rfl
theorem good_179 : K.good 179 = true := by kernel_rfl
theorem good_180 : K.good 180 = true := by kernel_rfl
theorem good_181 : K.good 181 = true := by kernel_rfl
theorem good_182 : K.good 182 = true := by kernel_rfl
theorem good_183 : K.good 183 = true := by kernel_rfl
theorem good_184 : K.good 184 = true := by kernel_rfl
theorem good_185 : K.good 185 = true := by kernel_rfl
theorem good_186 : K.good 186 = true := by kernel_rfl
theorem good_193 : K.good 193 = true := by kernel_rfl
theorem good_209 : K.good 209 = true := by kernel_rfl
theorem good_210 : K.good 210 = true := by kernel_rfl
theorem good_212 : K.good 212 = true := by kernel_rfl
theorem good_230 : K.good 230 = true := by kernel_rfl
theorem keep_99_2 : keepF 99 2 = ([3], [6]) := by kernel_rfl
theorem keep_33_3 : keepF 33 3 = ([0, 3, 4], []) := by kernel_rfl
theorem keep_65_5 : keepF 65 5 = ([0, 4, 6], [4]) := by kernel_rfl
theorem keep_34_2 : keepF 34 2 = ([0, 3, 4], []) := by kernel_rfl
theorem keep_34_4 : keepF 34 4 = ([0, 3, 4], []) := by kernel_rfl
theorem keep_182_2 : keepF 182 2 = ([0, 1, 2, 7], [100000]) := by kernel_rfl
theorem keep_186_6 : keepF 186 6 = ([0, 2, 3, 4, 29], [100000]) := by kernel_rfl
theorem keep_115_2 : keepF 115 2 = ([0, 5], []) := by kernel_rfl
theorem keep_117_2 : keepF 117 2 = ([0, 1, 5], []) := by kernel_rfl
theorem keep_118_1 : keepF 118 1 = ([0, 1], []) := by kernel_rfl
theorem keep_120_4 : keepF 120 4 = ([0, 1, 4, 6, 7], [4]) := by kernel_rfl
theorem keep_64_2 : keepF 64 2 = ([0, 2, 3, 8, 9], [8, 9]) := by kernel_rfl
theorem keep_70_1 : keepF 70 1 = ([0], []) := by kernel_rfl
theorem keep_70_3 : keepF 70 3 = ([0], []) := by kernel_rfl
theorem keep_141_2 : keepF 141 2 = ([0, 3], [100000]) := by kernel_rfl
theorem keep_151_2 : keepF 151 2 = ([0, 1, 7, 8], []) := by kernel_rfl
end Go.Abs
namespace Go.Abs
open Go Go.Proofs
abbrev I (n : Int) : AV := .c (.pv (.int .i64 n))
abbrev T (l : List UInt8) : AV := .c (.pv (.str l))
abbrev B (b : Bool) : AV := .c (.pv (.bool b))
abbrev L (l : List (List PV)) : AV := .c (.pv (.sl l))
abbrev P0 : AV := .c (.loc 100000 0)
theorem den_run {f : FuncId} {fn : Func} {x : Code} {nt : Nat} {args : List AV} {bxs : List (List CV)} {r : Res} (hp : prF f = none) (hh : hpF f = none) (hf : Tryz.prog.funcs[f]? = some fn) (hx : fn.body = some x) (hn : fn.ntmps = nt)
    (hl : args.length ≤ nt ∧ nt < LK) (h : (exL K f x (enterSt nt args bxs)).bind (fun r => leave K f fn bxs.length (some r)) = some r) : den K f args bxs = some r := by
  rw [den_eq (K := K) hp hh hf hx, hn, if_pos hl]
  exact h
theorem K_own (f : FuncId) (h : (
  f == 227 ||
  f == 1000000) = false) : K.ownRet f = false := h
theorem K_hook (f i : Nat) : K.hook f i = hookB f i := rfl
theorem K_P : K.P = Tryz.prog := rfl
theorem K_keep (f r : Nat) : K.keep f r = keepF f r := rfl
theorem prim_run {f : FuncId} {F : Prim} {args : List AV} {bxs cs : List (List CV)} {v : AV} (h : prF f = some F) (hF : F args bxs = some (v, cs)) : den K f args bxs = some (.ret v cs) := by
  rw [den_prim (K := K) h, hF]; rfl
set_option maxRecDepth 10000
theorem lens_nil (n : Nat) : lens n [] = true := rfl
end Go.Abs
namespace Go.Abs
open Go Go.Proofs
theorem exL_head (f : FuncId) (a : Code) (S : St) : exL K f (.loop a) S = exL K f (.loop a) (head (keepF f ((firstReg a).getD 0)) S) := by
  rw [exL_loop, exL_loop (S := head _ S), K_keep, head_head]
set_option maxRecDepth 10000
attribute [local go_sem] exL_seq exL_region exL_cond exL_block exL_scope exL_ret exL_skip exL_exit runRegion runOps stepOp guardA absOp takeOver opd avOf cvOf St.degAt St.put okPV okVal okAV absBin intBin strBin boolBin setBoxes if_true Bool.false_eq_true if_false Option.map_some Option.map_none Option.bind_some Option.bind_none thenO outOf upd List.toList_toArray isOwn steal appArgs mvB fullAt absFull inApps AV.deg CV.deg AV.gv AV.isIter absNext some_bne some_beqN List.length_nil List.length_cons List.filterMap_cons List.filterMap_nil beq_iff_eq List.getElem?_cons_zero List.getElem?_cons_succ Option.getD_some K_hook hookB Bool.false_and Bool.and_false Bool.and_self K_P K_own absCall doCall getBoxes lend back idx dedup AV.ren CV.ren TV.ren AV.ptrs CV.ptrs zipBox AV.flat CV.flat absLoad absStore cellsOfAV setAt newBox markB bldTypes absFieldAddr absField absExtract absAssert noAssert absMkIface ifcOf CV.pv? content pushHead ownT fillCells reps pvs chunks enterSt leave resOf resVars resVar outBoxes lentOnly TV.deg TV.av LK CV.plain CV.noBld nilBin absUn bound List.map_cons List.map_nil List.all_cons List.all_nil List.any_cons List.any_nil List.contains_cons List.contains_nil List.elem_cons List.elem_nil List.cons_append List.nil_append List.append_nil List.flatMap_cons List.flatMap_nil List.zip_cons_cons List.zip_nil_left List.zip_nil_right List.take_succ_cons List.take_zero List.take_nil List.drop_succ_cons List.drop_zero List.drop_nil List.isEmpty_nil List.isEmpty_cons Bool.and_true Bool.true_and Bool.or_true Bool.true_or Bool.or_false Bool.false_or Bool.not_true Bool.not_false Nat.add_zero Nat.zero_add Option.isNone_none Option.isNone_some Option.getD_none true_and and_true not_true_eq_false not_false_eq_true decide_true decide_false Nat.le_refl and_self Bool.not_eq_true Nat.sub_self or_true true_or Option.some.injEq List.length_map List.nil_eq and_false false_and AV.live CV.live CV.liveIn K_keep firstReg Option.orElse_some Option.orElse_none head keepSlots keepBoxes Int.lt_irrefl List.length_append ite_self memOK logOps opKey lentBoxes Key.clash Key.sees Key.writes Nat.lt_irrefl gt_iff_lt nobox_at bot_at false_or or_false beq_self_eq_true Bool.true_beq Bool.false_beq
theorem wrap_nat (n : Nat) (h : n < 9223372036854775807) : IntKind.i64.wrap ((n : Int) + 1) = ((n + 1 : Nat) : Int) := by
  rw [IntWalk.i64_in _ (by omega)]; rfl
theorem drop_cons {α : Type} {l rest : List α} {x : α} {i : Nat} (h : l.drop i = x :: rest) : l[i]? = some x ∧ l.drop (i + 1) = rest ∧ i < l.length := by
  have h1 : l[i]? = some x := by
    have : (l.drop i)[0]? = some x := by rw [h]; rfl
    simpa using this
  refine ⟨h1, ?_, (List.getElem?_eq_some_iff.1 h1).1⟩
  have : (l.drop i).tail = rest := by rw [h]; rfl
  rw [← this, List.tail_drop]
end Go.Abs
namespace Go.Abs
open Go Go.Proofs
set_option maxRecDepth 10000
attribute [local go_sem] exL_seq exL_region exL_cond exL_block exL_scope exL_ret exL_skip exL_exit runRegion runOps stepOp guardA absOp takeOver opd avOf cvOf St.degAt St.put okPV okVal okAV absBin intBin strBin boolBin setBoxes if_true Bool.false_eq_true if_false Option.map_some Option.map_none Option.bind_some Option.bind_none thenO outOf upd List.toList_toArray isOwn steal appArgs mvB fullAt absFull inApps AV.deg CV.deg AV.gv AV.isIter absNext some_bne some_beqN List.length_nil List.length_cons List.filterMap_cons List.filterMap_nil beq_iff_eq List.getElem?_cons_zero List.getElem?_cons_succ Option.getD_some K_hook hookB Bool.false_and Bool.and_false Bool.and_self K_P K_own absCall doCall getBoxes lend back idx dedup AV.ren CV.ren TV.ren AV.ptrs CV.ptrs zipBox AV.flat CV.flat absLoad absStore cellsOfAV setAt newBox markB bldTypes absFieldAddr absField absExtract absAssert noAssert absMkIface ifcOf CV.pv? content pushHead ownT fillCells reps pvs chunks enterSt leave resOf resVars resVar outBoxes lentOnly TV.deg TV.av LK CV.plain CV.noBld nilBin absUn bound List.map_cons List.map_nil List.all_cons List.all_nil List.any_cons List.any_nil List.contains_cons List.contains_nil List.elem_cons List.elem_nil List.cons_append List.nil_append List.append_nil List.flatMap_cons List.flatMap_nil List.zip_cons_cons List.zip_nil_left List.zip_nil_right List.take_succ_cons List.take_zero List.take_nil List.drop_succ_cons List.drop_zero List.drop_nil List.isEmpty_nil List.isEmpty_cons Bool.and_true Bool.true_and Bool.or_true Bool.true_or Bool.or_false Bool.false_or Bool.not_true Bool.not_false Nat.add_zero Nat.zero_add Option.isNone_none Option.isNone_some Option.getD_none true_and and_true not_true_eq_false not_false_eq_true decide_true decide_false Nat.le_refl and_self Bool.not_eq_true Nat.sub_self or_true true_or Option.some.injEq List.length_map List.nil_eq and_false false_and AV.live CV.live CV.liveIn K_keep firstReg Option.orElse_some Option.orElse_none head keepSlots keepBoxes Int.lt_irrefl List.length_append ite_self memOK logOps opKey lentBoxes Key.clash Key.sees Key.writes Nat.lt_irrefl gt_iff_lt nobox_at bot_at false_or or_false beq_self_eq_true Bool.true_beq Bool.false_beq
theorem itoa_len {n : Int} (h : I64 n) : (Lib.itoa n).length ≤ 21 := Lib.itoa_length_le n h.1 h.2
end Go.Abs
namespace Go.Abs
open Go Go.Proofs
set_option maxRecDepth 10000
attribute [local go_sem] exL_seq exL_region exL_cond exL_block exL_scope exL_ret exL_skip exL_exit runRegion runOps stepOp guardA absOp takeOver opd avOf cvOf St.degAt St.put okPV okVal okAV absBin intBin strBin boolBin setBoxes if_true Bool.false_eq_true if_false Option.map_some Option.map_none Option.bind_some Option.bind_none thenO outOf upd List.toList_toArray isOwn steal appArgs mvB fullAt absFull inApps AV.deg CV.deg AV.gv AV.isIter absNext some_bne some_beqN List.length_nil List.length_cons List.filterMap_cons List.filterMap_nil beq_iff_eq List.getElem?_cons_zero List.getElem?_cons_succ Option.getD_some K_hook hookB Bool.false_and Bool.and_false Bool.and_self K_P K_own absCall doCall getBoxes lend back idx dedup AV.ren CV.ren TV.ren AV.ptrs CV.ptrs zipBox AV.flat CV.flat absLoad absStore cellsOfAV setAt newBox markB bldTypes absFieldAddr absField absExtract absAssert noAssert absMkIface ifcOf CV.pv? content pushHead ownT fillCells reps pvs chunks enterSt leave resOf resVars resVar outBoxes lentOnly TV.deg TV.av LK CV.plain CV.noBld nilBin absUn bound List.map_cons List.map_nil List.all_cons List.all_nil List.any_cons List.any_nil List.contains_cons List.contains_nil List.elem_cons List.elem_nil List.cons_append List.nil_append List.append_nil List.flatMap_cons List.flatMap_nil List.zip_cons_cons List.zip_nil_left List.zip_nil_right List.take_succ_cons List.take_zero List.take_nil List.drop_succ_cons List.drop_zero List.drop_nil List.isEmpty_nil List.isEmpty_cons Bool.and_true Bool.true_and Bool.or_true Bool.true_or Bool.or_false Bool.false_or Bool.not_true Bool.not_false Nat.add_zero Nat.zero_add Option.isNone_none Option.isNone_some Option.getD_none true_and and_true not_true_eq_false not_false_eq_true decide_true decide_false Nat.le_refl and_self Bool.not_eq_true Nat.sub_self or_true true_or Option.some.injEq List.length_map List.nil_eq and_false false_and AV.live CV.live CV.liveIn K_keep firstReg Option.orElse_some Option.orElse_none head keepSlots keepBoxes Int.lt_irrefl List.length_append ite_self memOK logOps opKey lentBoxes Key.clash Key.sees Key.writes Nat.lt_irrefl gt_iff_lt nobox_at bot_at false_or or_false beq_self_eq_true Bool.true_beq Bool.false_beq
theorem tok_beq (a b : Tok) : ((a.kind == b.kind) && ((a.text == b.text) && ((a.n == b.n) && true))) = decide (a = b) := by
  obtain ⟨k, t, n⟩ := a
  obtain ⟨k', t', n'⟩ := b
  rw [Bool.eq_iff_iff, decide_eq_true_eq]
  simp [Tok.mk.injEq]
end Go.Abs
namespace Go.Abs
open Go Go.Proofs
set_option maxRecDepth 10000
attribute [local go_sem] exL_seq exL_region exL_cond exL_block exL_scope exL_ret exL_skip exL_exit runRegion runOps stepOp guardA absOp takeOver opd avOf cvOf St.degAt St.put okPV okVal okAV absBin intBin strBin boolBin setBoxes if_true Bool.false_eq_true if_false Option.map_some Option.map_none Option.bind_some Option.bind_none thenO outOf upd List.toList_toArray isOwn steal appArgs mvB fullAt absFull inApps AV.deg CV.deg AV.gv AV.isIter absNext some_bne some_beqN List.length_nil List.length_cons List.filterMap_cons List.filterMap_nil beq_iff_eq List.getElem?_cons_zero List.getElem?_cons_succ Option.getD_some K_hook hookB Bool.false_and Bool.and_false Bool.and_self K_P K_own absCall doCall getBoxes lend back idx dedup AV.ren CV.ren TV.ren AV.ptrs CV.ptrs zipBox AV.flat CV.flat absLoad absStore cellsOfAV setAt newBox markB bldTypes absFieldAddr absField absExtract absAssert noAssert absMkIface ifcOf CV.pv? content pushHead ownT fillCells reps pvs chunks enterSt leave resOf resVars resVar outBoxes lentOnly TV.deg TV.av LK CV.plain CV.noBld nilBin absUn bound List.map_cons List.map_nil List.all_cons List.all_nil List.any_cons List.any_nil List.contains_cons List.contains_nil List.elem_cons List.elem_nil List.cons_append List.nil_append List.append_nil List.flatMap_cons List.flatMap_nil List.zip_cons_cons List.zip_nil_left List.zip_nil_right List.take_succ_cons List.take_zero List.take_nil List.drop_succ_cons List.drop_zero List.drop_nil List.isEmpty_nil List.isEmpty_cons Bool.and_true Bool.true_and Bool.or_true Bool.true_or Bool.or_false Bool.false_or Bool.not_true Bool.not_false Nat.add_zero Nat.zero_add Option.isNone_none Option.isNone_some Option.getD_none true_and and_true not_true_eq_false not_false_eq_true decide_true decide_false Nat.le_refl and_self Bool.not_eq_true Nat.sub_self or_true true_or Option.some.injEq List.length_map List.nil_eq and_false false_and AV.live CV.live CV.liveIn K_keep firstReg Option.orElse_some Option.orElse_none head keepSlots keepBoxes Int.lt_irrefl List.length_append ite_self memOK logOps opKey lentBoxes Key.clash Key.sees Key.writes Nat.lt_irrefl gt_iff_lt nobox_at bot_at false_or or_false beq_self_eq_true Bool.true_beq Bool.false_beq
theorem lens_valsK (l : List Val) : lens 5 (encL l) = true := by
  rw [encL_map]
  simp only [lens, List.all_map, List.all_eq_true, Function.comp_apply, beq_iff_eq]
  intro v _
  exact enc_len v
theorem lens_valK (a b c d e : PV) : lens 5 [[a, b, c, d, e]] = true := rfl
theorem val_at (l : List Val) (i : Nat) (k : Int) (t : Tok) (l' : List Val) (h : l[i]? = some (.mk k t l')) : (encL l)[(i : Int).toNat]? = some [.int .i64 k, .int .i64 t.kind, .str t.text, .int .i64 t.n, .sl (encL l')] := encL_get l i _ h
end Go.Abs
namespace Go.Abs
open Go Go.Proofs
set_option maxRecDepth 10000
attribute [local go_sem] exL_seq exL_region exL_cond exL_block exL_scope exL_ret exL_skip exL_exit runRegion runOps stepOp guardA absOp takeOver opd avOf cvOf St.degAt St.put okPV okVal okAV absBin intBin strBin boolBin setBoxes if_true Bool.false_eq_true if_false Option.map_some Option.map_none Option.bind_some Option.bind_none thenO outOf upd List.toList_toArray isOwn steal appArgs mvB fullAt absFull inApps AV.deg CV.deg AV.gv AV.isIter absNext some_bne some_beqN List.length_nil List.length_cons List.filterMap_cons List.filterMap_nil beq_iff_eq List.getElem?_cons_zero List.getElem?_cons_succ Option.getD_some K_hook hookB Bool.false_and Bool.and_false Bool.and_self K_P K_own absCall doCall getBoxes lend back idx dedup AV.ren CV.ren TV.ren AV.ptrs CV.ptrs zipBox AV.flat CV.flat absLoad absStore cellsOfAV setAt newBox markB bldTypes absFieldAddr absField absExtract absAssert noAssert absMkIface ifcOf CV.pv? content pushHead ownT fillCells reps pvs chunks enterSt leave resOf resVars resVar outBoxes lentOnly TV.deg TV.av LK CV.plain CV.noBld nilBin absUn bound List.map_cons List.map_nil List.all_cons List.all_nil List.any_cons List.any_nil List.contains_cons List.contains_nil List.elem_cons List.elem_nil List.cons_append List.nil_append List.append_nil List.flatMap_cons List.flatMap_nil List.zip_cons_cons List.zip_nil_left List.zip_nil_right List.take_succ_cons List.take_zero List.take_nil List.drop_succ_cons List.drop_zero List.drop_nil List.isEmpty_nil List.isEmpty_cons Bool.and_true Bool.true_and Bool.or_true Bool.true_or Bool.or_false Bool.false_or Bool.not_true Bool.not_false Nat.add_zero Nat.zero_add Option.isNone_none Option.isNone_some Option.getD_none true_and and_true not_true_eq_false not_false_eq_true decide_true decide_false Nat.le_refl and_self Bool.not_eq_true Nat.sub_self or_true true_or Option.some.injEq List.length_map List.nil_eq and_false false_and AV.live CV.live CV.liveIn K_keep firstReg Option.orElse_some Option.orElse_none head keepSlots keepBoxes Int.lt_irrefl List.length_append ite_self memOK logOps opKey lentBoxes Key.clash Key.sees Key.writes Nat.lt_irrefl gt_iff_lt nobox_at bot_at false_or or_false beq_self_eq_true Bool.true_beq Bool.false_beq
abbrev valCv (k : Int) (t : Tok) (l : List Val) : List CV := [.pv (.int .i64 k), .pv (.int .i64 t.kind), .pv (.str t.text), .pv (.int .i64 t.n), .pv (.sl (encL l))]
end Go.Abs
namespace Go.Abs
open Go Go.Proofs
set_option maxRecDepth 10000
attribute [local go_sem] exL_seq exL_region exL_cond exL_block exL_scope exL_ret exL_skip exL_exit runRegion runOps stepOp guardA absOp takeOver opd avOf cvOf St.degAt St.put okPV okVal okAV absBin intBin strBin boolBin setBoxes if_true Bool.false_eq_true if_false Option.map_some Option.map_none Option.bind_some Option.bind_none thenO outOf upd List.toList_toArray isOwn steal appArgs mvB fullAt absFull inApps AV.deg CV.deg AV.gv AV.isIter absNext some_bne some_beqN List.length_nil List.length_cons List.filterMap_cons List.filterMap_nil beq_iff_eq List.getElem?_cons_zero List.getElem?_cons_succ Option.getD_some K_hook hookB Bool.false_and Bool.and_false Bool.and_self K_P K_own absCall doCall getBoxes lend back idx dedup AV.ren CV.ren TV.ren AV.ptrs CV.ptrs zipBox AV.flat CV.flat absLoad absStore cellsOfAV setAt newBox markB bldTypes absFieldAddr absField absExtract absAssert noAssert absMkIface ifcOf CV.pv? content pushHead ownT fillCells reps pvs chunks enterSt leave resOf resVars resVar outBoxes lentOnly TV.deg TV.av LK CV.plain CV.noBld nilBin absUn bound List.map_cons List.map_nil List.all_cons List.all_nil List.any_cons List.any_nil List.contains_cons List.contains_nil List.elem_cons List.elem_nil List.cons_append List.nil_append List.append_nil List.flatMap_cons List.flatMap_nil List.zip_cons_cons List.zip_nil_left List.zip_nil_right List.take_succ_cons List.take_zero List.take_nil List.drop_succ_cons List.drop_zero List.drop_nil List.isEmpty_nil List.isEmpty_cons Bool.and_true Bool.true_and Bool.or_true Bool.true_or Bool.or_false Bool.false_or Bool.not_true Bool.not_false Nat.add_zero Nat.zero_add Option.isNone_none Option.isNone_some Option.getD_none true_and and_true not_true_eq_false not_false_eq_true decide_true decide_false Nat.le_refl and_self Bool.not_eq_true Nat.sub_self or_true true_or Option.some.injEq List.length_map List.nil_eq and_false false_and AV.live CV.live CV.liveIn K_keep firstReg Option.orElse_some Option.orElse_none head keepSlots keepBoxes Int.lt_irrefl List.length_append ite_self memOK logOps opKey lentBoxes Key.clash Key.sees Key.writes Nat.lt_irrefl gt_iff_lt nobox_at bot_at false_or or_false beq_self_eq_true Bool.true_beq Bool.false_beq
theorem blank_den (k : Int) (t : Tok) (l : List Val) : den K 66 [.agg (valCv k t l)] [] = some (.ret (B (Sl.isBlank (.mk k t l))) []) := by
  refine den_run rfl rfl Tryz.func66 rfl Tryz.ntmps66 ⟨by simp, by simp [LK]⟩ ?_
  have hr : Tryz.f66.results = #[.tmp 2] := rfl
  have hs : Sl.isBlank (.mk k t l) = ((k == 1) && (t.kind == 8)) := rfl
  rw [hs]
  cases e1 : (k == 1)
  · simp only [go_sem, Nat.reduceLT, reduceIte, reduceCtorEq, Nat.reduceEqDiff, apply_ite (Option.map (outOf _)), Nat.reduceBEq, Nat.reduceAdd, Nat.reduceSub, Nat.reduceLeDiff, Nat.reduceMul, ty_fieldOff_93_0, ty_szOf_3, ty_shapeT_3, ty_fieldOff_93_1, ty_szOf_91, ty_fieldOff_91_0, hr, e1]
  · simp only [go_sem, Nat.reduceLT, reduceIte, reduceCtorEq, Nat.reduceEqDiff, apply_ite (Option.map (outOf _)), Nat.reduceBEq, Nat.reduceAdd, Nat.reduceSub, Nat.reduceLeDiff, Nat.reduceMul, ty_fieldOff_93_0, ty_szOf_3, ty_shapeT_3, ty_fieldOff_93_1, ty_szOf_91, ty_fieldOff_91_0, hr, e1]
abbrev trimH (l : List Val) (i j : Nat) : St :=
  { sl := upd (upd (upd bot 4 (I j)) 3 (I i)) 0 (L (encL l)), bx := nobox, nt := 38 }
noncomputable def tlp2 : Code := .loop (loopAt Tryz.f34 2)
noncomputable def tlp4 : Code := .loop (loopAt Tryz.f34 4)
theorem trim2_yes (l : List Val) (i : Nat) (hl : l.length ≤ 100000000) (v : Val) (hi : l[i]? = some v) (hb : Sl.isBlank v = true) :
    exL K 34 tlp2 (trimH l i l.length) = exL K 34 tlp2 (trimH l (i + 1) l.length) := by
  obtain ⟨k, t, c⟩ := v
  have hil : i < l.length := (List.getElem?_eq_some_iff.1 hi).1
  have hlt : decide ((i : Int) < (l.length : Int)) = true := decide_eq_true (by omega)
  have hget := val_at l i k t c hi
  have hw : IntKind.i64.wrap ((i : Int) + 1) = ((i + 1 : Nat) : Int) := wrap_nat i (by omega)
  have hd := blank_den k t c
  rw [hb] at hd
  unfold tlp2
  conv in loopAt _ _ => whnf
  conv in loopAt _ _ => whnf
  conv in exL _ _ _ (trimH l i l.length) => rw [exL_loop]
  simp only [go_sem, Nat.reduceLT, reduceIte, reduceCtorEq, Nat.reduceEqDiff, apply_ite (Option.map (outOf _)), Nat.reduceBEq, Nat.reduceAdd, Nat.reduceSub, Nat.reduceLeDiff, Nat.reduceMul, ev_len_sl ty_descOf_23, ev_indexAddr ty_descOf_23, ty_szOf_93, ty_shapeT_93, good_66, ev_buildSlice (len := 0) ty_descOf_23 ty_szOf_93 ty_zeroCells_93 ⟨rfl, by decide, by decide⟩, ev_slice_sl ty_descOf_23 ty_szOf_93, ev_append ty_appInfo_23, ev_appNew_sl ty_descOf_23, keep_34_2, keep_34_4, hlt, hget, Int.natCast_nonneg, hw, hd]
  rw [exL_head]
  simp only [go_sem, Nat.reduceLT, reduceIte, reduceCtorEq, Nat.reduceEqDiff, apply_ite (Option.map (outOf _)), Nat.reduceBEq, Nat.reduceAdd, Nat.reduceSub, Nat.reduceLeDiff, Nat.reduceMul, ev_len_sl ty_descOf_23, ev_indexAddr ty_descOf_23, ty_szOf_93, ty_shapeT_93, good_66, ev_buildSlice (len := 0) ty_descOf_23 ty_szOf_93 ty_zeroCells_93 ⟨rfl, by decide, by decide⟩, ev_slice_sl ty_descOf_23 ty_szOf_93, ev_append ty_appInfo_23, ev_appNew_sl ty_descOf_23, keep_34_2, keep_34_4]
theorem trim2_no (l : List Val) (i : Nat) (hl : l.length ≤ 100000000) (v : Val) (hi : l[i]? = some v) (hb : Sl.isBlank v = false) :
    Ends (exL K 34 tlp2 (trimH l i l.length)) fun o S => o = .exit 0 ∧ S.nt = 38 ∧ S.sl 0 = L (encL l) ∧ S.sl 3 = I i ∧ S.sl 4 = I l.length := by
  obtain ⟨k, t, c⟩ := v
  have hil : i < l.length := (List.getElem?_eq_some_iff.1 hi).1
  have hlt : decide ((i : Int) < (l.length : Int)) = true := decide_eq_true (by omega)
  have hget := val_at l i k t c hi
  have hd := blank_den k t c
  rw [hb] at hd
  unfold tlp2
  conv in loopAt _ _ => whnf
  rw [exL_loop]
  simp only [go_sem, Nat.reduceLT, reduceIte, reduceCtorEq, Nat.reduceEqDiff, apply_ite (Option.map (outOf _)), Nat.reduceBEq, Nat.reduceAdd, Nat.reduceSub, Nat.reduceLeDiff, Nat.reduceMul, ev_len_sl ty_descOf_23, ev_indexAddr ty_descOf_23, ty_szOf_93, ty_shapeT_93, good_66, ev_buildSlice (len := 0) ty_descOf_23 ty_szOf_93 ty_zeroCells_93 ⟨rfl, by decide, by decide⟩, ev_slice_sl ty_descOf_23 ty_szOf_93, ev_append ty_appInfo_23, ev_appNew_sl ty_descOf_23, keep_34_2, keep_34_4, hlt, hget, Int.natCast_nonneg, hd, ends_some]
theorem trim2_end (l : List Val) : Ends (exL K 34 tlp2 (trimH l l.length l.length)) fun o S => o = .exit 0 ∧ S.nt = 38 ∧ S.sl 0 = L (encL l) ∧ S.sl 3 = I l.length ∧ S.sl 4 = I l.length := by
  unfold tlp2
  conv in loopAt _ _ => whnf
  rw [exL_loop]
  simp only [go_sem, Nat.reduceLT, reduceIte, reduceCtorEq, Nat.reduceEqDiff, apply_ite (Option.map (outOf _)), Nat.reduceBEq, Nat.reduceAdd, Nat.reduceSub, Nat.reduceLeDiff, Nat.reduceMul, ev_len_sl ty_descOf_23, ev_indexAddr ty_descOf_23, ty_szOf_93, ty_shapeT_93, good_66, ev_buildSlice (len := 0) ty_descOf_23 ty_szOf_93 ty_zeroCells_93 ⟨rfl, by decide, by decide⟩, ev_slice_sl ty_descOf_23 ty_szOf_93, ev_append ty_appInfo_23, ev_appNew_sl ty_descOf_23, keep_34_2, keep_34_4, ends_some]
theorem trim2_loop (l : List Val) (hl : l.length ≤ 100000000) : ∀ (rest : List Val) (i : Nat), l.drop i = rest → i ≤ l.length →
    Ends (exL K 34 tlp2 (trimH l i l.length)) fun o S => o = .exit 0 ∧ S.nt = 38 ∧ ∃ j : Nat, j ≤ l.length ∧ l.drop j = rest.dropWhile Sl.isBlank ∧ S.sl 0 = L (encL l) ∧ S.sl 3 = I j ∧ S.sl 4 = I l.length
  | [], i, hd, hi => by
    have hin : i = l.length := by
      have := List.drop_eq_nil_iff.1 hd
      omega
    subst hin
    refine ends_imp (trim2_end l) fun o S q => ⟨q.1, q.2.1, l.length, Nat.le_refl _, ?_, q.2.2⟩
    simp
  | v :: rest, i, hd, hi => by
    obtain ⟨g1, g2, g3⟩ := drop_cons hd
    cases hb : Sl.isBlank v with
    | true =>
      rw [trim2_yes l i hl v g1 hb, List.dropWhile_cons, if_pos hb]
      exact trim2_loop l hl rest (i + 1) g2 (by omega)
    | false =>
      refine ends_imp (trim2_no l i hl v g1 hb) fun o S q => ⟨q.1, q.2.1, i, hi, ?_, q.2.2⟩
      rw [hd, List.dropWhile_cons, if_neg (by rw [hb]; simp)]
theorem trim4_yes (l : List Val) (i j : Nat) (hl : l.length ≤ 100000000) (hij : i ≤ j) (v : Val) (hi : l[j]? = some v) (hb : Sl.isBlank v = true) :
    exL K 34 tlp4 (trimH l i (j + 1)) = exL K 34 tlp4 (trimH l i j) := by
  obtain ⟨k, t, c⟩ := v
  have hil : j < l.length := (List.getElem?_eq_some_iff.1 hi).1
  have hlt : decide ((i : Int) < ((j + 1 : Nat) : Int)) = true := decide_eq_true (by omega)
  have hget := val_at l j k t c hi
  have hw : IntKind.i64.wrap (((j + 1 : Nat) : Int) - 1) = (j : Int) := by rw [IntWalk.i64_in _ (by omega)]; omega
  have hd := blank_den k t c
  rw [hb] at hd
  unfold tlp4
  conv in loopAt _ _ => whnf
  conv in loopAt _ _ => whnf
  conv in exL _ _ _ (trimH l i (j + 1)) => rw [exL_loop]
  simp only [go_sem, Nat.reduceLT, reduceIte, reduceCtorEq, Nat.reduceEqDiff, apply_ite (Option.map (outOf _)), Nat.reduceBEq, Nat.reduceAdd, Nat.reduceSub, Nat.reduceLeDiff, Nat.reduceMul, ev_len_sl ty_descOf_23, ev_indexAddr ty_descOf_23, ty_szOf_93, ty_shapeT_93, good_66, ev_buildSlice (len := 0) ty_descOf_23 ty_szOf_93 ty_zeroCells_93 ⟨rfl, by decide, by decide⟩, ev_slice_sl ty_descOf_23 ty_szOf_93, ev_append ty_appInfo_23, ev_appNew_sl ty_descOf_23, keep_34_2, keep_34_4, hlt, hget, Int.natCast_nonneg, hw, hd]
  rw [exL_head]
  simp only [go_sem, Nat.reduceLT, reduceIte, reduceCtorEq, Nat.reduceEqDiff, apply_ite (Option.map (outOf _)), Nat.reduceBEq, Nat.reduceAdd, Nat.reduceSub, Nat.reduceLeDiff, Nat.reduceMul, ev_len_sl ty_descOf_23, ev_indexAddr ty_descOf_23, ty_szOf_93, ty_shapeT_93, good_66, ev_buildSlice (len := 0) ty_descOf_23 ty_szOf_93 ty_zeroCells_93 ⟨rfl, by decide, by decide⟩, ev_slice_sl ty_descOf_23 ty_szOf_93, ev_append ty_appInfo_23, ev_appNew_sl ty_descOf_23, keep_34_2, keep_34_4]
theorem trim4_no (l : List Val) (i j : Nat) (hl : l.length ≤ 100000000) (hij : i ≤ j) (v : Val) (hi : l[j]? = some v) (hb : Sl.isBlank v = false) :
    Ends (exL K 34 tlp4 (trimH l i (j + 1))) fun o S => o = .exit 2 ∧ S.nt = 38 ∧ S.sl 0 = L (encL l) ∧ S.sl 3 = I i ∧ S.sl 4 = I ((j + 1 : Nat) : Int) := by
  obtain ⟨k, t, c⟩ := v
  have hil : j < l.length := (List.getElem?_eq_some_iff.1 hi).1
  have hlt : decide ((i : Int) < ((j + 1 : Nat) : Int)) = true := decide_eq_true (by omega)
  have hget := val_at l j k t c hi
  have hw : IntKind.i64.wrap (((j + 1 : Nat) : Int) - 1) = (j : Int) := by rw [IntWalk.i64_in _ (by omega)]; omega
  have hd := blank_den k t c
  rw [hb] at hd
  unfold tlp4
  conv in loopAt _ _ => whnf
  rw [exL_loop]
  simp only [go_sem, Nat.reduceLT, reduceIte, reduceCtorEq, Nat.reduceEqDiff, apply_ite (Option.map (outOf _)), Nat.reduceBEq, Nat.reduceAdd, Nat.reduceSub, Nat.reduceLeDiff, Nat.reduceMul, ev_len_sl ty_descOf_23, ev_indexAddr ty_descOf_23, ty_szOf_93, ty_shapeT_93, good_66, ev_buildSlice (len := 0) ty_descOf_23 ty_szOf_93 ty_zeroCells_93 ⟨rfl, by decide, by decide⟩, ev_slice_sl ty_descOf_23 ty_szOf_93, ev_append ty_appInfo_23, ev_appNew_sl ty_descOf_23, keep_34_2, keep_34_4, hlt, hget, Int.natCast_nonneg, hw, hd, ends_some]
theorem trim4_end (l : List Val) (i : Nat) : Ends (exL K 34 tlp4 (trimH l i i)) fun o S => o = .exit 2 ∧ S.nt = 38 ∧ S.sl 0 = L (encL l) ∧ S.sl 3 = I i ∧ S.sl 4 = I i := by
  unfold tlp4
  conv in loopAt _ _ => whnf
  rw [exL_loop]
  simp only [go_sem, Nat.reduceLT, reduceIte, reduceCtorEq, Nat.reduceEqDiff, apply_ite (Option.map (outOf _)), Nat.reduceBEq, Nat.reduceAdd, Nat.reduceSub, Nat.reduceLeDiff, Nat.reduceMul, ev_len_sl ty_descOf_23, ev_indexAddr ty_descOf_23, ty_szOf_93, ty_shapeT_93, good_66, ev_buildSlice (len := 0) ty_descOf_23 ty_szOf_93 ty_zeroCells_93 ⟨rfl, by decide, by decide⟩, ev_slice_sl ty_descOf_23 ty_szOf_93, ev_append ty_appInfo_23, ev_appNew_sl ty_descOf_23, keep_34_2, keep_34_4, ends_some]
theorem trim4_loop (l : List Val) (hl : l.length ≤ 100000000) (i : Nat) : ∀ (m j : Nat), j = i + m → j ≤ l.length →
    Ends (exL K 34 tlp4 (trimH l i j)) fun o S => o = .exit 2 ∧ S.nt = 38 ∧ ∃ e : Nat, i ≤ e ∧ e ≤ l.length ∧ (l.take e).drop i = (((l.take j).drop i).reverse.dropWhile Sl.isBlank).reverse ∧ S.sl 0 = L (encL l) ∧ S.sl 3 = I i ∧ S.sl 4 = I e
  | 0, j, hj, hjl => by
    obtain rfl : j = i := by omega
    refine ends_imp (trim4_end l j) fun o S q => ⟨q.1, q.2.1, j, Nat.le_refl _, hjl, ?_, q.2.2⟩
    have : (l.take j).drop j = [] := by rw [List.drop_eq_nil_iff, List.length_take]; omega
    rw [this]; rfl
  | m + 1, j, hj, hjl => by
    obtain rfl : j = (i + m) + 1 := by omega
    have hlt : i + m < l.length := by omega
    have hg : l[i + m]? = some l[i + m] := List.getElem?_eq_getElem hlt
    have htk : (l.take (i + m + 1)).drop i = (l.take (i + m)).drop i ++ [l[i + m]] := by
      rw [List.take_add_one, hg, Option.toList_some, List.drop_append_of_le_length (by rw [List.length_take]; omega)]
    generalize hv : l[i + m] = v at hg htk
    cases hb : Sl.isBlank v with
    | true =>
      rw [trim4_yes l i (i + m) hl (by omega) v hg hb]
      refine ends_imp (trim4_loop l hl i m (i + m) rfl (by omega)) fun o S q => ?_
      obtain ⟨q1, q2, e, q3, q4, q5, q6⟩ := q
      refine ⟨q1, q2, e, q3, q4, ?_, q6⟩
      rw [q5, htk, List.reverse_append, List.reverse_singleton, List.singleton_append, List.dropWhile_cons, if_pos hb]
    | false =>
      refine ends_imp (trim4_no l i (i + m) hl (by omega) v hg hb) fun o S q => ⟨q.1, q.2.1, i + m + 1, by omega, hjl, ?_, q.2.2⟩
      rw [htk, List.reverse_append, List.reverse_singleton, List.singleton_append, List.dropWhile_cons, if_neg (by rw [hb]; simp), List.reverse_cons, List.reverse_reverse]
theorem encL_cut (l : List Val) (a b : Nat) : ((encL l).take a).drop b = encL ((l.take a).drop b) := by
  rw [encL_map, encL_map, List.map_drop, List.map_take]
theorem Sl.trim_len (l : List Val) : (Sl.trim l).length ≤ l.length := by
  unfold Sl.trim
  rw [List.length_reverse]
  have h1 := (List.dropWhile_sublist Sl.isBlank (l := (l.dropWhile Sl.isBlank).reverse)).length_le
  have h2 := (List.dropWhile_sublist Sl.isBlank (l := l)).length_le
  rw [List.length_reverse] at h1
  omega
theorem Trim_den (l : List Val) (hl : l.length ≤ 100000000) : den K 34 [L (encL l)] [] = some (.ret (L (encL (Sl.trim l))) []) := by
  have h2 := trim2_loop l hl l 0 rfl (Nat.zero_le _)
  unfold tlp2 at h2
  conv at h2 in loopAt _ _ => whnf
  obtain ⟨o, S, w, rfl, hn, j, hj, hjd, s0, s3, s4⟩ := h2
  have h4 := trim4_loop l hl j (l.length - j) l.length (by omega) (Nat.le_refl _)
  unfold tlp4 at h4
  conv at h4 in loopAt _ _ => whnf
  obtain ⟨o', S', w', rfl, hn', e, he1, he2, hed, s0', s3', s4'⟩ := h4
  have hres : (l.take e).drop j = Sl.trim l := by
    rw [hed, List.take_length, hjd]; rfl
  have hlen : (Sl.trim l).length < appLim := by
    have : (Sl.trim l).length ≤ l.length := by rw [← hres, List.length_drop, List.length_take]; omega
    unfold appLim; omega
  have hlv := lens_valsK l
  have hlv2 := lens_valsK (Sl.trim l)
  have hb1 : ((0 : Int) ≤ (e : Int) ∧ (e : Int) ≤ (l.length : Int)) = True := by rw [eq_iff_iff]; simp; omega
  have hb2 : ((0 : Int) ≤ (j : Int) ∧ (j : Int) ≤ (e : Int)) = True := by rw [eq_iff_iff]; simp; omega
  refine den_run rfl rfl Tryz.func34 rfl Tryz.ntmps34 ⟨by simp, by simp [LK]⟩ ?_
  have hr : Tryz.f34.results = #[.tmp 2] := rfl
  simp only [go_sem, Nat.reduceLT, reduceIte, reduceCtorEq, Nat.reduceEqDiff, apply_ite (Option.map (outOf _)), Nat.reduceBEq, Nat.reduceAdd, Nat.reduceSub, Nat.reduceLeDiff, Nat.reduceMul, ev_len_sl ty_descOf_23, ev_indexAddr ty_descOf_23, ty_szOf_93, ty_shapeT_93, good_66, ev_buildSlice (len := 0) ty_descOf_23 ty_szOf_93 ty_zeroCells_93 ⟨rfl, by decide, by decide⟩, ev_slice_sl ty_descOf_23 ty_szOf_93, ev_append ty_appInfo_23, ev_appNew_sl ty_descOf_23, keep_34_2, keep_34_4, encL_len]
  rw [exL_head]
  simp only [go_sem, Nat.reduceLT, reduceIte, reduceCtorEq, Nat.reduceEqDiff, apply_ite (Option.map (outOf _)), Nat.reduceBEq, Nat.reduceAdd, Nat.reduceSub, Nat.reduceLeDiff, Nat.reduceMul, ev_len_sl ty_descOf_23, ev_indexAddr ty_descOf_23, ty_szOf_93, ty_shapeT_93, good_66, ev_buildSlice (len := 0) ty_descOf_23 ty_szOf_93 ty_zeroCells_93 ⟨rfl, by decide, by decide⟩, ev_slice_sl ty_descOf_23 ty_szOf_93, ev_append ty_appInfo_23, ev_appNew_sl ty_descOf_23, keep_34_2, keep_34_4]
  erw [w]
  simp only [go_sem, Nat.reduceLT, reduceIte, reduceCtorEq, Nat.reduceEqDiff, apply_ite (Option.map (outOf _)), Nat.reduceBEq, Nat.reduceAdd, Nat.reduceSub, Nat.reduceLeDiff, Nat.reduceMul, ev_len_sl ty_descOf_23, ev_indexAddr ty_descOf_23, ty_szOf_93, ty_shapeT_93, good_66, ev_buildSlice (len := 0) ty_descOf_23 ty_szOf_93 ty_zeroCells_93 ⟨rfl, by decide, by decide⟩, ev_slice_sl ty_descOf_23 ty_szOf_93, ev_append ty_appInfo_23, ev_appNew_sl ty_descOf_23, keep_34_2, keep_34_4, hn, s0, s3, s4]
  rw [exL_head]
  simp only [go_sem, Nat.reduceLT, reduceIte, reduceCtorEq, Nat.reduceEqDiff, apply_ite (Option.map (outOf _)), Nat.reduceBEq, Nat.reduceAdd, Nat.reduceSub, Nat.reduceLeDiff, Nat.reduceMul, ev_len_sl ty_descOf_23, ev_indexAddr ty_descOf_23, ty_szOf_93, ty_shapeT_93, good_66, ev_buildSlice (len := 0) ty_descOf_23 ty_szOf_93 ty_zeroCells_93 ⟨rfl, by decide, by decide⟩, ev_slice_sl ty_descOf_23 ty_szOf_93, ev_append ty_appInfo_23, ev_appNew_sl ty_descOf_23, keep_34_2, keep_34_4, hn, s0, s3, s4]
  erw [w']
  simp only [go_sem, Nat.reduceLT, reduceIte, reduceCtorEq, Nat.reduceEqDiff, apply_ite (Option.map (outOf _)), Nat.reduceBEq, Nat.reduceAdd, Nat.reduceSub, Nat.reduceLeDiff, Nat.reduceMul, ev_len_sl ty_descOf_23, ev_indexAddr ty_descOf_23, ty_szOf_93, ty_shapeT_93, good_66, ev_buildSlice (len := 0) ty_descOf_23 ty_szOf_93 ty_zeroCells_93 ⟨rfl, by decide, by decide⟩, ev_slice_sl ty_descOf_23 ty_szOf_93, ev_append ty_appInfo_23, ev_appNew_sl ty_descOf_23, keep_34_2, keep_34_4, hr, hn', s0', s3', s4', encL_len, hb1, hb2, Int.toNat_natCast, encL_cut, hres, hlen, hlv, hlv2, lens_nil]
end Go.Abs
namespace Go.Abs
open Go Go.Proofs
set_option maxRecDepth 10000
attribute [local go_sem] exL_seq exL_region exL_cond exL_block exL_scope exL_ret exL_skip exL_exit runRegion runOps stepOp guardA absOp takeOver opd avOf cvOf St.degAt St.put okPV okVal okAV absBin intBin strBin boolBin setBoxes if_true Bool.false_eq_true if_false Option.map_some Option.map_none Option.bind_some Option.bind_none thenO outOf upd List.toList_toArray isOwn steal appArgs mvB fullAt absFull inApps AV.deg CV.deg AV.gv AV.isIter absNext some_bne some_beqN List.length_nil List.length_cons List.filterMap_cons List.filterMap_nil beq_iff_eq List.getElem?_cons_zero List.getElem?_cons_succ Option.getD_some K_hook hookB Bool.false_and Bool.and_false Bool.and_self K_P K_own absCall doCall getBoxes lend back idx dedup AV.ren CV.ren TV.ren AV.ptrs CV.ptrs zipBox AV.flat CV.flat absLoad absStore cellsOfAV setAt newBox markB bldTypes absFieldAddr absField absExtract absAssert noAssert absMkIface ifcOf CV.pv? content pushHead ownT fillCells reps pvs chunks enterSt leave resOf resVars resVar outBoxes lentOnly TV.deg TV.av LK CV.plain CV.noBld nilBin absUn bound List.map_cons List.map_nil List.all_cons List.all_nil List.any_cons List.any_nil List.contains_cons List.contains_nil List.elem_cons List.elem_nil List.cons_append List.nil_append List.append_nil List.flatMap_cons List.flatMap_nil List.zip_cons_cons List.zip_nil_left List.zip_nil_right List.take_succ_cons List.take_zero List.take_nil List.drop_succ_cons List.drop_zero List.drop_nil List.isEmpty_nil List.isEmpty_cons Bool.and_true Bool.true_and Bool.or_true Bool.true_or Bool.or_false Bool.false_or Bool.not_true Bool.not_false Nat.add_zero Nat.zero_add Option.isNone_none Option.isNone_some Option.getD_none true_and and_true not_true_eq_false not_false_eq_true decide_true decide_false Nat.le_refl and_self Bool.not_eq_true Nat.sub_self or_true true_or Option.some.injEq List.length_map List.nil_eq and_false false_and AV.live CV.live CV.liveIn K_keep firstReg Option.orElse_some Option.orElse_none head keepSlots keepBoxes Int.lt_irrefl List.length_append ite_self memOK logOps opKey lentBoxes Key.clash Key.sees Key.writes Nat.lt_irrefl gt_iff_lt nobox_at bot_at false_or or_false beq_self_eq_true Bool.true_beq Bool.false_beq
theorem blank3_den (k : Int) (t : Tok) (l : List Val) : den K 123 [.agg (valCv k t l)] [] = some (.ret (B (Sl.isBlank (.mk k t l))) []) := by
  refine den_run rfl rfl Tryz.func123 rfl Tryz.ntmps123 ⟨by simp, by simp [LK]⟩ ?_
  have hr : Tryz.f123.results = #[.tmp 2] := rfl
  have hs : Sl.isBlank (.mk k t l) = ((k == 1) && (t.kind == 8)) := rfl
  rw [hs]
  cases e1 : (k == 1)
  · simp only [go_sem, Nat.reduceLT, reduceIte, reduceCtorEq, Nat.reduceEqDiff, apply_ite (Option.map (outOf _)), Nat.reduceBEq, Nat.reduceAdd, Nat.reduceSub, Nat.reduceLeDiff, Nat.reduceMul, ty_fieldOff_93_0, ty_szOf_3, ty_shapeT_3, ty_fieldOff_93_1, ty_szOf_91, ty_fieldOff_91_0, hr, e1]
  · simp only [go_sem, Nat.reduceLT, reduceIte, reduceCtorEq, Nat.reduceEqDiff, apply_ite (Option.map (outOf _)), Nat.reduceBEq, Nat.reduceAdd, Nat.reduceSub, Nat.reduceLeDiff, Nat.reduceMul, ty_fieldOff_93_0, ty_szOf_3, ty_shapeT_3, ty_fieldOff_93_1, ty_szOf_91, ty_fieldOff_91_0, hr, e1]
abbrev trH (l : List Val) : St := { sl := upd bot 0 (L (encL l)), bx := nobox, nt := 33 }
noncomputable def trlp1 : Code := .loop (loopAt Tryz.f70 1)
noncomputable def trlp3 : Code := .loop (loopAt Tryz.f70 3)
theorem head_val (k : Int) (t : Tok) (c r : List Val) : (encL (.mk k t c :: r))[(0 : Int).toNat]? = some [.int .i64 k, .int .i64 t.kind, .str t.text, .int .i64 t.n, .sl (encL c)] := rfl
theorem cut_head (v : Val) (r : List Val) (n : Nat) (h : n = r.length + 1) : ((encL (v :: r)).take n).drop (1 : Int).toNat = encL r := by
  subst h
  rw [encL, List.take_of_length_le (by rw [List.length_cons, encL_len]; omega)]; rfl
theorem le00 : ((0 : Int) ≤ 0) = True := by simp
theorem tr1_yes (v : Val) (r : List Val) (hl : r.length ≤ 100000000) (hb : Sl.isBlank v = true) :
    exL K 70 trlp1 (trH (v :: r)) = exL K 70 trlp1 (trH r) := by
  obtain ⟨k, t, c⟩ := v
  have hlt : decide ((0 : Int) < (((r.length + 1 : Nat)) : Int)) = true := decide_eq_true (by omega)
  have hget := head_val k t c r
  have hcut := cut_head (.mk k t c) r (r.length + 1) rfl
  have hb1 : ((0 : Int) ≤ 1 ∧ (1 : Int) ≤ ((r.length + 1 : Nat) : Int)) = True := by rw [eq_iff_iff]; simp; omega
  have hlv := lens_valsK (.mk k t c :: r)
  have hd := blank3_den k t c
  rw [hb] at hd
  unfold trlp1
  conv in loopAt _ _ => whnf
  conv in loopAt _ _ => whnf
  conv in exL _ _ _ (trH (.mk k t c :: r)) => rw [exL_loop]
  simp only [go_sem, Nat.reduceLT, reduceIte, reduceCtorEq, Nat.reduceEqDiff, apply_ite (Option.map (outOf _)), Nat.reduceBEq, Nat.reduceAdd, Nat.reduceSub, Nat.reduceLeDiff, Nat.reduceMul, ev_len_sl ty_descOf_23, ev_indexAddr ty_descOf_23, ty_szOf_93, ty_shapeT_93, good_123, ev_slice_sl ty_descOf_23 ty_szOf_93, good_124, keep_70_1, keep_70_3, encL_len, List.length_cons, hlt, hget, hd, hb1, hlv, hcut, le00]
  rw [exL_head]
  simp only [go_sem, Nat.reduceLT, reduceIte, reduceCtorEq, Nat.reduceEqDiff, apply_ite (Option.map (outOf _)), Nat.reduceBEq, Nat.reduceAdd, Nat.reduceSub, Nat.reduceLeDiff, Nat.reduceMul, ev_len_sl ty_descOf_23, ev_indexAddr ty_descOf_23, ty_szOf_93, ty_shapeT_93, good_123, ev_slice_sl ty_descOf_23 ty_szOf_93, good_124, keep_70_1, keep_70_3]
theorem tr1_no (v : Val) (r : List Val) (hl : r.length ≤ 100000000) (hb : Sl.isBlank v = false) :
    Ends (exL K 70 trlp1 (trH (v :: r))) fun o S => o = .exit 0 ∧ S.nt = 33 ∧ S.sl 0 = L (encL (v :: r)) := by
  obtain ⟨k, t, c⟩ := v
  have hlt : decide ((0 : Int) < (((r.length + 1 : Nat)) : Int)) = true := decide_eq_true (by omega)
  have hget := head_val k t c r
  have hd := blank3_den k t c
  rw [hb] at hd
  unfold trlp1
  conv in loopAt _ _ => whnf
  rw [exL_loop]
  simp only [go_sem, Nat.reduceLT, reduceIte, reduceCtorEq, Nat.reduceEqDiff, apply_ite (Option.map (outOf _)), Nat.reduceBEq, Nat.reduceAdd, Nat.reduceSub, Nat.reduceLeDiff, Nat.reduceMul, ev_len_sl ty_descOf_23, ev_indexAddr ty_descOf_23, ty_szOf_93, ty_shapeT_93, good_123, ev_slice_sl ty_descOf_23 ty_szOf_93, good_124, keep_70_1, keep_70_3, encL_len, List.length_cons, hlt, hget, hd, le00, ends_some]
theorem tr1_end : Ends (exL K 70 trlp1 (trH [])) fun o S => o = .exit 0 ∧ S.nt = 33 ∧ S.sl 0 = L (encL []) := by
  have hlt : decide ((0 : Int) < ((0 : Nat) : Int)) = false := rfl
  unfold trlp1
  conv in loopAt _ _ => whnf
  rw [exL_loop]
  simp only [go_sem, Nat.reduceLT, reduceIte, reduceCtorEq, Nat.reduceEqDiff, apply_ite (Option.map (outOf _)), Nat.reduceBEq, Nat.reduceAdd, Nat.reduceSub, Nat.reduceLeDiff, Nat.reduceMul, ev_len_sl ty_descOf_23, ev_indexAddr ty_descOf_23, ty_szOf_93, ty_shapeT_93, good_123, ev_slice_sl ty_descOf_23 ty_szOf_93, good_124, keep_70_1, keep_70_3, encL_len, List.length_nil, hlt, ends_some]
theorem tr1_loop : ∀ (l : List Val), l.length ≤ 100000000 → Ends (exL K 70 trlp1 (trH l)) fun o S => o = .exit 0 ∧ S.nt = 33 ∧ S.sl 0 = L (encL (l.dropWhile Sl.isBlank))
  | [], _ => tr1_end
  | v :: r, hl => by
    rw [List.length_cons] at hl
    cases hb : Sl.isBlank v with
    | true =>
      rw [tr1_yes v r (by omega) hb, List.dropWhile_cons, if_pos hb]
      exact tr1_loop r (by omega)
    | false =>
      rw [List.dropWhile_cons, if_neg (by rw [hb]; simp)]
      exact tr1_no v r (by omega) hb
theorem last_val (m : List Val) (k : Int) (t : Tok) (c : List Val) : (encL (m ++ [.mk k t c]))[((m.length : Nat) : Int).toNat]? = some [.int .i64 k, .int .i64 t.kind, .str t.text, .int .i64 t.n, .sl (encL c)] := by
  exact encL_get (m ++ [.mk k t c]) m.length (.mk k t c) (by simp)
theorem cut_last (m : List Val) (v : Val) : (encL (m ++ [v])).take m.length = encL m := by
  rw [encL_app, List.take_append_of_le_length (by rw [encL_len]; exact Nat.le_refl _), List.take_of_length_le (by rw [encL_len]; exact Nat.le_refl _)]
theorem tr3_yes (m : List Val) (v : Val) (hl : m.length ≤ 100000000) (hb : Sl.isBlank v = true) :
    exL K 70 trlp3 (trH (m ++ [v])) = exL K 70 trlp3 (trH m) := by
  obtain ⟨k, t, c⟩ := v
  have hn : (encL (m ++ [.mk k t c])).length = m.length + 1 := by rw [encL_len]; simp
  have hlt : decide ((0 : Int) < (((m.length + 1 : Nat)) : Int)) = true := decide_eq_true (by omega)
  have hw : IntKind.i64.wrap (((m.length + 1 : Nat) : Int) - 1) = (m.length : Int) := by rw [IntWalk.i64_in _ (by omega)]; omega
  have hget := last_val m k t c
  have hcut := cut_last m (.mk k t c)
  have hb1 : ((m.length : Int) ≤ ((m.length + 1 : Nat) : Int)) = True := by rw [eq_iff_iff]; simp; omega
  have hlv := lens_valsK (m ++ [.mk k t c])
  have hd := blank3_den k t c
  rw [hb] at hd
  rw [Int.toNat_natCast] at hget
  unfold trlp3
  conv in loopAt _ _ => whnf
  conv in loopAt _ _ => whnf
  conv in exL _ _ _ (trH (m ++ [.mk k t c])) => rw [exL_loop]
  simp only [go_sem, Nat.reduceLT, reduceIte, reduceCtorEq, Nat.reduceEqDiff, apply_ite (Option.map (outOf _)), Nat.reduceBEq, Nat.reduceAdd, Nat.reduceSub, Nat.reduceLeDiff, Nat.reduceMul, ev_len_sl ty_descOf_23, ev_indexAddr ty_descOf_23, ty_szOf_93, ty_shapeT_93, good_123, ev_slice_sl ty_descOf_23 ty_szOf_93, good_124, keep_70_1, keep_70_3, hn, hlt, hw, Int.natCast_nonneg, Int.toNat_natCast, hget, hd, hb1, hlv, hcut]
  rw [exL_head]
  simp only [go_sem, Nat.reduceLT, reduceIte, reduceCtorEq, Nat.reduceEqDiff, apply_ite (Option.map (outOf _)), Nat.reduceBEq, Nat.reduceAdd, Nat.reduceSub, Nat.reduceLeDiff, Nat.reduceMul, ev_len_sl ty_descOf_23, ev_indexAddr ty_descOf_23, ty_szOf_93, ty_shapeT_93, good_123, ev_slice_sl ty_descOf_23 ty_szOf_93, good_124, keep_70_1, keep_70_3]
theorem tr3_no (m : List Val) (v : Val) (hl : m.length ≤ 100000000) (hb : Sl.isBlank v = false) :
    Ends (exL K 70 trlp3 (trH (m ++ [v]))) fun o S => o = .exit 2 ∧ S.nt = 33 ∧ S.sl 0 = L (encL (m ++ [v])) := by
  obtain ⟨k, t, c⟩ := v
  have hn : (encL (m ++ [.mk k t c])).length = m.length + 1 := by rw [encL_len]; simp
  have hlt : decide ((0 : Int) < (((m.length + 1 : Nat)) : Int)) = true := decide_eq_true (by omega)
  have hw : IntKind.i64.wrap (((m.length + 1 : Nat) : Int) - 1) = (m.length : Int) := by rw [IntWalk.i64_in _ (by omega)]; omega
  have hget := last_val m k t c
  have hd := blank3_den k t c
  rw [hb] at hd
  rw [Int.toNat_natCast] at hget
  unfold trlp3
  conv in loopAt _ _ => whnf
  rw [exL_loop]
  simp only [go_sem, Nat.reduceLT, reduceIte, reduceCtorEq, Nat.reduceEqDiff, apply_ite (Option.map (outOf _)), Nat.reduceBEq, Nat.reduceAdd, Nat.reduceSub, Nat.reduceLeDiff, Nat.reduceMul, ev_len_sl ty_descOf_23, ev_indexAddr ty_descOf_23, ty_szOf_93, ty_shapeT_93, good_123, ev_slice_sl ty_descOf_23 ty_szOf_93, good_124, keep_70_1, keep_70_3, hn, hlt, hw, Int.natCast_nonneg, Int.toNat_natCast, hget, hd, ends_some]
theorem tr3_end : Ends (exL K 70 trlp3 (trH [])) fun o S => o = .exit 2 ∧ S.nt = 33 ∧ S.sl 0 = L (encL []) := by
  have hlt : decide ((0 : Int) < ((0 : Nat) : Int)) = false := rfl
  unfold trlp3
  conv in loopAt _ _ => whnf
  rw [exL_loop]
  simp only [go_sem, Nat.reduceLT, reduceIte, reduceCtorEq, Nat.reduceEqDiff, apply_ite (Option.map (outOf _)), Nat.reduceBEq, Nat.reduceAdd, Nat.reduceSub, Nat.reduceLeDiff, Nat.reduceMul, ev_len_sl ty_descOf_23, ev_indexAddr ty_descOf_23, ty_szOf_93, ty_shapeT_93, good_123, ev_slice_sl ty_descOf_23 ty_szOf_93, good_124, keep_70_1, keep_70_3, encL_len, List.length_nil, hlt, ends_some]
theorem tr3_loop : ∀ (n : Nat) (l : List Val), l.length = n → l.length ≤ 100000000 → Ends (exL K 70 trlp3 (trH l)) fun o S => o = .exit 2 ∧ S.nt = 33 ∧ S.sl 0 = L (encL (l.reverse.dropWhile Sl.isBlank).reverse)
  | 0, l, h, _ => by
    obtain rfl : l = [] := List.eq_nil_of_length_eq_zero h
    exact tr3_end
  | n + 1, l, h, hl => by
    obtain ⟨m, v, rfl⟩ : ∃ m v, l = m ++ [v] := ⟨l.dropLast, l.getLast (fun e => by rw [e] at h; simp at h), (List.dropLast_concat_getLast _).symm⟩
    rw [List.length_append, List.length_singleton] at h hl
    rw [List.reverse_append, List.reverse_singleton, List.singleton_append]
    cases hb : Sl.isBlank v with
    | true =>
      rw [tr3_yes m v (by omega) hb, List.dropWhile_cons, if_pos hb]
      exact tr3_loop n m (by omega) (by omega)
    | false =>
      rw [List.dropWhile_cons, if_neg (by rw [hb]; simp), List.reverse_cons, List.reverse_reverse]
      exact tr3_no m v (by omega) hb
theorem Clone_den (l : List Val) (hl : l.length ≤ 1000000000) : den K 124 [L (encL l)] [] = some (.ret (L (encL l)) []) := by
  refine prim_run (F := pClone) rfl ?_
  show (if (encL l).length ≤ 1000000000 ∧ (encL l).all (fun el => el.length == 5) then _ else none) = _
  have h2 : (encL l).all (fun el => el.length == 5) = true := lens_valsK l
  rw [if_pos ⟨by rw [encL_len]; exact hl, h2⟩]
theorem TrimS_den (l : List Val) (hl : l.length ≤ 100000000) : den K 70 [L (encL l)] [] = some (.ret (L (encL (Sl.trim l))) []) := by
  have h1 := tr1_loop l hl
  have hlen := (List.dropWhile_sublist Sl.isBlank (l := l)).length_le
  have h3 := tr3_loop _ (l.dropWhile Sl.isBlank) rfl (by omega)
  unfold trlp1 at h1
  conv at h1 in loopAt _ _ => whnf
  obtain ⟨o, S, w, rfl, hn, s0⟩ := h1
  unfold trlp3 at h3
  conv at h3 in loopAt _ _ => whnf
  obtain ⟨o', S', w', rfl, hn', s0'⟩ := h3
  have hc := Clone_den (Sl.trim l) (by have := Sl.trim_len l; omega)
  have e : (((l.dropWhile Sl.isBlank).reverse).dropWhile Sl.isBlank).reverse = Sl.trim l := rfl
  rw [e] at s0'
  refine den_run rfl rfl Tryz.func70 rfl Tryz.ntmps70 ⟨by simp, by simp [LK]⟩ ?_
  have hr : Tryz.f70.results = #[.tmp 2] := rfl
  simp only [go_sem, Nat.reduceLT, reduceIte, reduceCtorEq, Nat.reduceEqDiff, apply_ite (Option.map (outOf _)), Nat.reduceBEq, Nat.reduceAdd, Nat.reduceSub, Nat.reduceLeDiff, Nat.reduceMul, ev_len_sl ty_descOf_23, ev_indexAddr ty_descOf_23, ty_szOf_93, ty_shapeT_93, good_123, ev_slice_sl ty_descOf_23 ty_szOf_93, good_124, keep_70_1, keep_70_3]
  rw [exL_head]
  simp only [go_sem, Nat.reduceLT, reduceIte, reduceCtorEq, Nat.reduceEqDiff, apply_ite (Option.map (outOf _)), Nat.reduceBEq, Nat.reduceAdd, Nat.reduceSub, Nat.reduceLeDiff, Nat.reduceMul, ev_len_sl ty_descOf_23, ev_indexAddr ty_descOf_23, ty_szOf_93, ty_shapeT_93, good_123, ev_slice_sl ty_descOf_23 ty_szOf_93, good_124, keep_70_1, keep_70_3]
  erw [w]
  simp only [go_sem, Nat.reduceLT, reduceIte, reduceCtorEq, Nat.reduceEqDiff, apply_ite (Option.map (outOf _)), Nat.reduceBEq, Nat.reduceAdd, Nat.reduceSub, Nat.reduceLeDiff, Nat.reduceMul, ev_len_sl ty_descOf_23, ev_indexAddr ty_descOf_23, ty_szOf_93, ty_shapeT_93, good_123, ev_slice_sl ty_descOf_23 ty_szOf_93, good_124, keep_70_1, keep_70_3, hn, s0]
  rw [exL_head]
  simp only [go_sem, Nat.reduceLT, reduceIte, reduceCtorEq, Nat.reduceEqDiff, apply_ite (Option.map (outOf _)), Nat.reduceBEq, Nat.reduceAdd, Nat.reduceSub, Nat.reduceLeDiff, Nat.reduceMul, ev_len_sl ty_descOf_23, ev_indexAddr ty_descOf_23, ty_szOf_93, ty_shapeT_93, good_123, ev_slice_sl ty_descOf_23 ty_szOf_93, good_124, keep_70_1, keep_70_3, hn, s0]
  erw [w']
  simp only [go_sem, Nat.reduceLT, reduceIte, reduceCtorEq, Nat.reduceEqDiff, apply_ite (Option.map (outOf _)), Nat.reduceBEq, Nat.reduceAdd, Nat.reduceSub, Nat.reduceLeDiff, Nat.reduceMul, ev_len_sl ty_descOf_23, ev_indexAddr ty_descOf_23, ty_szOf_93, ty_shapeT_93, good_123, ev_slice_sl ty_descOf_23 ty_szOf_93, good_124, keep_70_1, keep_70_3, hr, hn', s0', hc]
end Go.Abs
namespace Go.Abs
open Go Go.Proofs
set_option maxRecDepth 10000
attribute [local go_sem] exL_seq exL_region exL_cond exL_block exL_scope exL_ret exL_skip exL_exit runRegion runOps stepOp guardA absOp takeOver opd avOf cvOf St.degAt St.put okPV okVal okAV absBin intBin strBin boolBin setBoxes if_true Bool.false_eq_true if_false Option.map_some Option.map_none Option.bind_some Option.bind_none thenO outOf upd List.toList_toArray isOwn steal appArgs mvB fullAt absFull inApps AV.deg CV.deg AV.gv AV.isIter absNext some_bne some_beqN List.length_nil List.length_cons List.filterMap_cons List.filterMap_nil beq_iff_eq List.getElem?_cons_zero List.getElem?_cons_succ Option.getD_some K_hook hookB Bool.false_and Bool.and_false Bool.and_self K_P K_own absCall doCall getBoxes lend back idx dedup AV.ren CV.ren TV.ren AV.ptrs CV.ptrs zipBox AV.flat CV.flat absLoad absStore cellsOfAV setAt newBox markB bldTypes absFieldAddr absField absExtract absAssert noAssert absMkIface ifcOf CV.pv? content pushHead ownT fillCells reps pvs chunks enterSt leave resOf resVars resVar outBoxes lentOnly TV.deg TV.av LK CV.plain CV.noBld nilBin absUn bound List.map_cons List.map_nil List.all_cons List.all_nil List.any_cons List.any_nil List.contains_cons List.contains_nil List.elem_cons List.elem_nil List.cons_append List.nil_append List.append_nil List.flatMap_cons List.flatMap_nil List.zip_cons_cons List.zip_nil_left List.zip_nil_right List.take_succ_cons List.take_zero List.take_nil List.drop_succ_cons List.drop_zero List.drop_nil List.isEmpty_nil List.isEmpty_cons Bool.and_true Bool.true_and Bool.or_true Bool.true_or Bool.or_false Bool.false_or Bool.not_true Bool.not_false Nat.add_zero Nat.zero_add Option.isNone_none Option.isNone_some Option.getD_none true_and and_true not_true_eq_false not_false_eq_true decide_true decide_false Nat.le_refl and_self Bool.not_eq_true Nat.sub_self or_true true_or Option.some.injEq List.length_map List.nil_eq and_false false_and AV.live CV.live CV.liveIn K_keep firstReg Option.orElse_some Option.orElse_none head keepSlots keepBoxes Int.lt_irrefl List.length_append ite_self memOK logOps opKey lentBoxes Key.clash Key.sees Key.writes Nat.lt_irrefl gt_iff_lt nobox_at bot_at false_or or_false beq_self_eq_true Bool.true_beq Bool.false_beq
abbrev U (c : UInt8) : AV := .c (.pv (.int .u8 c.toNat))
theorem digit_eq (c : UInt8) : Tk.digit c = (decide ((48 : Int) ≤ (c.toNat : Int)) && decide ((c.toNat : Int) ≤ 57)) := by
  unfold Tk.digit; rw [← Bool.decide_and]; exact decide_eq_decide.2 (by omega)
theorem begins_eq (c : UInt8) : Tk.begins c = ((decide ((97 : Int) ≤ (c.toNat : Int)) && decide ((c.toNat : Int) ≤ 122)) || (decide ((65 : Int) ≤ (c.toNat : Int)) && decide ((c.toNat : Int) ≤ 90)) || ((c.toNat : Int) == 95) || decide ((128 : Int) ≤ (c.toNat : Int))) := by
  have e : ((c.toNat : Int) == 95) = decide ((c.toNat : Int) = 95) := by
    by_cases h : (c.toNat : Int) = 95 <;> simp [h]
  rw [e]
  unfold Tk.begins
  rw [← Bool.decide_and, ← Bool.decide_and, ← Bool.decide_or, ← Bool.decide_or, ← Bool.decide_or]
  exact decide_eq_decide.2 (by omega)
theorem u8_beq (c d : UInt8) : ((c.toNat : Int) == (d.toNat : Int)) = (c == d) := by
  by_cases e : c = d
  · subst e; simp
  · have : c.toNat ≠ d.toNat := fun h2 => e (UInt8.toNat_inj.1 h2)
    rw [beq_eq_false_iff_ne.2 e, beq_eq_false_iff_ne.2 (by omega)]
theorem digit_den (c : UInt8) : den K 185 [U c] [] = some (.ret (B (Tk.digit c)) []) := by
  refine den_run rfl rfl Tryz.func185 rfl Tryz.ntmps185 ⟨by simp, by simp [LK]⟩ ?_
  have hr : Tryz.f185.results = #[.tmp 2] := rfl
  rw [digit_eq]
  cases b1 : decide ((48 : Int) ≤ (c.toNat : Int)) <;> cases b2 : decide ((c.toNat : Int) ≤ 57) <;> simp only [go_sem, Nat.reduceLT, reduceIte, reduceCtorEq, Nat.reduceEqDiff, apply_ite (Option.map (outOf _)), Nat.reduceBEq, Nat.reduceAdd, Nat.reduceSub, Nat.reduceLeDiff, Nat.reduceMul, nobox_at, hr, b1, b2]
set_option maxHeartbeats 8000000 in
theorem begins_den (c : UInt8) : den K 209 [U c] [] = some (.ret (B (Tk.begins c)) []) := by
  refine den_run rfl rfl Tryz.func209 rfl Tryz.ntmps209 ⟨by simp, by simp [LK]⟩ ?_
  have hr : Tryz.f209.results = #[.tmp 2] := rfl
  rw [begins_eq]
  cases b1 : decide ((97 : Int) ≤ (c.toNat : Int)) <;> cases b2 : decide ((c.toNat : Int) ≤ 122) <;> cases b3 : decide ((65 : Int) ≤ (c.toNat : Int)) <;> cases b4 : decide ((c.toNat : Int) ≤ 90) <;> cases b5 : ((c.toNat : Int) == 95) <;> cases b6 : decide ((128 : Int) ≤ (c.toNat : Int)) <;> simp only [go_sem, Nat.reduceLT, reduceIte, reduceCtorEq, Nat.reduceEqDiff, apply_ite (Option.map (outOf _)), Nat.reduceBEq, Nat.reduceAdd, Nat.reduceSub, Nat.reduceLeDiff, Nat.reduceMul, nobox_at, hr, b1, b2, b3, b4, b5, b6]
theorem within_den (c : UInt8) : den K 184 [U c] [] = some (.ret (B (Tk.within c)) []) := by
  have d1 := begins_den c
  have d2 := digit_den c
  have e45 : ((c.toNat : Int) == 45) = (c == 45) := u8_beq c 45
  refine den_run rfl rfl Tryz.func184 rfl Tryz.ntmps184 ⟨by simp, by simp [LK]⟩ ?_
  have hr : Tryz.f184.results = #[.tmp 2] := rfl
  unfold Tk.within
  cases b1 : Tk.begins c <;> cases b2 : Tk.digit c <;> cases b3 : (c == 45) <;> rw [b1] at d1 <;> rw [b2] at d2 <;> rw [b3] at e45 <;> simp only [go_sem, Nat.reduceLT, reduceIte, reduceCtorEq, Nat.reduceEqDiff, apply_ite (Option.map (outOf _)), Nat.reduceBEq, Nat.reduceAdd, Nat.reduceSub, Nat.reduceLeDiff, Nat.reduceMul, good_209, good_185, hr, d1, d2, e45]
theorem at0_drop (s : List UInt8) (i : Nat) : (s[i]? = none ∧ Tk.at0 (s.drop i) = 0 ∧ s.length ≤ i) ∨ (i < s.length ∧ s[i]? = some (Tk.at0 (s.drop i))) := by
  by_cases h : i < s.length
  · right
    refine ⟨h, ?_⟩
    rw [List.drop_eq_getElem_cons h, Tk.at0_cons, List.getElem?_eq_getElem h]
  · left
    refine ⟨List.getElem?_eq_none (by omega), ?_, by omega⟩
    rw [List.drop_eq_nil_of_le (by omega)]; rfl
theorem at_den (s : List UInt8) (i : Nat) (hs : s.length < 1000000000000) : den K 175 [T s, I i] [] = some (.ret (U (Tk.at0 (s.drop i))) []) := by
  refine den_run rfl rfl Tryz.func175 rfl Tryz.ntmps175 ⟨by simp, by simp [LK]⟩ ?_
  have hr : Tryz.f175.results = #[.tmp 4] := rfl
  rcases at0_drop s i with ⟨h1, h2, h3⟩ | ⟨h1, h2⟩
  · have hlt : decide ((i : Int) < (s.length : Int)) = false := decide_eq_false (by omega)
    rw [h2]
    simp only [go_sem, Nat.reduceLT, reduceIte, reduceCtorEq, Nat.reduceEqDiff, apply_ite (Option.map (outOf _)), Nat.reduceBEq, Nat.reduceAdd, Nat.reduceSub, Nat.reduceLeDiff, Nat.reduceMul, ev_len_str ty_descOf_181, ev_index ty_descOf_181, hr, hlt]
    rfl
  · have hlt : decide ((i : Int) < (s.length : Int)) = true := decide_eq_true (by omega)
    simp only [go_sem, Nat.reduceLT, reduceIte, reduceCtorEq, Nat.reduceEqDiff, apply_ite (Option.map (outOf _)), Nat.reduceBEq, Nat.reduceAdd, Nat.reduceSub, Nat.reduceLeDiff, Nat.reduceMul, ev_len_str ty_descOf_181, ev_index ty_descOf_181, hr, hlt, Int.natCast_nonneg, Int.toNat_natCast, h2]
abbrev FN (f : Nat) : AV := .c (.fn f [])
abbrev runH (s : List UInt8) (from_ : Nat) (f n : Nat) : St := { sl := upd (upd (upd (upd bot 7 (I n)) 2 (FN f)) 1 (I from_)) 0 (T s), bx := upd nobox 100000 none, nt := 26 }
theorem run_loop (s : List UInt8) (hs : s.length < 1000000000000) (p : UInt8 → Bool) (f : Nat) (hg : K.good f = true) (hown : K.ownRet f = false) (hf : ∀ c, den K f [U c] [] = some (.ret (B (p c)) [])) (from_ : Nat) : ∀ (rest : List UInt8) (n : Nat), s.drop (from_ + n) = rest → from_ + n ≤ s.length →
    Ends (exL K 182 (.loop (loopAt Tryz.f182 2)) (runH s from_ f n)) fun o S => o = .exit 0 ∧ S.sl 7 = I (n + Tk.run p rest : Nat) ∧ S.nt = 26 := by
  intro rest
  induction rest with
  | nil =>
    intro n hd hn
    have hin : from_ + n = s.length := by
      have := List.drop_eq_nil_iff.1 hd
      omega
    have w1 : IntKind.i64.wrap ((from_ : Int) + (n : Int)) = ((from_ + n : Nat) : Int) := by rw [IntWalk.i64_in _ (by omega)]; rfl
    have hlt : decide (((from_ + n : Nat) : Int) < (s.length : Int)) = false := decide_eq_false (by omega)
    conv in loopAt _ _ => whnf
    rw [exL_loop]
    simp only [go_sem, Nat.reduceLT, reduceIte, reduceCtorEq, Nat.reduceEqDiff, apply_ite (Option.map (outOf _)), Nat.reduceBEq, Nat.reduceAdd, Nat.reduceSub, Nat.reduceLeDiff, Nat.reduceMul, ev_len_str ty_descOf_181, ev_index ty_descOf_181, keep_182_2, ends_some, w1, hlt, Tk.run_nil]
  | cons c rest ih =>
    intro n hd hn
    obtain ⟨g1, g2, g3⟩ := drop_cons hd
    have w1 : IntKind.i64.wrap ((from_ : Int) + (n : Int)) = ((from_ + n : Nat) : Int) := by rw [IntWalk.i64_in _ (by omega)]; rfl
    have hlt : decide (((from_ + n : Nat) : Int) < (s.length : Int)) = true := decide_eq_true (by omega)
    have hc := hf c
    have ih' := ih (n + 1) g2 (by omega)
    conv at ih' in loopAt _ _ => whnf
    conv in loopAt _ _ => whnf
    rw [exL_loop]
    cases hp : p c
    · rw [hp] at hc
      have hv : Tk.run p (c :: rest) = 0 := by rw [Tk.run, if_neg (by simp [hp])]
      simp only [go_sem, Nat.reduceLT, reduceIte, reduceCtorEq, Nat.reduceEqDiff, apply_ite (Option.map (outOf _)), Nat.reduceBEq, Nat.reduceAdd, Nat.reduceSub, Nat.reduceLeDiff, Nat.reduceMul, ev_len_str ty_descOf_181, ev_index ty_descOf_181, keep_182_2, ends_some, w1, hlt, hg, hown, hc, Int.natCast_nonneg, Int.toNat_natCast, g1, hv]
    · rw [hp] at hc
      have hv : n + 1 + Tk.run p rest = n + Tk.run p (c :: rest) := by rw [Tk.run, if_pos hp]; omega
      rw [hv] at ih'
      simp only [go_sem, Nat.reduceLT, reduceIte, reduceCtorEq, Nat.reduceEqDiff, apply_ite (Option.map (outOf _)), Nat.reduceBEq, Nat.reduceAdd, Nat.reduceSub, Nat.reduceLeDiff, Nat.reduceMul, ev_len_str ty_descOf_181, ev_index ty_descOf_181, keep_182_2, w1, hlt, hg, hown, hc, Int.natCast_nonneg, Int.toNat_natCast, g1, wrap_nat n (by omega)]
      rw [exL_head]
      simp only [go_sem, Nat.reduceLT, reduceIte, reduceCtorEq, Nat.reduceEqDiff, apply_ite (Option.map (outOf _)), Nat.reduceBEq, Nat.reduceAdd, Nat.reduceSub, Nat.reduceLeDiff, Nat.reduceMul, ev_len_str ty_descOf_181, ev_index ty_descOf_181, keep_182_2]
      exact ih'
theorem run_den (s : List UInt8) (hs : s.length < 1000000000000) (p : UInt8 → Bool) (f : Nat) (hg : K.good f = true) (hown : K.ownRet f = false) (hf : ∀ c, den K f [U c] [] = some (.ret (B (p c)) [])) (from_ : Nat) (h : from_ ≤ s.length) : den K 182 [T s, I from_, FN f] [] = some (.ret (I (Tk.run p (s.drop from_) : Nat)) []) := by
  refine den_run rfl rfl Tryz.func182 rfl Tryz.ntmps182 ⟨by simp, by simp [LK]⟩ ?_
  have hr : Tryz.f182.results = #[.tmp 6] := rfl
  have hnext := run_loop s hs p f hg hown hf from_ (s.drop from_) 0 rfl (by omega)
  conv at hnext in loopAt _ _ => whnf
  obtain ⟨o, S', e, rfl, h7, hn⟩ := hnext
  rw [Nat.zero_add] at h7
  simp only [go_sem, Nat.reduceLT, reduceIte, reduceCtorEq, Nat.reduceEqDiff, apply_ite (Option.map (outOf _)), Nat.reduceBEq, Nat.reduceAdd, Nat.reduceSub, Nat.reduceLeDiff, Nat.reduceMul, ev_len_str ty_descOf_181, ev_index ty_descOf_181, keep_182_2]
  rw [exL_head]
  simp only [go_sem, Nat.reduceLT, reduceIte, reduceCtorEq, Nat.reduceEqDiff, apply_ite (Option.map (outOf _)), Nat.reduceBEq, Nat.reduceAdd, Nat.reduceSub, Nat.reduceLeDiff, Nat.reduceMul, ev_len_str ty_descOf_181, ev_index ty_descOf_181, keep_182_2]
  erw [e]
  simp only [go_sem, Nat.reduceLT, reduceIte, reduceCtorEq, Nat.reduceEqDiff, apply_ite (Option.map (outOf _)), Nat.reduceBEq, Nat.reduceAdd, Nat.reduceSub, Nat.reduceLeDiff, Nat.reduceMul, ev_len_str ty_descOf_181, ev_index ty_descOf_181, keep_182_2, hr, h7, hn]
end Go.Abs
namespace Go.Abs
open Go Go.Proofs
set_option maxRecDepth 10000
theorem name_den (s : List UInt8) (hs : s.length < 4000000000) (i : Nat) (h : i ≤ s.length) : den K 176 [T s, I i] [] = some (.ret (I (Tk.name (s.drop i) : Nat)) []) := by
  have d1 := at_den s i (by omega)
  have d2 := at_den s (i + 1) (by omega)
  have ht : (s.drop i).tail = s.drop (i + 1) := List.tail_drop
  have hrun := run_den s (by omega) Tk.within 184 good_184 rfl within_den i h
  unfold Tk.name Tk.nameB
  rw [ht]
  generalize Tk.at0 (s.drop i) = c at d1
  generalize Tk.at0 (s.drop (i + 1)) = d at d2
  have b1 := begins_den c
  have b2 := begins_den d
  have e1 : ((c.toNat : Int) == 45) = (c == 45) := u8_beq c 45
  have e2 : ((d.toNat : Int) == 45) = (d == 45) := u8_beq d 45
  refine den_run rfl rfl Tryz.func176 rfl Tryz.ntmps176 ⟨by simp, by simp [LK]⟩ ?_
  have hr : Tryz.f176.results = #[.tmp 4] := rfl
  cases h1 : Tk.begins c
  · rw [h1] at b1
    cases h2 : (c == 45)
    · rw [h2] at e1
      simp only [exL_seq, exL_region, exL_cond, exL_block, exL_scope, exL_ret, exL_skip, exL_exit, runRegion, runOps, stepOp, guardA, absOp, takeOver, opd, avOf, cvOf, St.degAt, St.put, okPV, okVal, okAV, absBin, intBin, strBin, boolBin, setBoxes, if_true, Bool.false_eq_true, if_false, Option.map_some, Option.map_none, Option.bind_some, Option.bind_none, thenO, outOf, upd, List.toList_toArray, isOwn, steal, appArgs, mvB, fullAt, absFull, inApps, AV.deg, CV.deg, AV.gv, AV.isIter, absNext, some_bne, some_beqN, Nat.reduceLT, reduceIte, reduceCtorEq, Nat.reduceEqDiff, List.length_nil, List.length_cons, apply_ite (Option.map (outOf _)), List.filterMap_cons, List.filterMap_nil, beq_iff_eq, List.getElem?_cons_zero, List.getElem?_cons_succ, Option.getD_some, K_hook, hookB, Nat.reduceBEq, Bool.false_and, Bool.and_false, Bool.and_self, K_P, K_own, absCall, doCall, getBoxes, lend, back, idx, dedup, AV.ren, CV.ren, TV.ren, AV.ptrs, CV.ptrs, zipBox, AV.flat, CV.flat, absLoad, absStore, cellsOfAV, setAt, newBox, markB, bldTypes, absFieldAddr, absField, absExtract, absAssert, noAssert, absMkIface, ifcOf, CV.pv?, content, pushHead, ownT, fillCells, reps, pvs, chunks, enterSt, leave, resOf, resVars, resVar, outBoxes, lentOnly, TV.deg, TV.av, LK, CV.plain, CV.noBld, nilBin, absUn, bound, List.map_cons, List.map_nil, List.all_cons, List.all_nil, List.any_cons, List.any_nil, List.contains_cons, List.contains_nil, List.elem_cons, List.elem_nil, List.cons_append, List.nil_append, List.append_nil, List.flatMap_cons, List.flatMap_nil, List.zip_cons_cons, List.zip_nil_left, List.zip_nil_right, List.take_succ_cons, List.take_zero, List.take_nil, List.drop_succ_cons, List.drop_zero, List.drop_nil, List.isEmpty_nil, List.isEmpty_cons, Bool.and_true, Bool.true_and, Bool.or_true, Bool.true_or, Bool.or_false, Bool.false_or, Bool.not_true, Bool.not_false, Nat.reduceAdd, Nat.reduceSub, Nat.reduceLeDiff, Nat.add_zero, Nat.zero_add, Nat.reduceMul, Option.isNone_none, Option.isNone_some, Option.getD_none, true_and, and_true, not_true_eq_false, not_false_eq_true, decide_true, decide_false, List.toList_toArray, Nat.le_refl, and_self, Bool.not_eq_true, Nat.sub_self, or_true, true_or, Option.some.injEq, List.length_map, List.nil_eq, and_false, false_and, AV.live, CV.live, CV.liveIn, K_keep, firstReg, Option.orElse_some, Option.orElse_none, head, keepSlots, keepBoxes, Int.lt_irrefl, List.length_append, ite_self, memOK, logOps, opKey, lentBoxes, Key.clash, Key.sees, Key.writes, Nat.lt_irrefl, gt_iff_lt, nobox_at, bot_at, false_or, or_false, beq_self_eq_true, Bool.true_beq, Bool.false_beq, good_175, good_209, good_182, hr, d1, d2, b1, e1, wrap_nat i (by omega)]
      rfl
    · rw [h2] at e1
      cases h3 : Tk.begins d
      · rw [h3] at b2
        cases h4 : (d == 45)
        · rw [h4] at e2
          simp only [exL_seq, exL_region, exL_cond, exL_block, exL_scope, exL_ret, exL_skip, exL_exit, runRegion, runOps, stepOp, guardA, absOp, takeOver, opd, avOf, cvOf, St.degAt, St.put, okPV, okVal, okAV, absBin, intBin, strBin, boolBin, setBoxes, if_true, Bool.false_eq_true, if_false, Option.map_some, Option.map_none, Option.bind_some, Option.bind_none, thenO, outOf, upd, List.toList_toArray, isOwn, steal, appArgs, mvB, fullAt, absFull, inApps, AV.deg, CV.deg, AV.gv, AV.isIter, absNext, some_bne, some_beqN, Nat.reduceLT, reduceIte, reduceCtorEq, Nat.reduceEqDiff, List.length_nil, List.length_cons, apply_ite (Option.map (outOf _)), List.filterMap_cons, List.filterMap_nil, beq_iff_eq, List.getElem?_cons_zero, List.getElem?_cons_succ, Option.getD_some, K_hook, hookB, Nat.reduceBEq, Bool.false_and, Bool.and_false, Bool.and_self, K_P, K_own, absCall, doCall, getBoxes, lend, back, idx, dedup, AV.ren, CV.ren, TV.ren, AV.ptrs, CV.ptrs, zipBox, AV.flat, CV.flat, absLoad, absStore, cellsOfAV, setAt, newBox, markB, bldTypes, absFieldAddr, absField, absExtract, absAssert, noAssert, absMkIface, ifcOf, CV.pv?, content, pushHead, ownT, fillCells, reps, pvs, chunks, enterSt, leave, resOf, resVars, resVar, outBoxes, lentOnly, TV.deg, TV.av, LK, CV.plain, CV.noBld, nilBin, absUn, bound, List.map_cons, List.map_nil, List.all_cons, List.all_nil, List.any_cons, List.any_nil, List.contains_cons, List.contains_nil, List.elem_cons, List.elem_nil, List.cons_append, List.nil_append, List.append_nil, List.flatMap_cons, List.flatMap_nil, List.zip_cons_cons, List.zip_nil_left, List.zip_nil_right, List.take_succ_cons, List.take_zero, List.take_nil, List.drop_succ_cons, List.drop_zero, List.drop_nil, List.isEmpty_nil, List.isEmpty_cons, Bool.and_true, Bool.true_and, Bool.or_true, Bool.true_or, Bool.or_false, Bool.false_or, Bool.not_true, Bool.not_false, Nat.reduceAdd, Nat.reduceSub, Nat.reduceLeDiff, Nat.add_zero, Nat.zero_add, Nat.reduceMul, Option.isNone_none, Option.isNone_some, Option.getD_none, true_and, and_true, not_true_eq_false, not_false_eq_true, decide_true, decide_false, List.toList_toArray, Nat.le_refl, and_self, Bool.not_eq_true, Nat.sub_self, or_true, true_or, Option.some.injEq, List.length_map, List.nil_eq, and_false, false_and, AV.live, CV.live, CV.liveIn, K_keep, firstReg, Option.orElse_some, Option.orElse_none, head, keepSlots, keepBoxes, Int.lt_irrefl, List.length_append, ite_self, memOK, logOps, opKey, lentBoxes, Key.clash, Key.sees, Key.writes, Nat.lt_irrefl, gt_iff_lt, nobox_at, bot_at, false_or, or_false, beq_self_eq_true, Bool.true_beq, Bool.false_beq, good_175, good_209, good_182, hr, d1, d2, b1, b2, e1, e2, wrap_nat i (by omega)]
          rfl
        · rw [h4] at e2
          simp only [exL_seq, exL_region, exL_cond, exL_block, exL_scope, exL_ret, exL_skip, exL_exit, runRegion, runOps, stepOp, guardA, absOp, takeOver, opd, avOf, cvOf, St.degAt, St.put, okPV, okVal, okAV, absBin, intBin, strBin, boolBin, setBoxes, if_true, Bool.false_eq_true, if_false, Option.map_some, Option.map_none, Option.bind_some, Option.bind_none, thenO, outOf, upd, List.toList_toArray, isOwn, steal, appArgs, mvB, fullAt, absFull, inApps, AV.deg, CV.deg, AV.gv, AV.isIter, absNext, some_bne, some_beqN, Nat.reduceLT, reduceIte, reduceCtorEq, Nat.reduceEqDiff, List.length_nil, List.length_cons, apply_ite (Option.map (outOf _)), List.filterMap_cons, List.filterMap_nil, beq_iff_eq, List.getElem?_cons_zero, List.getElem?_cons_succ, Option.getD_some, K_hook, hookB, Nat.reduceBEq, Bool.false_and, Bool.and_false, Bool.and_self, K_P, K_own, absCall, doCall, getBoxes, lend, back, idx, dedup, AV.ren, CV.ren, TV.ren, AV.ptrs, CV.ptrs, zipBox, AV.flat, CV.flat, absLoad, absStore, cellsOfAV, setAt, newBox, markB, bldTypes, absFieldAddr, absField, absExtract, absAssert, noAssert, absMkIface, ifcOf, CV.pv?, content, pushHead, ownT, fillCells, reps, pvs, chunks, enterSt, leave, resOf, resVars, resVar, outBoxes, lentOnly, TV.deg, TV.av, LK, CV.plain, CV.noBld, nilBin, absUn, bound, List.map_cons, List.map_nil, List.all_cons, List.all_nil, List.any_cons, List.any_nil, List.contains_cons, List.contains_nil, List.elem_cons, List.elem_nil, List.cons_append, List.nil_append, List.append_nil, List.flatMap_cons, List.flatMap_nil, List.zip_cons_cons, List.zip_nil_left, List.zip_nil_right, List.take_succ_cons, List.take_zero, List.take_nil, List.drop_succ_cons, List.drop_zero, List.drop_nil, List.isEmpty_nil, List.isEmpty_cons, Bool.and_true, Bool.true_and, Bool.or_true, Bool.true_or, Bool.or_false, Bool.false_or, Bool.not_true, Bool.not_false, Nat.reduceAdd, Nat.reduceSub, Nat.reduceLeDiff, Nat.add_zero, Nat.zero_add, Nat.reduceMul, Option.isNone_none, Option.isNone_some, Option.getD_none, true_and, and_true, not_true_eq_false, not_false_eq_true, decide_true, decide_false, List.toList_toArray, Nat.le_refl, and_self, Bool.not_eq_true, Nat.sub_self, or_true, true_or, Option.some.injEq, List.length_map, List.nil_eq, and_false, false_and, AV.live, CV.live, CV.liveIn, K_keep, firstReg, Option.orElse_some, Option.orElse_none, head, keepSlots, keepBoxes, Int.lt_irrefl, List.length_append, ite_self, memOK, logOps, opKey, lentBoxes, Key.clash, Key.sees, Key.writes, Nat.lt_irrefl, gt_iff_lt, nobox_at, bot_at, false_or, or_false, beq_self_eq_true, Bool.true_beq, Bool.false_beq, good_175, good_209, good_182, hr, d1, d2, b1, b2, e1, e2, hrun, wrap_nat i (by omega)]
      · rw [h3] at b2
        simp only [exL_seq, exL_region, exL_cond, exL_block, exL_scope, exL_ret, exL_skip, exL_exit, runRegion, runOps, stepOp, guardA, absOp, takeOver, opd, avOf, cvOf, St.degAt, St.put, okPV, okVal, okAV, absBin, intBin, strBin, boolBin, setBoxes, if_true, Bool.false_eq_true, if_false, Option.map_some, Option.map_none, Option.bind_some, Option.bind_none, thenO, outOf, upd, List.toList_toArray, isOwn, steal, appArgs, mvB, fullAt, absFull, inApps, AV.deg, CV.deg, AV.gv, AV.isIter, absNext, some_bne, some_beqN, Nat.reduceLT, reduceIte, reduceCtorEq, Nat.reduceEqDiff, List.length_nil, List.length_cons, apply_ite (Option.map (outOf _)), List.filterMap_cons, List.filterMap_nil, beq_iff_eq, List.getElem?_cons_zero, List.getElem?_cons_succ, Option.getD_some, K_hook, hookB, Nat.reduceBEq, Bool.false_and, Bool.and_false, Bool.and_self, K_P, K_own, absCall, doCall, getBoxes, lend, back, idx, dedup, AV.ren, CV.ren, TV.ren, AV.ptrs, CV.ptrs, zipBox, AV.flat, CV.flat, absLoad, absStore, cellsOfAV, setAt, newBox, markB, bldTypes, absFieldAddr, absField, absExtract, absAssert, noAssert, absMkIface, ifcOf, CV.pv?, content, pushHead, ownT, fillCells, reps, pvs, chunks, enterSt, leave, resOf, resVars, resVar, outBoxes, lentOnly, TV.deg, TV.av, LK, CV.plain, CV.noBld, nilBin, absUn, bound, List.map_cons, List.map_nil, List.all_cons, List.all_nil, List.any_cons, List.any_nil, List.contains_cons, List.contains_nil, List.elem_cons, List.elem_nil, List.cons_append, List.nil_append, List.append_nil, List.flatMap_cons, List.flatMap_nil, List.zip_cons_cons, List.zip_nil_left, List.zip_nil_right, List.take_succ_cons, List.take_zero, List.take_nil, List.drop_succ_cons, List.drop_zero, List.drop_nil, List.isEmpty_nil, List.isEmpty_cons, Bool.and_true, Bool.true_and, Bool.or_true, Bool.true_or, Bool.or_false, Bool.false_or, Bool.not_true, Bool.not_false, Nat.reduceAdd, Nat.reduceSub, Nat.reduceLeDiff, Nat.add_zero, Nat.zero_add, Nat.reduceMul, Option.isNone_none, Option.isNone_some, Option.getD_none, true_and, and_true, not_true_eq_false, not_false_eq_true, decide_true, decide_false, List.toList_toArray, Nat.le_refl, and_self, Bool.not_eq_true, Nat.sub_self, or_true, true_or, Option.some.injEq, List.length_map, List.nil_eq, and_false, false_and, AV.live, CV.live, CV.liveIn, K_keep, firstReg, Option.orElse_some, Option.orElse_none, head, keepSlots, keepBoxes, Int.lt_irrefl, List.length_append, ite_self, memOK, logOps, opKey, lentBoxes, Key.clash, Key.sees, Key.writes, Nat.lt_irrefl, gt_iff_lt, nobox_at, bot_at, false_or, or_false, beq_self_eq_true, Bool.true_beq, Bool.false_beq, good_175, good_209, good_182, hr, d1, d2, b1, b2, e1, hrun, wrap_nat i (by omega)]
  · rw [h1] at b1
    simp only [exL_seq, exL_region, exL_cond, exL_block, exL_scope, exL_ret, exL_skip, exL_exit, runRegion, runOps, stepOp, guardA, absOp, takeOver, opd, avOf, cvOf, St.degAt, St.put, okPV, okVal, okAV, absBin, intBin, strBin, boolBin, setBoxes, if_true, Bool.false_eq_true, if_false, Option.map_some, Option.map_none, Option.bind_some, Option.bind_none, thenO, outOf, upd, List.toList_toArray, isOwn, steal, appArgs, mvB, fullAt, absFull, inApps, AV.deg, CV.deg, AV.gv, AV.isIter, absNext, some_bne, some_beqN, Nat.reduceLT, reduceIte, reduceCtorEq, Nat.reduceEqDiff, List.length_nil, List.length_cons, apply_ite (Option.map (outOf _)), List.filterMap_cons, List.filterMap_nil, beq_iff_eq, List.getElem?_cons_zero, List.getElem?_cons_succ, Option.getD_some, K_hook, hookB, Nat.reduceBEq, Bool.false_and, Bool.and_false, Bool.and_self, K_P, K_own, absCall, doCall, getBoxes, lend, back, idx, dedup, AV.ren, CV.ren, TV.ren, AV.ptrs, CV.ptrs, zipBox, AV.flat, CV.flat, absLoad, absStore, cellsOfAV, setAt, newBox, markB, bldTypes, absFieldAddr, absField, absExtract, absAssert, noAssert, absMkIface, ifcOf, CV.pv?, content, pushHead, ownT, fillCells, reps, pvs, chunks, enterSt, leave, resOf, resVars, resVar, outBoxes, lentOnly, TV.deg, TV.av, LK, CV.plain, CV.noBld, nilBin, absUn, bound, List.map_cons, List.map_nil, List.all_cons, List.all_nil, List.any_cons, List.any_nil, List.contains_cons, List.contains_nil, List.elem_cons, List.elem_nil, List.cons_append, List.nil_append, List.append_nil, List.flatMap_cons, List.flatMap_nil, List.zip_cons_cons, List.zip_nil_left, List.zip_nil_right, List.take_succ_cons, List.take_zero, List.take_nil, List.drop_succ_cons, List.drop_zero, List.drop_nil, List.isEmpty_nil, List.isEmpty_cons, Bool.and_true, Bool.true_and, Bool.or_true, Bool.true_or, Bool.or_false, Bool.false_or, Bool.not_true, Bool.not_false, Nat.reduceAdd, Nat.reduceSub, Nat.reduceLeDiff, Nat.add_zero, Nat.zero_add, Nat.reduceMul, Option.isNone_none, Option.isNone_some, Option.getD_none, true_and, and_true, not_true_eq_false, not_false_eq_true, decide_true, decide_false, List.toList_toArray, Nat.le_refl, and_self, Bool.not_eq_true, Nat.sub_self, or_true, true_or, Option.some.injEq, List.length_map, List.nil_eq, and_false, false_and, AV.live, CV.live, CV.liveIn, K_keep, firstReg, Option.orElse_some, Option.orElse_none, head, keepSlots, keepBoxes, Int.lt_irrefl, List.length_append, ite_self, memOK, logOps, opKey, lentBoxes, Key.clash, Key.sees, Key.writes, Nat.lt_irrefl, gt_iff_lt, nobox_at, bot_at, false_or, or_false, beq_self_eq_true, Bool.true_beq, Bool.false_beq, good_175, good_209, good_182, hr, d1, d2, b1, hrun, wrap_nat i (by omega)]
inductive TS where
  | nils
  | live
  | wr (l : List Tok)
def TS.toks : TS → List Tok
  | .wr l => l
  | _ => []
def TS.cell : TS → CV
  | .nils => .nils
  | .live => .own 0 []
  | .wr l => .own 91 (l.map Tok.enc)
abbrev scan (s : List UInt8) (x : TS) : List CV := [.pv (.str s), x.cell]
theorem lens_tok (a b c : PV) : lens 3 [[a, b, c]] = true := rfl
theorem lens_toks (l : List Tok) : lens 3 (l.map Tok.enc) = true := by simp [lens, Tok.enc]
theorem skip_den (s : List UInt8) (x : TS) (n : Nat) (h : n ≤ s.length) : den K 210 [P0, I n] [scan s x] = some (.ret (.tup []) [scan (s.drop n) x]) := by
  refine den_run rfl rfl Tryz.func210 rfl Tryz.ntmps210 ⟨by simp, by simp [LK]⟩ ?_
  have hr : Tryz.f210.results = #[] := rfl
  have hb : ((0 : Int) ≤ (n : Int) ∧ (n : Int) ≤ (s.length : Int)) = True := eq_true (by omega)
  have hd : (s.take s.length).drop n = s.drop n := by rw [List.take_length]
  cases x <;> simp only [TS.cell, scan, exL_seq, exL_region, exL_cond, exL_block, exL_scope, exL_ret, exL_skip, exL_exit, runRegion, runOps, stepOp, guardA, absOp, takeOver, opd, avOf, cvOf, St.degAt, St.put, okPV, okVal, okAV, absBin, intBin, strBin, boolBin, setBoxes, if_true, Bool.false_eq_true, if_false, Option.map_some, Option.map_none, Option.bind_some, Option.bind_none, thenO, outOf, upd, List.toList_toArray, isOwn, steal, appArgs, mvB, fullAt, absFull, inApps, AV.deg, CV.deg, AV.gv, AV.isIter, absNext, some_bne, some_beqN, Nat.reduceLT, reduceIte, reduceCtorEq, Nat.reduceEqDiff, List.length_nil, List.length_cons, apply_ite (Option.map (outOf _)), List.filterMap_cons, List.filterMap_nil, beq_iff_eq, List.getElem?_cons_zero, List.getElem?_cons_succ, Option.getD_some, K_hook, hookB, Nat.reduceBEq, Bool.false_and, Bool.and_false, Bool.and_self, K_P, K_own, absCall, doCall, getBoxes, lend, back, idx, dedup, AV.ren, CV.ren, TV.ren, AV.ptrs, CV.ptrs, zipBox, AV.flat, CV.flat, absLoad, absStore, cellsOfAV, setAt, newBox, markB, bldTypes, absFieldAddr, absField, absExtract, absAssert, noAssert, absMkIface, ifcOf, CV.pv?, content, pushHead, ownT, fillCells, reps, pvs, chunks, enterSt, leave, resOf, resVars, resVar, outBoxes, lentOnly, TV.deg, TV.av, LK, CV.plain, CV.noBld, nilBin, absUn, bound, List.map_cons, List.map_nil, List.all_cons, List.all_nil, List.any_cons, List.any_nil, List.contains_cons, List.contains_nil, List.elem_cons, List.elem_nil, List.cons_append, List.nil_append, List.append_nil, List.flatMap_cons, List.flatMap_nil, List.zip_cons_cons, List.zip_nil_left, List.zip_nil_right, List.take_succ_cons, List.take_zero, List.take_nil, List.drop_succ_cons, List.drop_zero, List.drop_nil, List.isEmpty_nil, List.isEmpty_cons, Bool.and_true, Bool.true_and, Bool.or_true, Bool.true_or, Bool.or_false, Bool.false_or, Bool.not_true, Bool.not_false, Nat.reduceAdd, Nat.reduceSub, Nat.reduceLeDiff, Nat.add_zero, Nat.zero_add, Nat.reduceMul, Option.isNone_none, Option.isNone_some, Option.getD_none, true_and, and_true, not_true_eq_false, not_false_eq_true, decide_true, decide_false, List.toList_toArray, Nat.le_refl, and_self, Bool.not_eq_true, Nat.sub_self, or_true, true_or, Option.some.injEq, List.length_map, List.nil_eq, and_false, false_and, AV.live, CV.live, CV.liveIn, K_keep, firstReg, Option.orElse_some, Option.orElse_none, head, keepSlots, keepBoxes, Int.lt_irrefl, List.length_append, ite_self, memOK, logOps, opKey, lentBoxes, Key.clash, Key.sees, Key.writes, Nat.lt_irrefl, gt_iff_lt, nobox_at, bot_at, false_or, or_false, beq_self_eq_true, Bool.true_beq, Bool.false_beq, ty_fieldOff_183_0, ty_szOf_181, ty_shapeT_181, ev_slice_str ty_descOf_181, hr, hb, Int.toNat_natCast, hd]
theorem put_den (s : List UInt8) (x : TS) (n : Nat) (kind : Int) (text : List UInt8) (v : Int) (h : n ≤ s.length) (hx : x.toks.length < 4000000000) :
    den K 181 [P0, I n, I kind, T text, I v] [scan s x] = some (.ret (.tup []) [scan (s.drop n) (.wr (x.toks ++ [⟨kind, text, v⟩]))]) := by
  refine den_run rfl rfl Tryz.func181 rfl Tryz.ntmps181 ⟨by simp, by simp [LK]⟩ ?_
  have hr : Tryz.f181.results = #[] := rfl
  have hsk := skip_den s (.wr (x.toks ++ [⟨kind, text, v⟩])) n h
  have hl : x.toks.length + 1 < appLim := by simp [appLim]; omega
  cases x <;> simp only [TS.cell, TS.toks, scan, List.map_append, List.map_cons, List.map_nil, Tok.enc, List.nil_append, List.length_nil] at hsk hl ⊢ <;>
    simp only [TS.cell, TS.toks, exL_seq, exL_region, exL_cond, exL_block, exL_scope, exL_ret, exL_skip, exL_exit, runRegion, runOps, stepOp, guardA, absOp, takeOver, opd, avOf, cvOf, St.degAt, St.put, okPV, okVal, okAV, absBin, intBin, strBin, boolBin, setBoxes, if_true, Bool.false_eq_true, if_false, Option.map_some, Option.map_none, Option.bind_some, Option.bind_none, thenO, outOf, upd, List.toList_toArray, isOwn, steal, appArgs, mvB, fullAt, absFull, inApps, AV.deg, CV.deg, AV.gv, AV.isIter, absNext, some_bne, some_beqN, Nat.reduceLT, reduceIte, reduceCtorEq, Nat.reduceEqDiff, List.length_nil, List.length_cons, apply_ite (Option.map (outOf _)), List.filterMap_cons, List.filterMap_nil, beq_iff_eq, List.getElem?_cons_zero, List.getElem?_cons_succ, Option.getD_some, K_hook, hookB, Nat.reduceBEq, Bool.false_and, Bool.and_false, Bool.and_self, K_P, K_own, absCall, doCall, getBoxes, lend, back, idx, dedup, AV.ren, CV.ren, TV.ren, AV.ptrs, CV.ptrs, zipBox, AV.flat, CV.flat, absLoad, absStore, cellsOfAV, setAt, newBox, markB, bldTypes, absFieldAddr, absField, absExtract, absAssert, noAssert, absMkIface, ifcOf, CV.pv?, content, pushHead, ownT, fillCells, reps, pvs, chunks, enterSt, leave, resOf, resVars, resVar, outBoxes, lentOnly, TV.deg, TV.av, LK, CV.plain, CV.noBld, nilBin, absUn, bound, List.map_cons, List.map_nil, List.all_cons, List.all_nil, List.any_cons, List.any_nil, List.contains_cons, List.contains_nil, List.elem_cons, List.elem_nil, List.cons_append, List.nil_append, List.append_nil, List.flatMap_cons, List.flatMap_nil, List.zip_cons_cons, List.zip_nil_left, List.zip_nil_right, List.take_succ_cons, List.take_zero, List.take_nil, List.drop_succ_cons, List.drop_zero, List.drop_nil, List.isEmpty_nil, List.isEmpty_cons, Bool.and_true, Bool.true_and, Bool.or_true, Bool.true_or, Bool.or_false, Bool.false_or, Bool.not_true, Bool.not_false, Nat.reduceAdd, Nat.reduceSub, Nat.reduceLeDiff, Nat.add_zero, Nat.zero_add, Nat.reduceMul, Option.isNone_none, Option.isNone_some, Option.getD_none, true_and, and_true, not_true_eq_false, not_false_eq_true, decide_true, decide_false, List.toList_toArray, Nat.le_refl, and_self, Bool.not_eq_true, Nat.sub_self, or_true, true_or, Option.some.injEq, List.length_map, List.nil_eq, and_false, false_and, AV.live, CV.live, CV.liveIn, K_keep, firstReg, Option.orElse_some, Option.orElse_none, head, keepSlots, keepBoxes, Int.lt_irrefl, List.length_append, ite_self, memOK, logOps, opKey, lentBoxes, Key.clash, Key.sees, Key.writes, Nat.lt_irrefl, gt_iff_lt, nobox_at, bot_at, false_or, or_false, beq_self_eq_true, Bool.true_beq, Bool.false_beq, ty_fieldOff_183_1, ty_szOf_60, ty_shapeT_60, ev_build ty_zeroCells_91 ty_placesOf_91, ev_buildSlice (len := 1) ty_descOf_60 ty_szOf_91 ty_zeroCells_91 ⟨rfl, by decide, by decide⟩, ev_append ty_appInfo_60, ev_appNew_sl ty_descOf_60, good_210, hr, hsk, hl, lens_nil, lens_tok, lens_toks, Tok.enc]
end Go.Abs
namespace Go.Abs
open Go
theorem arr_nil {α : Type} : (#[] : Array α).isEmpty = true := rfl
def encT (l : List (List UInt8)) : List (List PV) := l.map fun s => [.str s]
theorem encT_len (l : List (List UInt8)) : (encT l).length = l.length := List.length_map ..
theorem txt_at (l : List (List UInt8)) (i : Nat) (x : List UInt8) (h : l[i]? = some x) : (encT l)[(i : Int).toNat]? = some [.str x] := by
  rw [Int.toNat_natCast, encT, List.getElem?_map, h]; rfl
def ixI (o : Option Nat) : Int := match o with | some j => j | none => -1
theorem ix_any {α : Type} {p : α → Bool} {l : List α} : decide (0 ≤ ixI (l.findIdx? p)) = l.any p := by
  cases h : l.findIdx? p with
  | none =>
    rw [List.findIdx?_eq_none_iff] at h
    have : l.any p = false := by
      rw [List.any_eq_false]
      intro x hx
      rw [h x hx]; simp
    rw [this]; decide
  | some j =>
    obtain ⟨hj, hp, _⟩ := List.findIdx?_eq_some_iff_getElem.1 h
    have : l.any p = true := by
      rw [List.any_eq_true]
      exact ⟨_, List.getElem_mem hj, hp⟩
    rw [this]
    show decide ((0 : Int) ≤ (j : Int)) = true
    exact decide_eq_true (by omega)
end Go.Abs
namespace Go.Abs
open Go Go.Proofs Go.ChangeShapes Go.WideShapes Go.ChangeAt Go.RowKit
def TyP (P : Program) : Nat → TypeId → List PV → Prop
  | 0, _, _ => False
  | n + 1, t, ps =>
    match P.underlying t with
    | some .bool => ∃ b, ps = [.bool b]
    | some (.int k) => ∃ z, ps = [.int k z] ∧ (Lit.int k z).wf = true
    | some .string => ∃ s, ps = [.str s] ∧ s.length ≤ reachBytes
    | some (.slice e) => ∃ c, ps = [.sl c] ∧ c.length ≤ reachBytes ∧ ∀ el ∈ c, TyP P n e el
    | some (.struct fs) => ps.length = P.cellsOf t ∧ ∀ (i : Nat) (f : Field), fs[i]? = some f → TyP P n f.type ((ps.drop f.offset).take (P.cellsOf f.type))
    | _ => False
def flatSet (P : Program) (L : List TypeId) : Bool := L.all fun t => decide (t < P.types.size) &&
  match P.underlying t with
  | some .bool | some (.int _) | some .string => P.cellsOf t == 1
  | some (.slice e) => L.contains e && decide (0 < P.cellsOf e) && decide (0 < P.bytesOf e) && P.cellsOf t == 1
  | some (.struct fs) => fs.toList.all fun f => L.contains f.type
  | _ => false
section
variable {H : Type} {enc : TypeId × Value → H} {P : Program} {w : World}
theorem cells_at {base n : Nat} {a : Addr} {cs : List Value} (h : w.cells? base a n = some cs) : cs.length = n ∧ ∀ (k : Nat) (y : Value), cs[k]? = some y → w.cell? (a.add k) = some y := by
  unfold World.cells? at h
  split at h
  case isFalse => cases h
  have hl : cs.length = n := by simpa using mapM_some_length h
  refine ⟨hl, fun k y hk => ?_⟩
  have hlt : k < n := by have := (List.getElem?_eq_some_iff.1 hk).1; omega
  have := mapM_some_get h k k (by simp [hlt])
  rw [this, hk]
theorem add_add (b o m j : Nat) : ((⟨b, o, none⟩ : Addr).add m).add j = ⟨b, o + (m + j), none⟩ := by
  simp only [Addr.add]
  split <;> split <;> simp_all [Nat.add_assoc]
theorem cell_addr {a : Addr} {y : Value} (h : w.cell? a = some y) : a = ⟨a.block, a.off, none⟩ := by
  unfold World.cell? at h
  cases a with
  | mk b o s =>
    cases s with
    | none => rfl
    | some k => simp at h; split at h <;> simp at h
theorem parts_ok {I : Nat → Nat → Option Value} {n : Nat} : ∀ (fs : List Field) (k : Nat) (cs : List Value), (∀ (j : Nat) (f : Field), fs[j]? = some f → f.offset = k + ((fs.take j).map fun f => P.cellsOf f.type).sum) →
    (∀ f ∈ fs, ∃ ps, TyP P n f.type ps ∧ All2 (RP I) ps ((cs.drop f.offset).take (P.cellsOf f.type)) ∧ ps.length = P.cellsOf f.type) → cs.length = k + (fs.map fun f => P.cellsOf f.type).sum →
    ∃ ps, ps.length = (fs.map fun f => P.cellsOf f.type).sum ∧ All2 (RP I) ps (cs.drop k) ∧ ∀ (j : Nat) (f : Field), fs[j]? = some f → TyP P n f.type ((ps.drop (f.offset - k)).take (P.cellsOf f.type))
  | [], k, cs, _, _, hl => ⟨[], rfl, by rw [List.drop_eq_nil_of_le (by simp at hl; omega)]; exact .nil, fun j f h => by simp at h⟩
  | f :: fs, k, cs, ho, hf, hl => by
    have ho0 := ho 0 f rfl
    simp at ho0
    obtain ⟨p0, h1, h2, h3⟩ := hf f (by simp)
    simp only [List.map_cons, List.sum_cons] at hl
    obtain ⟨ps, h4, h5, h6⟩ := parts_ok fs (k + P.cellsOf f.type) cs (fun j g hg => by
      have := ho (j + 1) g (by simpa using hg)
      simp only [List.take_succ_cons, List.map_cons, List.sum_cons] at this
      omega) (fun g hg => hf g (by simp [hg])) (by omega)
    refine ⟨p0 ++ ps, by simp [h3, h4], ?_, fun j g hg => ?_⟩
    · rw [ho0] at h2
      have : cs.drop k = (cs.drop k).take (P.cellsOf f.type) ++ cs.drop (k + P.cellsOf f.type) := by
        rw [← List.drop_drop, List.take_append_drop]
      rw [this]
      exact h2.append h5
    · cases j with
      | zero =>
        simp at hg
        subst hg
        rw [ho0, Nat.sub_self, List.drop_zero, List.take_left' h3]
        exact h1
      | succ j =>
        have hg' : fs[j]? = some g := by simpa using hg
        have := h6 j g hg'
        have hoj := ho (j + 1) g hg
        simp only [List.take_succ_cons, List.map_cons, List.sum_cons] at hoj
        have hle : k + P.cellsOf f.type ≤ g.offset := by omega
        rw [List.drop_append, List.drop_eq_nil_of_le (by omega), List.nil_append, h3]
        rw [show g.offset - k - P.cellsOf f.type = g.offset - (k + P.cellsOf f.type) by omega]
        exact this
theorem weights_all {e : TypeId} : ∀ {l : List (DataW H)} {d : DataW H}, d ∈ l → ∀ n ∈ d.weights P e, n ∈ DataW.weightsAll P e l
  | d' :: l, d, h, n, hn => by
    unfold DataW.weightsAll
    rw [List.mem_append]
    rcases List.mem_cons.1 h with rfl | h
    · exact .inl hn
    · exact .inr (weights_all h n hn)
theorem weights_each : ∀ {ts : List TypeId} {ds : List (DataW H)} {j : Nat} {t : TypeId} {d : DataW H}, ts[j]? = some t → ds[j]? = some d → ∀ n ∈ d.weights P t, n ∈ DataW.weightsEach P ts ds := DataW.weights_mem_each
theorem trod_RP {I : Nat → Nat → Option Value} (hI : ∀ b o y, w.cell? ⟨b, o, none⟩ = some y → I b o = some y) (K0 : Kids P (· < P.types.size)) {L : List TypeId} (hL : flatSet P L = true) {base : Nat} {sp : Nat → Bool} {held : Bool} :
    ∀ (n : Nat) (t : TypeId) (cs : List Value) (x : DataW H × List MemPlace), DataW.trod enc P w base sp held n t cs = some x → t ∈ L → (∀ m ∈ x.1.weights P t, m ≤ reachBytes) → ∃ ps, TyP P n t ps ∧ All2 (RP I) ps cs ∧ ps.length = P.cellsOf t := by
  intro n
  induction n with
  | zero => intro t cs x h; simp [DataW.trod] at h
  | succ n ih =>
    intro t cs x h ht hw
    have hLt := List.all_eq_true.1 hL t ht
    simp only [Bool.and_eq_true, decide_eq_true_eq] at hLt
    obtain ⟨hlt, hLt⟩ := hLt
    unfold TyP
    split at hLt
    · rename_i hu
      obtain ⟨b, rfl, rfl⟩ := DataW.trod_bool hu h
      exact ⟨[.bool b], ⟨b, rfl⟩, .cons (.bool b) .nil, (by simpa using hLt : P.cellsOf t = 1).symm⟩
    · rename_i k hu
      obtain ⟨z, rfl, rfl, hwf⟩ := DataW.trod_int hu h
      exact ⟨[.int k z], ⟨z, rfl, hwf⟩, .cons (.int k z) .nil, (by simpa using hLt : P.cellsOf t = 1).symm⟩
    · rename_i hu
      obtain ⟨s, rfl, rfl, hsz⟩ := DataW.trod_string hu h
      refine ⟨[.str s.data.toList], ⟨_, rfl, hw _ (by simp [DataW.weights])⟩, .cons ?_ .nil, (by simpa using hLt : P.cellsOf t = 1).symm⟩
      exact .str _
    · rename_i e hu
      simp only [Bool.and_eq_true, decide_eq_true_eq] at hLt
      obtain ⟨⟨⟨he, hpos⟩, hby⟩, hc1⟩ := hLt
      have hc1 : P.cellsOf t = 1 := by simpa using hc1
      rcases DataW.trod_slice hu h with ⟨rfl, rfl⟩ | ⟨a, len, cap, elems, rest, m, hfuel, rfl, rfl, _, hlc, _, hel, hget, _, _⟩
      · exact ⟨[.sl []], ⟨[], rfl, by simp, by simp⟩, .cons (.sl0 none 0) .nil, hc1.symm⟩
      · have hm : m = n := by omega
        subst hm
        have hwt : ∀ m ∈ (elems.length + rest.length) * P.bytesOf e :: (DataW.weightsAll P e (elems.map (·.1)) ++ DataW.weightsAll P e (rest.map (·.1))), m ≤ reachBytes := by
          have : DataW.weights P t (DataW.slice (elems.map (·.1)) (rest.map (·.1))) = (elems.length + rest.length) * P.bytesOf e :: (DataW.weightsAll P e (elems.map (·.1)) ++ DataW.weightsAll P e (rest.map (·.1))) := by
            simp [DataW.weights, hu]
          rw [← this]; exact hw
        have hlenb : len ≤ reachBytes := by
          have h1 := hwt _ (List.mem_cons_self ..)
          have h2 : (elems.length + rest.length) * 1 ≤ (elems.length + rest.length) * P.bytesOf e := Nat.mul_le_mul_left _ hby
          omega
        have hone : ∀ i, i < len → ∃ ps, TyP P m e ps ∧ ps.length = P.cellsOf e ∧ ∀ (j : Nat) (p : PV), ps[j]? = some p → ∃ y, w.cell? ((a.add (i * P.cellsOf e)).add j) = some y ∧ RP I p y := by
          intro i hi
          have hg := hget i hi
          have hsome : ∃ y, elems[i]? = some y := ⟨elems[i]'(by omega), by simp [hel, hi]⟩
          obtain ⟨y, hy⟩ := hsome
          rw [hy, Option.bind_eq_some_iff] at hg
          obtain ⟨cs', hcs, htr⟩ := hg
          obtain ⟨ps, h1, h2, h3⟩ := ih e cs' y htr (by simpa using he) fun q hq => hwt q (List.mem_cons_of_mem _ (List.mem_append_left _ (weights_all (List.mem_map.2 ⟨y, List.mem_of_getElem? hy, rfl⟩) q hq)))
          obtain ⟨h4, h5⟩ := cells_at hcs
          refine ⟨ps, h1, h3, fun j p hj => ?_⟩
          obtain ⟨z, hz, hr⟩ := h2.get hj
          exact ⟨z, h5 j z hz, hr⟩
        obtain ⟨g, hg⟩ : ∃ g : Nat → List PV, ∀ i, i < len → TyP P m e (g i) ∧ (g i).length = P.cellsOf e ∧ ∀ (j : Nat) (p : PV), (g i)[j]? = some p → ∃ y, w.cell? ((a.add (i * P.cellsOf e)).add j) = some y ∧ RP I p y := by
          refine ⟨fun i => if hi : i < len then (hone i hi).choose else [], fun i hi => ?_⟩
          simp only [dif_pos hi]
          exact (hone i hi).choose_spec
        have hcget : ∀ (i : Nat) (el : List PV), ((List.range len).map g)[i]? = some el → i < len ∧ el = g i := fun i el hi => by
          have hlt' := (List.getElem?_eq_some_iff.1 hi).1
          simp at hlt'
          rw [List.getElem?_map, List.getElem?_range hlt'] at hi
          simp at hi
          exact ⟨hlt', hi.symm⟩
        refine ⟨[.sl ((List.range len).map g)], ⟨_, rfl, by simpa using hlenb, fun el hel' => ?_⟩, .cons ?_ .nil, hc1.symm⟩
        · obtain ⟨i, hi, rfl⟩ := List.mem_map.1 hel'
          exact (hg i (by simpa using hi)).1
        · by_cases h0 : len = 0
          · subst h0
            exact .sl0 _ _
          · obtain ⟨p0, hp0⟩ : ∃ p, (g 0)[0]? = some p := ⟨(g 0)[0]'(by rw [(hg 0 (by omega)).2.1]; exact hpos), by simp⟩
            obtain ⟨y0, hy0, _⟩ := (hg 0 (by omega)).2.2 0 p0 hp0
            have hadd0 : (a.add (0 * P.cellsOf e)).add 0 = a := by simp [Addr.add]
            rw [hadd0] at hy0
            have ha := cell_addr hy0
            have := RP.of_seg (I := I) (c := (List.range len).map g) (b := a.block) (o := a.off) (cap := cap) (sz := P.cellsOf e) (by simpa using hlc) (fun el hel' => by
              obtain ⟨i, hi, rfl⟩ := List.mem_map.1 hel'
              exact (hg i (by simpa using hi)).2.1) (fun i el j p hi hj => by
              obtain ⟨hlt', rfl⟩ := hcget i el hi
              obtain ⟨y, h1, h2⟩ := (hg i hlt').2.2 j p hj
              refine ⟨y, hI _ _ _ ?_, h2⟩
              have hadd : (a.add (i * P.cellsOf e)).add j = ⟨a.block, a.off + (i * P.cellsOf e + j), none⟩ := by
                have := add_add a.block a.off (i * P.cellsOf e) j
                rw [← ha] at this; exact this
              rw [hadd] at h1
              exact h1)
            rw [← ha] at this
            simpa using this
    · rename_i fs hu
      obtain ⟨xs, m, hfuel, rfl, hcl, hxl, hget⟩ := DataW.trod_struct hu h
      have hm : m = n := by omega
      subst hm
      obtain ⟨hf1, hf2, hf3⟩ := K0.struct hlt hu
      have hwt : ∀ m ∈ DataW.weightsEach P (fs.toList.map (·.type)) (xs.map (·.1)), m ≤ reachBytes := by
        have : DataW.weights P t (DataW.agg (xs.map (·.1))) = DataW.weightsEach P (fs.toList.map (·.type)) (xs.map (·.1)) := by
          rw [DataW.weights, hu]
        rw [← this]; exact hw
      obtain ⟨ps, h1, h2, h3⟩ := parts_ok (P := P) (I := I) (n := m) fs.toList 0 cs (fun j f hj => by rw [hf3 j f hj]; omega) (fun f hf => by
        obtain ⟨i, hi⟩ := List.mem_iff_getElem?.1 hf
        have hi' : fs[i]? = some f := by simpa using hi
        have hg := hget i f hi'
        have hlt' : i < fs.size := (Array.getElem?_eq_some_iff.1 hi').1
        obtain ⟨y, hy⟩ : ∃ y, xs[i]? = some y := ⟨xs[i]'(by omega), by simp [hxl, hlt']⟩
        rw [hy] at hg
        exact ih f.type _ y hg (by simpa using List.all_eq_true.1 hLt f hf) fun q hq => hwt q (weights_each (j := i) (t := f.type) (d := y.1) (by simp [hi']) (by simp [hy]) q hq)) (by rw [hcl, hf2]; omega)
      refine ⟨ps, ⟨by rw [h1, hf2], fun i f hi => ?_⟩, by simpa using h2, by rw [h1, hf2]⟩
      have := h3 i f (by simpa using hi)
      simpa using this
    · cases hLt
def argOf (P : Program) (t : TypeId) (ps : List PV) : AV :=
  match P.underlying t with
  | some (.struct _) => .agg (ps.map CV.pv)
  | _ => match ps with
    | [p] => .c (.pv p)
    | _ => .c .top
theorem ok_one {r : Reach} {base : Nat} {t : TypeId} {v : Value} (h : Value.okWide P w r base t v) (hs : (∀ fs, P.underlying t ≠ some (.struct fs)) ∧ ∀ n e, P.underlying t ≠ some (.array n e)) : v.cells = #[v] := by
  unfold Value.okWide at h
  split at h
  · exact absurd ‹_› (hs.1 _)
  · exact absurd ‹_› (hs.2 _ _)
  · cases v <;> first | rfl | (unfold Cell.okWide Cell.ok at h; split at h <;> simp_all)
theorem post_of_old {f : Func} {s : ChangeSpec} {apart fresh handsOn again : Bool} {W W' : World} {args : Array Value} {v : Value} {ds gs : List (DataW H)} {before pa pv : List MemPlace}
    (hW : DataW.Whole enc P f.params.toList s.vars apart W args.toList ds gs before)
    (hres : ∀ (b : Nat) (sp : Nat → Bool) (hd : Bool), DataW.TrodAll enc P W' b sp hd f.resultTypes.toList (v.resultList f.resultTypes.size) (s.fn H (ds ++ gs)).results [])
    (hargs : ∀ sp : Nat → Bool, (∀ p ∈ before, sp p.block = true) → DataW.TrodAll enc P W' 0 sp true f.params.toList args.toList (s.fn H (ds ++ gs)).args pa)
    (hvars : ∀ sp : Nat → Bool, (∀ p ∈ before, sp p.block = true) → DataW.TrodVars enc P W' sp s.vars (s.fn H (ds ++ gs)).vars pv)
    (hps : before = pa ++ pv) (hk : W.keptBut W' (· ∈ before)) (hfz : ∀ a : Addr, a.block < W.heap.size → W'.frozen? a = W.frozen? a)
    (hok : ∀ (j : Nat) (t : TypeId) (r : Value), f.resultTypes[j]? = some t → (v.resultList f.resultTypes.size)[j]? = some r → Value.okWide P W' .any 0 t r) :
    s.post enc P f apart fresh handsOn again W args v W' := by
  have hold : ∀ p ∈ before, (fun b => decide (b < W.heap.size)) p.block = true := fun p hp => by simpa using hW.lt p hp
  have hlt := fun p hp => hW.lt p hp
  refine ⟨ds, gs, before, [], pa, pv, hW, hres _ _ _, hargs _ hold, hvars _ hold, World.keptBut_mono (fun p hp => ⟨hp, ?_⟩) hk, fun _ => ?_⟩
  · rw [hps, List.mem_append] at hp
    exact Or.inr hp
  · obtain ⟨_, _, _, _, _, hz, hn⟩ := hW
    refine ⟨hok, _, _, ([] ++ pa) ++ pv, ⟨[] ++ pa, pv, trodAll_append (hargs _ (fun _ _ => rfl)) (hres _ _ _), hvars _ (fun _ _ => rfl), rfl, ?_, ?_⟩, ?_⟩
    · intro b off hp
      have hp' : MemPlace.cell b off ∈ before := by rw [hps]; simpa using hp
      rw [hfz _ (hlt _ hp')]
      exact hz b off hp'
    · intro ha
      have := hn ha
      rw [hps] at this
      simpa using this
    · intro p hp _
      rw [hps]
      simpa using hp
def oldGh (w : World) : Gh := { I := fun b o => w.cell? ⟨b, o, none⟩, bb := fun _ => none, ow := fun _ => none }
theorem oldWI (h : TabOK (oldGh w) w) : WI (oldGh w) w :=
  ⟨fun _ _ _ h => h, fun b hb => ⟨fun o => by
    show w.cell? ⟨b, o, none⟩ = none
    unfold World.cell?
    have : w.heap[b]? = none := Array.getElem?_eq_none hb
    simp [this], rfl⟩, fun _ _ h => (by cases h), fun _ _ h => (by cases h), h⟩
theorem keptBut_of_old {W W' : World} (hos : W'.os = W.os) (hout : W'.output = W.output) (h : ∀ b, b < W.heap.size → W'.heap[b]? = W.heap[b]?) (may : MemPlace → Prop) : W.keptBut W' may := by
  refine ⟨hos, hout, fun i hi => ?_⟩
  rw [h i hi]
  split
  · rename_i h1 h2; rw [h1] at h2; cases h2; exact ⟨rfl, rfl, rfl, fun _ _ => rfl⟩
  · rename_i h1 h2; rw [h1] at h2; cases h2; exact .inr ⟨rfl, rfl⟩
  · rfl
end
theorem kids : Kids Tryz.prog (· < Tryz.prog.types.size) := kids_rows (by kernel_rfl) (by kernel_rfl)
theorem slices_full : ∀ t e, t < Tryz.prog.types.size → Tryz.prog.underlying t = some (.slice e) → 0 < Tryz.prog.cellsOf e := slices_full_of _ (by kernel_rfl)
theorem laid_mem {w : World} : ∀ {l : List (String × DataW Unit)} {ps : List MemPlace}, DataW.LaidVars Tryz.prog w l ps → ∀ {n : String} {d : DataW Unit}, (n, d) ∈ l →
    ∃ g t cs fuel p, Tryz.prog.globalNamed n = some g ∧ (Tryz.prog.globals[g]?).map (·.type) = some t ∧ w.var? Tryz.prog n = some cs ∧ DataW.trod (fun _ => ()) Tryz.prog w 0 (fun _ => true) false fuel t cs.toList = some (d, p)
  | [], _, _, n, d, hm => by simp at hm
  | (m, e) :: l, ps, h, n, d, hm => by
    obtain ⟨g, t, cs, fuel, p, q, h1, h2, h3, h4, h5, _⟩ := h
    rcases List.mem_cons.1 hm with h | h
    · cases h; exact ⟨g, t, cs, fuel, p, h1, h2, h3, h4⟩
    · exact laid_mem h5 h
set_option maxRecDepth 100000 in
theorem tab_ok {W : World} {laid : List (String × DataW Unit)} (hL : laidMet Tryz.prog laid W) (hm : ("internal/strconv.uint64pow10", Go.Proofs.YtlomcifkckgneaaGreatDoor.Rows.laid_internal_strconv_uint64pow10) ∈ laid) (hsh : W.ShapedOpen Tryz.prog) : TabOK (oldGh W) W := by
  refine ⟨fun x hx => ⟨rfl, ?_⟩, fun b hb => ⟨rfl, ?_⟩⟩
  · simp only [tabs, List.mem_cons, List.not_mem_nil, or_false] at hx
    subst hx
    obtain ⟨ps, hl, _⟩ := hL
    obtain ⟨g, t, cs, fuel, p, h1, h2, h3, h4⟩ := laid_mem hl hm
    have hg : g = 3 := Option.some.inj (h1.symm.trans (show Tryz.prog.globalNamed "internal/strconv.uint64pow10" = some 3 by kernel_rfl))
    subst hg
    have ht : t = 230 := Option.some.inj (h2.symm.trans (show (Tryz.prog.globals[3]?).map (·.type) = some 230 by kernel_rfl))
    subst ht
    have hcs := Lib.cells_of_tab (k := .u64) (zs := (List.range 20).map fun i => ((10 ^ i : Nat) : Int)) (n := 20) (e := 214) (by kernel_rfl) (by kernel_rfl) (by kernel_rfl) (by kernel_rfl) (h := h4)
    simp only [World.var?, h1, Option.bind_some] at h3
    split at h3
    · rename_i cs' ty fz hh
      cases h3
      refine ⟨ty, fz, hh.trans ?_⟩
      have : cs = cs.toList.toArray := by simp
      rw [this, hcs]
      simp
    · cases h3
  · simp only [ints, List.mem_cons, List.not_mem_nil, or_false] at hb
    subst hb
    obtain ⟨cs, hh, hs, hr⟩ := hsh.1 2 #[.int .i64 0] 3 (of_decide_eq_true (by kernel_rfl)) (by kernel_rfl)
    obtain ⟨ts, hts, _, hall⟩ := hr (by kernel_rfl)
    have hct : Tryz.prog.cellTypes Tryz.prog.depth 3 = some [3] := by kernel_rfl
    have hts' : ts = [3] := Option.some.inj (hts.symm.trans hct)
    subst hts'
    have h1 : 0 < cs.size := by rw [hs]; simp
    obtain ⟨u, hu', hok⟩ := hall 0 cs[0] (by simp [h1])
    have hu0 : u = 3 := by simpa using hu'.symm
    subst hu0
    unfold Cell.ok at hok
    rw [show Tryz.prog.underlying 3 = some (.int .i64) by kernel_rfl] at hok
    cases hv : cs[0] with
    | int k m =>
      rw [hv] at hok
      obtain ⟨rfl, _⟩ := hok
      exact ⟨m, cs, 3, _, hh, by simp [h1, hv]⟩
    | _ => rw [hv] at hok; simp at hok
section
variable {H : Type} {enc : TypeId × Value → H}
set_option maxRecDepth 100000 in
theorem args_ok {W : World} {base : Nat} {L : List TypeId} (hL : flatSet Tryz.prog L = true) : ∀ {ts : List TypeId} {vs : List Value} {ds : List (DataW H)} {ps : List MemPlace}, DataW.TrodAll enc Tryz.prog W 0 (fun _ => true) true ts vs ds ps → (∀ t ∈ ts, t ∈ L) →
    (∀ (j : Nat) (t : TypeId) (v : Value), ts[j]? = some t → vs[j]? = some v → Value.okWide Tryz.prog W .any base t v) → (∀ m ∈ DataW.weightsEach Tryz.prog ts ds, m ≤ reachBytes) →
    ∃ pss : List (List PV), All2 (fun t p => ∃ n, TyP Tryz.prog n t p) ts pss ∧ All2 (fun v x => RA (oldGh W) W .ret v x) (List.zipWith (argOf Tryz.prog) ts pss) vs ∧ ∀ v ∈ List.zipWith (argOf Tryz.prog) ts pss, isOwn v = false
  | [], [], [], _, _, _, _, _ => ⟨[], .nil, .nil, by simp⟩
  | t :: ts, v :: vs, d :: ds, ps, h, hts, hval, hw => by
    obtain ⟨p, q, ⟨n, h1⟩, h2, _⟩ := h
    have hw1 : ∀ m ∈ d.weights Tryz.prog t, m ≤ reachBytes := fun m hm => hw m (by unfold DataW.weightsEach; exact List.mem_append_left _ hm)
    have hw2 : ∀ m ∈ DataW.weightsEach Tryz.prog ts ds, m ≤ reachBytes := fun m hm => hw m (by unfold DataW.weightsEach; exact List.mem_append_right _ hm)
    have hv2 : ∀ (j : Nat) (u : TypeId) (x : Value), ts[j]? = some u → vs[j]? = some x → Value.okWide Tryz.prog W .any base u x := by
      intro j u x hj hx
      refine hval (j + 1) u x ?_ ?_
      · rw [List.getElem?_cons_succ]; exact hj
      · rw [List.getElem?_cons_succ]; exact hx
    obtain ⟨pss, h3, h4, h5⟩ := args_ok hL h2 (fun u hu => hts u (List.mem_cons_of_mem _ hu)) hv2 hw2
    obtain ⟨pv, h6, h7, h8⟩ := trod_RP (w := W) (I := (oldGh W).I) (fun _ _ _ h => h) kids hL n t _ _ h1 (hts t (by simp)) hw1
    have hok := hval 0 t v rfl rfl
    have key : RA (oldGh W) W .ret (argOf Tryz.prog t pv) v ∧ isOwn (argOf Tryz.prog t pv) = false := by
      unfold argOf
      split
      · rename_i fs hu
        refine ⟨?_, rfl⟩
        unfold Value.okWide at hok
        rw [hu] at hok
        obtain ⟨cs, rfl, _, _⟩ := hok
        exact ⟨cs.toList, by simp, All2.map_left (h7.imp fun _ _ _ h => h)⟩
      · rename_i hns
        have hnarr : ∀ m e, Tryz.prog.underlying t ≠ some (.array m e) := fun m e hu => by
          have := List.all_eq_true.1 hL t (hts t (by simp))
          rw [hu] at this
          simp at this
        rw [ok_one hok ⟨fun fs => hns fs, hnarr⟩] at h7
        cases h7 with
        | cons ha hb =>
          cases hb
          exact ⟨ha, rfl⟩
    refine ⟨pv :: pss, .cons ⟨n, h6⟩ h3, .cons key.1 h4, fun x hx => ?_⟩
    simp only [List.zipWith_cons_cons, List.mem_cons] at hx
    rcases hx with rfl | hx
    · exact key.2
    · exact h5 x hx
theorem trodAll_len {W : World} {base : Nat} {sp : Nat → Bool} {held : Bool} : ∀ {ts : List TypeId} {vs : List Value} {ds : List (DataW H)} {ps : List MemPlace}, DataW.TrodAll enc Tryz.prog W base sp held ts vs ds ps → ds.length = ts.length
  | [], [], [], _, _ => rfl
  | _ :: _, _ :: _, _ :: _, _, ⟨_, _, _, h2, _⟩ => by simp [trodAll_len h2]
theorem trodAll_carry {W W' : World} {base : Nat} {sp : Nat → Bool} {held : Bool} : ∀ {ts : List TypeId} {vs : List Value} {ds : List (DataW H)} {ps : List MemPlace}, (∀ p ∈ ps, W.sameAt W' p) → DataW.TrodAll enc Tryz.prog W base sp held ts vs ds ps → DataW.TrodAll enc Tryz.prog W' base sp held ts vs ds ps
  | [], [], [], _, _, h => h
  | _ :: _, _ :: _, _ :: _, _, hs, ⟨p, q, ⟨n, h1⟩, h2, e⟩ => ⟨p, q, ⟨n, DataW.trod_carry n _ _ _ h1 fun x hx => hs x (by rw [e]; exact List.mem_append_left _ hx)⟩, trodAll_carry (fun x hx => hs x (by rw [e]; exact List.mem_append_right _ hx)) h2, e⟩
set_option maxRecDepth 100000 in
/-- WHAT A LAW's ROW ASKS, from the interpreter's answer. -/
theorem law_ok {f : FuncId} {fn : Func} {spec : ChangeSpec} {laid : List (String × DataW Unit)} {L : List TypeId} {W : World} {base : Nat} {args : Array Value} {ds gs : List (DataW H)} {before : List MemPlace}
    (hg : K.good f = true) (hL : flatSet Tryz.prog L = true) (hts : ∀ t ∈ fn.params.toList, t ∈ L) (hres : fn.resultTypes = #[4]) (hvars : spec.vars = []) (hspec : ∀ ds : List (DataW H), ds.length = fn.params.size → spec.fn H ds = { results := [.lit (.bool true)], args := ds })
    (hmem : ("internal/strconv.uint64pow10", Go.Proofs.YtlomcifkckgneaaGreatDoor.Rows.laid_internal_strconv_uint64pow10) ∈ laid) (hnoh : (laid.filter fun x => x.2.handleName?.isSome) = [])
    (hden : ∀ pss : List (List PV), All2 (fun t p => ∃ n, TyP Tryz.prog n t p) fn.params.toList pss → den K f (List.zipWith (argOf Tryz.prog) fn.params.toList pss) [] = some (.ret (.c (.pv (.bool true))) []))
    (hval : ∀ (j : Nat) t v, fn.params[j]? = some t → args[j]? = some v → Value.okWide Tryz.prog W .any base t v)
    (hW : DataW.Whole enc Tryz.prog fn.params.toList spec.vars false W args.toList ds gs before)
    (hwt : (DataW.weightsEach Tryz.prog fn.params.toList ds).all (· ≤ reachBytes) = true)
    (hLaid : laidMetH Tryz.prog laid W) (hsh : W.ShapedOpen Tryz.prog) :
    Calls Tryz.prog f args W fun e W' => ∃ v, e = .returned v ∧ spec.post enc Tryz.prog fn false true false false W args v W' := by
  have hW' := hW
  obtain ⟨p, q, hA, hV, rfl, hfz, hnd⟩ := hW
  rw [hvars] at hV
  have hgq : gs = [] ∧ q = [] := by
    cases gs with
    | nil => exact ⟨rfl, hV⟩
    | cons g gs => exact hV.elim
  obtain ⟨rfl, rfl⟩ := hgq
  have hlen := trodAll_len hA
  have hv2 : ∀ (j : Nat) (u : TypeId) (x : Value), fn.params.toList[j]? = some u → args.toList[j]? = some x → Value.okWide Tryz.prog W .any base u x := by
    intro j u x hj hx
    rw [Array.getElem?_toList] at hj hx
    exact hval j u x hj hx
  obtain ⟨pss, h1, h2, h3⟩ := args_ok (base := base) hL hA hts hv2 (fun m hm => by simpa using List.all_eq_true.1 hwt m hm)
  have hlm : laidMet Tryz.prog laid W := by
    unfold laidMetH at hLaid
    rw [hnoh] at hLaid
    exact hLaid
  have hwi := oldWI (tab_ok hlm hmem hsh)
  have hc := den_ok K_prog hg (hden pss h1) (oldGh W) W args.toList hwi h2 h3 (fun i l h => by simp at h) (fun s b h => by cases h)
  rw [Array.toArray_toList] at hc
  refine hc.mono fun e W' ⟨G', hx, hw', v, he, hv, _⟩ => ?_
  subst he
  have hv' : v = .bool true := RA.boolv hv
  subst hv'
  refine ⟨_, rfl, ?_⟩
  have hold : ∀ b, b < W.heap.size → W'.heap[b]? = W.heap[b]? := fun b hb => (hx.old b hb rfl).2.1
  have hds : spec.fn H (ds ++ []) = { results := [.lit (.bool true)], args := ds } := by
    rw [List.append_nil]
    exact hspec ds (by rw [hlen]; simp)
  refine post_of_old (pa := p) (pv := []) hW' (fun b sp hd => ?_) (fun sp hsp => ?_) (fun sp hsp => ?_) rfl (keptBut_of_old hx.os hx.output hold _) (fun a ha => ?_) ?_
  · rw [hds, hres]
    exact trodAll_cons_mk (shut_bool (by kernel_rfl) _) trodAll_mk0
  · rw [hds]
    have hT : ∀ t ∈ fn.params.toList, t < Tryz.prog.types.size := fun t ht => by
      have := List.all_eq_true.1 hL t (hts t ht)
      simp only [Bool.and_eq_true, decide_eq_true_eq] at this
      exact this.1
    have := DataW.TrodAll.respare (spare' := sp) kids slices_full hT hA (fun y hy => hsp y (by simpa using hy))
    refine trodAll_carry (fun y hy => ?_) this
    have hlt : y.block < W.heap.size := DataW.TrodAll.lt hA y hy
    cases y with
    | cell b off =>
      show W'.cell? ⟨b, off, none⟩ = W.cell? ⟨b, off, none⟩
      unfold World.cell?
      rw [hold b hlt]
    | map b => exact hold b hlt
  · rw [hds, hvars]
    rfl
  · unfold World.frozen?
    rw [hold a.block ha]
  · rw [hres]
    intro j t r hj hr
    have hj0 : j = 0 := by
      rcases Nat.eq_zero_or_pos j with h | h
      · exact h
      · rw [Array.getElem?_eq_none (by simp; omega)] at hj; cases hj
    subst hj0
    simp at hj
    subst hj
    have hr0 : r = .bool true := by
      have : ((Value.bool true).resultList 1)[0]? = some r := by simpa using hr
      simp [Value.resultList] at this
      exact this.symm
    subst hr0
    exact okWide_bool_mk (by kernel_rfl) _
end
end Go.Abs
namespace Go.Abs
open Go Go.Proofs
section
variable {P : Program} {t e : TypeId} {n : Nat} {ps : List PV}
theorem TyP_int {k : IntKind} (h : descOf P t = some (.int k)) (hp : TyP P n t ps) : ∃ z, ps = [.int k z] ∧ (Lit.int k z).wf = true := by
  cases n with
  | zero => exact hp.elim
  | succ n => unfold TyP at hp; rw [desc_int h] at hp; exact hp
theorem wf_I64 {z : Int} (h : (Lit.int .i64 z).wf = true) : I64 z := by
  simp only [Lit.wf, Bool.and_eq_true, decide_eq_true_eq] at h
  exact h
end
end Go.Abs
namespace Go.Abs
open Go Go.Proofs
set_option maxRecDepth 100000
theorem argOf_num (p : PV) : argOf Tryz.prog 3 [p] = .c (.pv p) := by
  unfold argOf; rw [Tryz.underlying3]
theorem args2 {t u : TypeId} {pss : List (List PV)} {Q : Prop} (h : All2 (fun t p => ∃ n, TyP Tryz.prog n t p) [t, u] pss) (hq : ∀ n m p q, TyP Tryz.prog n t p → TyP Tryz.prog m u q → pss = [p, q] → Q) : Q := by
  cases h with
  | cons h1 h =>
  cases h with
  | cons h2 h =>
  cases h
  obtain ⟨n, h1⟩ := h1
  obtain ⟨m, h2⟩ := h2
  exact hq n m _ _ h1 h2 rfl
end Go.Abs
namespace Go.Abs
open Go Go.Proofs
set_option maxRecDepth 100000
end Go.Abs
namespace Go.Abs
open Go Go.Proofs
set_option maxRecDepth 100000
def flatQ : List TypeId := [4, 3, 9, 91, 60, 93, 23, 52, 48, 50, 45, 47, 31]
theorem flatQ_ok : flatSet Tryz.prog flatQ = true := by kernel_rfl
end Go.Abs
