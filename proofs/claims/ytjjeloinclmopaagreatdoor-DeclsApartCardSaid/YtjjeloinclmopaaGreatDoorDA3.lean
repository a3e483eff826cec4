/-
  THE CUTS OF split, as an interpreter of its own runs them: where the first blank, the first sign of values lies.
  THE ABSTRACT INTERPRETER: slices.Clone of values as a primitive: a slice of the same values, in cells of its own.
  THE ABSTRACT INTERPRETER: what split.parts' iterator asks of others: where the first cut lies, copies, parts of slices: as calls of the model's.
  THE ABSTRACT INTERPRETER: split.parts' iterator: whatever takes what it yields is handed the parts between the cuts, in order.
  THE ABSTRACT INTERPRETER: what split.At, split.Words hold between two rounds of their loops over split.parts' iterator.
  THE ABSTRACT INTERPRETER: split.At as a primitive.
  THE ABSTRACT INTERPRETER: split.At as a primitive: what it hands back.
  THE ABSTRACT INTERPRETER: split.Words as a primitive.
  THE ABSTRACT INTERPRETER: Low of winnowingref04: it writes into a row that it has made; walked by hand.
  THE ABSTRACT INTERPRETER: small of decls (a text in small letters): it writes into a row that it has made; walked by hand, as PrimLow is.
  (The program's loop ranges over the row that it writes: the sign at a place is read ahead of its writing.)
  THE ABSTRACT INTERPRETER: nest.pairs: it makes a map of three rows; walked by hand.
  THE ABSTRACT INTERPRETER: nest.opens: it looks through a map in whatever order; walked by hand.
  THE READER OF VALUES (nest's until, one), as an interpreter of its own runs it: what it answers. (The functions that ask it are run by the main interpreter, which has nest.Parse as a primitive.)
  THE ABSTRACT INTERPRETER: nest.Parse as a primitive: walked by hand (it defers a function that recovers), round what the reader answers.
  THE ABSTRACT INTERPRETER: nest.Parse as a primitive: that its answer is what the program does.
  strings.IndexAny of a text of at most eight bytes, as an interpreter runs it that asks strings.IndexRune.
  strings.IndexAny of a text of at most eight bytes, as an interpreter runs it: where the first byte stands that ends a line.
  strings.IndexAny, asked for the three bytes that end a line, of a text of whatever bytes: what it answers, and that it does.
-/
import Derived.Laws.AppendOwn
import Derived.WalkSpells
import Derived.Lib.BufferMore
import Derived.RangeFuncNested
import Derived.RangeFuncBound
import Derived.RangeFuncCalls
import Derived.RangeFuncLeaves
import Derived.Shelf.Abstract
import Derived.Shelf.RegionOpen
import Derived.WalkKit
import Derived.OwnWalkIn
import Derived.TacticsInMore
import Derived.LoopNIn
import Derived.LoopIn
import Derived.Maps.AppendAt
import Derived.Maps.OwnIn
import Derived.WalkMore
import Derived.WideMake
import Derived.Maps.RangeRun
import Derived.Deep.RegionWith
import Derived.Defers
import Derived.Recover
import Derived.Lib.IndexAny
import Derived.Lib.IndexBytes
import Derived.Laws.RangeAny
import Derived.Laws.Runes
import Derived.Test.YtjjeloinclmopaaGreatDoorDA2
set_option linter.unusedSimpArgs false
set_option linter.unusedVariables false
namespace Go.Abs.SR
open Go Go.Proofs Go.Abs
set_option maxRecDepth 10000
attribute [local go_sem] exL_seq exL_cond exL_block exL_scope exL_ret exL_skip exL_exit runRegion runOps stepOp guardA absOp takeOver opd avOf cvOf St.degAt St.put okPV okVal okAV absBin intBin strBin boolBin setBoxes if_true Bool.false_eq_true if_false Option.map_some Option.map_none Option.bind_some Option.bind_none thenO outOf upd List.toList_toArray isOwn steal appArgs mvB inApps AV.deg CV.deg AV.gv AV.isIter absNext some_bne some_beqN List.length_nil List.length_cons List.filterMap_cons List.filterMap_nil beq_iff_eq List.getElem?_cons_zero List.getElem?_cons_succ Option.getD_some Bool.false_and Bool.and_false Bool.and_self absCall doCall getBoxes lend back idx dedup AV.ren CV.ren TV.ren AV.ptrs CV.ptrs zipBox AV.flat CV.flat absLoad absStore cellsOfAV setAt newBox markB bldTypes absFieldAddr absField absExtract absAssert noAssert absMkIface ifcOf CV.pv? content pushHead ownT fillCells reps pvs chunks enterSt leave resOf resVars resVar outBoxes lentOnly TV.deg TV.av LK CV.plain CV.noBld nilBin absUn bound List.map_cons List.map_nil List.all_cons List.all_nil List.any_cons List.any_nil List.contains_cons List.contains_nil List.elem_cons List.elem_nil List.cons_append List.nil_append List.append_nil List.flatMap_cons List.flatMap_nil List.zip_cons_cons List.zip_nil_left List.zip_nil_right List.take_succ_cons List.take_zero List.take_nil List.drop_succ_cons List.drop_zero List.drop_nil List.isEmpty_nil List.isEmpty_cons Bool.and_true Bool.true_and Bool.or_true Bool.true_or Bool.or_false Bool.false_or Bool.not_true Bool.not_false Nat.add_zero Nat.zero_add Option.isNone_none Option.isNone_some Option.getD_none true_and and_true not_true_eq_false not_false_eq_true decide_true decide_false Nat.le_refl and_self Bool.not_eq_true Nat.sub_self or_true true_or Option.some.injEq List.length_map List.nil_eq and_false false_and AV.live CV.live CV.liveIn firstReg Option.orElse_some Option.orElse_none head keepSlots keepBoxes Int.lt_irrefl List.length_append ite_self memOK logOps opKey lentBoxes Key.clash Key.sees Key.writes Nat.lt_irrefl gt_iff_lt nobox_at bot_at false_or or_false beq_self_eq_true Bool.true_beq Bool.false_beq
theorem ty_descOf_22 : descOf Tryz.prog 22 = Option.some (Go.Abs.Desc.sl 49 Bool.false) := by kernel_rfl
theorem ty_szOf_49 : szOf Tryz.prog 49 = Option.some 5 := by kernel_rfl
theorem ty_shapeT_49 : shapeT Tryz.prog 49 = Option.some (Option.some 5) := by kernel_rfl
theorem ty_fieldOff_49_0 : fieldOff Tryz.prog 49 0 = Option.some (0, 3) := by kernel_rfl
theorem ty_szOf_3 : szOf Tryz.prog 3 = Option.some 1 := by kernel_rfl
theorem ty_shapeT_3 : shapeT Tryz.prog 3 = Option.some Option.none := by kernel_rfl
theorem ty_fieldOff_49_1 : fieldOff Tryz.prog 49 1 = Option.some (1, 47) := by kernel_rfl
theorem ty_szOf_47 : szOf Tryz.prog 47 = Option.some 3 := by kernel_rfl
theorem ty_fieldOff_47_0 : fieldOff Tryz.prog 47 0 = Option.some (0, 3) := by kernel_rfl
theorem ty_shapeT_47 : shapeT Tryz.prog 47 = Option.some (Option.some 3) := by kernel_rfl
theorem ty_shapeT_9 : shapeT Tryz.prog 9 = Option.some Option.none := by kernel_rfl
theorem ty_zeroCells_47 : zeroCells Tryz.prog 47 = Option.some [Go.Abs.CV.pv (Go.Abs.PV.int Go.IntKind.i64 0), Go.Abs.CV.pv (Go.Abs.PV.str []), Go.Abs.CV.pv (Go.Abs.PV.int Go.IntKind.i64 0)] := by kernel_rfl
theorem ty_placesOf_47 : placesOf Tryz.prog 47 = Option.some [(0, 1), (1, 1), (2, 1)] := by kernel_rfl
def keepS (f r : Nat) : List Nat × List Nat := if f == 168 && r == 2 then ([0, 1, 7, 8], [100000]) else ([], [])
def goodsS : List Nat := [168, 170, 102, 103]
noncomputable def KS : Cfg := { P := Tryz.prog, pr := fun _ => none, keep := keepS, ownRet := fun _ => false, good := goodsS.contains, hook := fun _ _ => false }
theorem S_own (f : FuncId) : KS.ownRet f = false := rfl
theorem S_hook (f i : Nat) : KS.hook f i = false := rfl
theorem regionS (f : FuncId) (id : Nat) (ops : Array Oper) (draw : Bool) (S : St) : exL KS f (.region id ops draw) S = runRegion KS (den KS) ops.toList draw S := exL_region f id ops draw S (S_hook f id)
theorem S_P : KS.P = Tryz.prog := rfl
theorem S_keep (f r : Nat) : KS.keep f r = keepS f r := rfl
theorem keep_i : keepS 168 2 = ([0, 1, 7, 8], [100000]) := by decide
theorem good_i : KS.good 168 = true := rfl
theorem good_b : KS.good 170 = true := rfl
theorem good_a : KS.good 102 = true := rfl
theorem good_s : KS.good 103 = true := rfl
abbrev I (n : Int) : AV := .c (.pv (.int .i64 n))
abbrev T (l : List UInt8) : AV := .c (.pv (.str l))
abbrev B (b : Bool) : AV := .c (.pv (.bool b))
abbrev L (l : List (List PV)) : AV := .c (.pv (.sl l))
abbrev P0 : AV := .c (.loc 100000 0)
theorem den_runS {f : FuncId} {fn : Func} {x : Code} {nt : Nat} {args : List AV} {bxs : List (List CV)} {r : Res} (hf : Tryz.prog.funcs[f]? = some fn) (hx : fn.body = some x) (hn : fn.ntmps = nt)
    (hl : args.length ≤ nt ∧ nt < LK) (h : (exL KS f x (enterSt nt args bxs)).bind (fun r => leave KS f fn bxs.length (some r)) = some r) : den KS f args bxs = some r := by
  rw [den_eq (K := KS) rfl rfl hf hx, hn, if_pos hl]
  exact h
theorem exL_headS (f : FuncId) (a : Code) (S : St) : exL KS f (.loop a) S = exL KS f (.loop a) (head (keepS f ((firstReg a).getD 0)) S) := by
  rw [exL_loop, exL_loop (S := head _ S), S_keep, head_head]
theorem wrap_natS (n : Nat) (h : n < 9223372036854775807) : IntKind.i64.wrap ((n : Int) + 1) = ((n + 1 : Nat) : Int) := by
  rw [IntWalk.i64_in _ (by omega)]; omega
def isBlank : Val → Bool
  | .mk k t _ => k == 1 && t.kind == 8
def isSign (s : List UInt8) : Val → Bool
  | .mk k t _ => k == 1 && decide (t = ⟨7, s, 0⟩)
theorem blank_den (k : Int) (t : Tok) (c : List Val) : den KS 170 [.agg [.pv (.int .i64 k), .pv (.int .i64 t.kind), .pv (.str t.text), .pv (.int .i64 t.n), .pv (.sl (encL c))]] [] = some (.ret (B (isBlank (.mk k t c))) []) := by
  have hr : Tryz.f170.results = #[.tmp 2] := rfl
  refine den_runS Tryz.func170 rfl Tryz.ntmps170 ⟨by simp, by simp [LK]⟩ ?_
  unfold isBlank
  cases h1 : (k == 1)
  · simp only [go_sem, Nat.reduceLT, Nat.reduceEqDiff, Nat.reduceBEq, Nat.reduceAdd, Nat.reduceSub, Nat.reduceLeDiff, regionS, S_own, S_P, ty_fieldOff_49_0, ty_szOf_3, ty_shapeT_3, hr, h1]
  · simp only [go_sem, Nat.reduceLT, Nat.reduceEqDiff, Nat.reduceBEq, Nat.reduceAdd, Nat.reduceSub, Nat.reduceLeDiff, regionS, S_own, S_P, ty_fieldOff_49_0, ty_szOf_3, ty_shapeT_3, ty_fieldOff_49_1, ty_szOf_47, ty_fieldOff_47_0, hr, h1]
theorem sign_den (d : List UInt8) : den KS 103 [T d] [] = some (.ret (.agg [.pv (.int .i64 7), .pv (.str d), .pv (.int .i64 0)]) []) := by
  have hr : Tryz.f103.results = #[.cell 2 47] := rfl
  refine den_runS Tryz.func103 rfl Tryz.ntmps103 ⟨by simp, by simp [LK]⟩ ?_
  simp only [go_sem, Nat.reduceLT, reduceCtorEq, Nat.reduceEqDiff, Nat.reduceBEq, Nat.reduceAdd, Nat.reduceSub, Nat.reduceLeDiff, regionS, S_own, S_P, ty_shapeT_47, ty_zeroCells_47, ev_build ty_zeroCells_47 ty_placesOf_47, ty_szOf_47, hr]
theorem tok_eq (k k' n n' : Int) (t t' : List UInt8) : structEq Tryz.prog 47 [.int .i64 k, .str t, .int .i64 n] [.int .i64 k', .str t', .int .i64 n'] = some ((k == k') && ((t == t') && ((n == n') && true))) := by kernel_rfl
theorem at1_den (d : List UInt8) (k : Int) (t : Tok) (c : List Val) : den KS 102 [.agg [.pv (.int .i64 k), .pv (.int .i64 t.kind), .pv (.str t.text), .pv (.int .i64 t.n), .pv (.sl (encL c))], P0] [[.pv (.str d)]] = some (.ret (B (isSign d (.mk k t c))) [[.pv (.str d)]]) := by
  have hr : Tryz.f102.results = #[.tmp 3] := rfl
  have hs := sign_den d
  have he := tok_eq t.kind 7 t.n 0 t.text d
  have hv : isSign d (.mk k t c) = (k == 1 && ((t.kind == 7) && ((t.text == d) && ((t.n == 0) && true)))) := by
    unfold isSign
    obtain ⟨tk, tt, tn⟩ := t
    simp only [Bool.and_true]
    by_cases h : tk = 7 ∧ tt = d ∧ tn = 0
    · obtain ⟨rfl, rfl, rfl⟩ := h
      simp
    · have : decide ((⟨tk, tt, tn⟩ : Tok) = ⟨7, d, 0⟩) = false := decide_eq_false fun e => h (by cases e; exact ⟨rfl, rfl, rfl⟩)
      have key : (tk == 7 && (tt == d && tn == 0)) = false := by
        rw [Bool.eq_false_iff]
        intro e
        simp only [Bool.and_eq_true, beq_iff_eq] at e
        exact h e
      rw [this, key]
  rw [hv]
  refine den_runS Tryz.func102 rfl Tryz.ntmps102 ⟨by simp, by simp [LK]⟩ ?_
  cases h1 : (k == 1)
  · simp only [go_sem, Nat.reduceLT, Nat.reduceEqDiff, Nat.reduceBEq, Nat.reduceAdd, Nat.reduceSub, Nat.reduceLeDiff, regionS, S_own, S_P, ty_fieldOff_49_0, ty_szOf_3, ty_shapeT_3, hr, h1]
  · generalize ((t.kind == 7) && ((t.text == d) && ((t.n == 0) && true))) = b at he ⊢
    simp only [go_sem, Nat.reduceLT, Nat.reduceEqDiff, Nat.reduceBEq, Nat.reduceAdd, Nat.reduceSub, Nat.reduceLeDiff, regionS, S_own, S_P, ty_fieldOff_49_0, ty_szOf_3, ty_shapeT_3, ty_fieldOff_49_1, ty_szOf_47, ty_shapeT_47, ty_shapeT_9, hr, h1, hs, he, good_s]
inductive Cut : (Val → Bool) → CV → Option (List CV) → List (List CV) → Prop
  | blank : Cut isBlank (.fn 170 []) none []
  | sign (d : List UInt8) : Cut (isSign d) (.fn 102 [(100000, 0)]) (some [.pv (.str d)]) [[.pv (.str d)]]
theorem val_at (l : List Val) (i : Nat) (k : Int) (t : Tok) (l' : List Val) (h : l[i]? = some (.mk k t l')) : (encL l)[(i : Int).toNat]? = some [.int .i64 k, .int .i64 t.kind, .str t.text, .int .i64 t.n, .sl (encL l')] := encL_get l i _ h
theorem drop_cons {α : Type} {l rest : List α} {x : α} {i : Nat} (h : l.drop i = x :: rest) : l[i]? = some x ∧ l.drop (i + 1) = rest ∧ i < l.length := by
  have hi : i < l.length := by
    rcases Nat.lt_or_ge i l.length with h' | h'
    · exact h'
    · rw [List.drop_eq_nil_iff.2 h'] at h; cases h
  rw [List.drop_eq_getElem_cons hi] at h
  cases h
  exact ⟨List.getElem?_eq_getElem hi, rfl, hi⟩
abbrev ixH (l : List Val) (i : Nat) (fv : CV) (kb : Option (List CV)) : St :=
  { sl := upd (upd (upd (upd bot 8 (I i)) 7 (I l.length)) 1 (.c fv)) 0 (L (encL l)), bx := upd nobox 100000 kb, nt := 19 }
noncomputable def ixlp : Code := .loop (loopAt Tryz.f168 2)
theorem ix_loop {p : Val → Bool} {fv : CV} {kb : Option (List CV)} {kl : List (List CV)} (hc : Cut p fv kb kl) (l : List Val) (hl : l.length ≤ 1000000000) : ∀ (rest : List Val) (i : Nat), l.drop i = rest → i ≤ l.length →
    Ends (exL KS 168 ixlp (ixH l i fv kb)) fun o S => S.bx 100000 = kb ∧ match rest.findIdx? p with
      | none => o = .exit 0 ∧ S.nt = 19
      | some j => o = .ret ∧ S.sl 4 = I ((i + j : Nat) : Int)
  | [], i, hd, hi => by
    have hin : i = l.length := by
      have := List.drop_eq_nil_iff.1 hd
      omega
    subst hin
    have hlt : decide ((l.length : Int) < (l.length : Int)) = false := decide_eq_false (by omega)
    unfold ixlp
    conv in loopAt _ _ => whnf
    rw [exL_loop]
    cases hc
    all_goals simp only [go_sem, Nat.reduceLT, reduceCtorEq, Nat.reduceEqDiff, regionS, S_keep, keep_i, ends_some, List.findIdx?_nil]
  | .mk k t c :: rest, i, hd, hi => by
    obtain ⟨g1, g2, g3⟩ := drop_cons hd
    have hlt : decide ((i : Int) < (l.length : Int)) = true := decide_eq_true (by omega)
    have hget := val_at l i k t c g1
    have ih := ix_loop hc l hl rest (i + 1) g2 (by omega)
    unfold ixlp at ih ⊢
    conv at ih in loopAt _ _ => whnf
    rw [List.findIdx?_cons]
    conv in loopAt _ _ => whnf
    rw [exL_loop]
    cases hv : p (.mk k t c)
    · rw [if_neg (by simp)]
      cases hc with
      | blank =>
        have hm := blank_den k t c
        rw [hv] at hm
        simp only [go_sem, Nat.reduceLT, reduceCtorEq, Nat.reduceEqDiff, Nat.reduceBEq, Nat.reduceAdd, regionS, S_own, S_P, S_keep, keep_i, ev_indexAddr ty_descOf_22, ty_szOf_49, ty_shapeT_49, hlt, hget, Int.natCast_nonneg, hm, good_b, wrap_natS i (by omega)]
        rw [exL_headS]
        simp only [go_sem, reduceCtorEq, Nat.reduceEqDiff, keep_i]
        refine ends_imp ih fun o S q => ⟨q.1, ?_⟩
        have q2 := q.2
        cases hf : rest.findIdx? isBlank with
        | none => rw [hf] at q2; exact q2
        | some j =>
          rw [hf] at q2
          refine ⟨q2.1, q2.2.trans ?_⟩
          rw [show i + 1 + j = i + (j + 1) by omega]
      | sign d =>
        have hm := at1_den d k t c
        rw [hv] at hm
        simp only [go_sem, Nat.reduceLT, reduceCtorEq, Nat.reduceEqDiff, Nat.reduceBEq, Nat.reduceAdd, regionS, S_own, S_P, S_keep, keep_i, ev_indexAddr ty_descOf_22, ty_szOf_49, ty_shapeT_49, hlt, hget, Int.natCast_nonneg, hm, good_a, wrap_natS i (by omega)]
        rw [exL_headS]
        simp only [go_sem, reduceCtorEq, Nat.reduceEqDiff, keep_i]
        refine ends_imp ih fun o S q => ⟨q.1, ?_⟩
        have q2 := q.2
        cases hf : rest.findIdx? (isSign d) with
        | none => rw [hf] at q2; exact q2
        | some j =>
          rw [hf] at q2
          refine ⟨q2.1, q2.2.trans ?_⟩
          rw [show i + 1 + j = i + (j + 1) by omega]
    · rw [if_pos rfl]
      cases hc with
      | blank =>
        have hm := blank_den k t c
        rw [hv] at hm
        simp only [go_sem, Nat.reduceLT, reduceCtorEq, Nat.reduceEqDiff, Nat.reduceBEq, Nat.reduceAdd, regionS, S_own, S_P, S_keep, keep_i, ev_indexAddr ty_descOf_22, ty_szOf_49, ty_shapeT_49, hlt, hget, Int.natCast_nonneg, hm, good_b, ends_some, Nat.add_zero]
      | sign d =>
        have hm := at1_den d k t c
        rw [hv] at hm
        simp only [go_sem, Nat.reduceLT, reduceCtorEq, Nat.reduceEqDiff, Nat.reduceBEq, Nat.reduceAdd, regionS, S_own, S_P, S_keep, keep_i, ev_indexAddr ty_descOf_22, ty_szOf_49, ty_shapeT_49, hlt, hget, Int.natCast_nonneg, hm, good_a, ends_some, Nat.add_zero]
def ixOf (o : Option Nat) : Int := match o with | some j => j | none => -1
theorem IndexFunc_den {p : Val → Bool} {fv : CV} {kb : Option (List CV)} {kl : List (List CV)} (hc : Cut p fv kb kl) (l : List Val) (hl : l.length ≤ 1000000000) :
    den KS 168 [L (encL l), .c fv] kl = some (.ret (I (ixOf (l.findIdx? p))) kl) := by
  have hr : Tryz.f168.results = #[.tmp 4] := rfl
  have h := ix_loop hc l hl l 0 rfl (Nat.zero_le _)
  unfold ixlp at h
  conv at h in loopAt _ _ => whnf
  obtain ⟨o, S', w, hb, hq⟩ := h
  have z0 : ((0 : Nat) : Int) = 0 := rfl
  simp only [ixH, z0] at w
  refine den_runS Tryz.func168 rfl Tryz.ntmps168 ⟨by simp, by simp [LK]⟩ ?_
  cases hf : l.findIdx? p with
  | none =>
    rw [hf] at hq
    obtain ⟨rfl, hn⟩ := hq
    unfold ixOf
    cases hc
    all_goals
      simp only [go_sem, Nat.reduceLT, reduceCtorEq, Nat.reduceEqDiff, Nat.reduceAdd, regionS, S_own, S_P, ev_len_sl ty_descOf_22, encL_len]
      rw [exL_headS]
      simp only [go_sem, reduceCtorEq, Nat.reduceEqDiff, keep_i]
      erw [w]
      simp only [go_sem, Nat.reduceLT, regionS, hr, hn, hb]
  | some j =>
    rw [hf] at hq
    obtain ⟨rfl, h4⟩ := hq
    rw [Nat.zero_add] at h4
    unfold ixOf
    cases hc
    all_goals
      simp only [go_sem, Nat.reduceLT, reduceCtorEq, Nat.reduceEqDiff, Nat.reduceAdd, regionS, S_own, S_P, ev_len_sl ty_descOf_22, encL_len]
      rw [exL_headS]
      simp only [go_sem, reduceCtorEq, Nat.reduceEqDiff, keep_i]
      erw [w]
      simp only [go_sem, hr, h4, hb]
end Go.Abs.SR
namespace Go.Abs
open Go Go.Proofs Go.RowKit
theorem info_val0 : (Tryz.prog.info? 49).map (fun i => (i.zero.any (fun z => z.cells.size == 5), i.size, i.bytes)) = some (true, 5, 64) := by kernel_rfl
theorem info_val : ∃ i z, Tryz.prog.info? 49 = some i ∧ i.zero = some z ∧ z.cells.size = 5 ∧ i.size = 5 ∧ i.bytes = 64 := by
  have h := info_val0
  rw [Option.map_eq_some_iff] at h
  obtain ⟨i, hi, h⟩ := h
  simp only [Prod.mk.injEq] at h
  obtain ⟨h1, h2, h3⟩ := h
  cases hz : i.zero with
  | none => rw [hz] at h1; cases h1
  | some z =>
    rw [hz] at h1
    exact ⟨i, z, hi, hz, by simpa using h1, h2, h3⟩
theorem cell_alloc_at {w : World} (o : Obj) {a : Addr} {v : Value} (h : w.cell? a = some v) : (w.alloc o).cell? a = some v := by
  have hlt : a.block < w.heap.size := by
    unfold World.cell? at h
    cases e : w.heap[a.block]? with
    | none => rw [e] at h; cases h
    | some o => exact (Array.getElem?_eq_some_iff.1 e).1
  rw [((Below.refl w.heap.size w).alloc (Nat.le_refl _) o).cell hlt]; exact h
set_option maxRecDepth 100000 in
set_option maxHeartbeats 4000000 in
theorem clone_nil (n c : Nat) (w : World) :
    Calls Tryz.prog 169 #[.slice none n c] w fun e w' => e = .returned (.slice none 0 0) ∧ w' = w := by
  go_enter Tryz.func169, Tryz.ntmps169
  have hq := Lib.run_eql_slice_nil (P := Tryz.prog) w 22 49 none n c 0 0 Tryz.underlying22
  go_wp2
  go_ret
  exact ⟨rfl, rfl⟩
set_option maxRecDepth 100000 in
set_option maxHeartbeats 4000000 in
theorem clone_some (ad : Addr) (n c : Nat) (w : World) (news : List Value) (hl : news.length = n * 5) (hnews : ∀ j u, news[j]? = some u → w.cell? (ad.add j) = some u) (h1 : ∀ u ∈ news, u.oneCell' = true) (hn : n ≤ 1000000000) :
    Calls Tryz.prog 169 #[.slice (some ad) n c] w fun e w' => ∃ v', e = .returned v' ∧ w'.ownsRow w.heap.size 49 5 v' n news ∧ Below w.heap.size w w' := by
  obtain ⟨i, z, hi, hz, hzs, hs, hb⟩ := info_val
  have hrow := World.ownsRow_made (e := 49) (size := 5) w #[] 0 (Nat.le_refl _) (by simp) (by simp)
  have hq := Lib.run_eql_slice_nil (P := Tryz.prog) w 22 49 (some ad) n c 0 0 Tryz.underlying22
  go_enter Tryz.func169, Tryz.ntmps169
  go_wp2_with (at_builtin; refine wpList_append_own _ rfl _ _ 22 rfl w.heap.size 49 i z 5 64 Tryz.underlying22 hi hz hs hb hzs (by decide) _ _ _ rfl hrow ad n c news rfl hl ?_ h1 ?_ ?_ ?_ ?_)
  · exact fun j u h => cell_alloc_at _ (hnews j u h)
  · simp only [maxLen]; omega
  · omega
  · simp
  · intro v' w' hown hgrow hne
    have hbl : Below w.heap.size w w' := ((Below.refl _ w).alloc (Nat.le_refl _) _).grown hgrow (by simp) (fun k e => by cases e; exact Nat.le_refl _)
    go_wp2
    go_ret
    exact ⟨_, rfl, hown, hbl⟩
section
variable {G : Gh} {w w' : World}
theorem row_gr (hw : WI G w) (hb : Below w.heap.size w w') {g : Nat} {cur : Array Value} {e : TypeId} {fz : Nat × Nat} {f : Nat → Option Value} (hg : w.heap.size ≤ g) (hr : w'.heap[g]? = some (.cells cur e fz)) (hf : ∀ k y, f k = some y → cur[k]? = some y) :
    Ext G w (G.row g f none) w' ∧ WI (G.row g f none) w' := by
  obtain ⟨gr, hw'⟩ := below_gr hw hb
  have hI : ∀ b k y, G.I b k = some y → (G.row g f none).I b k = some y := fun b k y h => by
    have := I_lt hw h
    show (if b = _ then f k else G.I b k) = _
    rw [if_neg (by omega)]; exact h
  have hgl : g < w'.heap.size := (Array.getElem?_eq_some_iff.1 hr).1
  refine ⟨⟨hI, fun b hlt hn => ⟨?_, (gr.ext.old b hlt hn).2.1, fun k => ?_⟩, gr.ext.size, gr.ext.os, gr.ext.output, gr.ext.tape, fun _ _ => rfl⟩,
    ⟨fun b k y h => ?_, fun b hb' => ⟨fun k => ?_, ?_⟩, fun b s hb' k => ?_, fun s b hb' => ?_, hw'.tab.map fun b _ hn => ⟨?_, rfl⟩⟩⟩
  · show upd G.ow g none b = none
    unfold upd; split
    · rfl
    · exact hn
  · show (if b = g then f k else G.I b k) = _
    rw [if_neg (by omega)]
  · have h' : (if b = g then f k else G.I b k) = some y := h
    by_cases e : b = g
    · subst e
      rw [if_pos rfl] at h'
      have := hf k y h'
      unfold World.cell?
      rw [hr]
      simpa using this
    · rw [if_neg e] at h'
      exact hw'.cell b k y h'
  · show (if b = g then f k else G.I b k) = none
    rw [if_neg (by omega)]
    exact (hw'.fresh b hb').1 k
  · show upd G.ow g none b = none
    unfold upd; rw [if_neg (by omega)]
    exact (hw'.fresh b hb').2
  · have h' : upd G.ow g none b = some (.box s) := hb'
    unfold upd at h'
    split at h'
    · cases h'
    · rename_i e
      show (if b = g then f k else G.I b k) = none
      rw [if_neg e]
      exact hw'.boxI b s h' k
  · have h1 := hw.bbow s b hb'
    have h2 := ow_lt hw h1
    show upd G.ow g none b = _
    unfold upd; rw [if_neg (by omega)]; exact h1
  · show upd G.ow g none b = none
    unfold upd; split
    · rfl
    · exact hn
theorem own_data (hw : WI G w) (hb : Below w.heap.size w w') {e : TypeId} {sz n : Nat} {v' : Value} {news : List Value} (hown : w'.ownsRow w.heap.size e sz v' n news) {c : List (List PV)} (hn : c.length = n) (hsz : ∀ el ∈ c, el.length = sz) (hv : All2 (RP G.I) c.flatten news) :
    ∃ G', Ext G w G' w' ∧ WI G' w' ∧ RP G'.I (.sl c) v' ∧ G'.bb = G.bb ∧ ∀ b, G.ow b = none → G'.ow b = none := by
  subst hn
  rcases hown.2 with ⟨rfl, h0⟩ | ⟨g, cap, cur, rfl, hg, hr, hcap, _, _, htake⟩
  · obtain ⟨gr, hw'⟩ := below_gr hw hb
    have : c = [] := List.eq_nil_of_length_eq_zero h0
    subst this
    exact ⟨G, gr.ext, hw', .sl0 _ _, rfl, fun _ h => h⟩
  · have hf : ∀ k y, news[k]? = some y → cur[k]? = some y := fun k y h => by
      rw [← htake, List.getElem?_take] at h
      split at h
      · rw [Array.getElem?_toList] at h; exact h
      · cases h
    obtain ⟨hx, hw'⟩ := row_gr hw hb (f := fun k => news[k]?) hg hr hf
    refine ⟨_, hx, hw', RP.of_seg hcap hsz (seg_of_vals hsz (ys := news) (fun k y h => ?_) (hv.imp fun p y _ h => h.mono hx.I)), rfl, fun b h => ?_⟩
    · show (if g = g then news[0 + k]? else _) = _
      rw [if_pos rfl, Nat.zero_add]; exact h
    · show upd G.ow g none b = none
      unfold upd; split
      · rfl
      · exact h
end
theorem clone_at {G : Gh} {w : World} {x : Value} {c : List (List PV)} (hw : WI G w) (hx : RP G.I (.sl c) x) (hsz : ∀ el ∈ c, el.length = 5) (hlen : c.length ≤ 1000000000) :
    Calls Tryz.prog 169 #[x] w fun e w' => ∃ v' G', e = .returned v' ∧ Ext G w G' w' ∧ WI G' w' ∧ RP G'.I (.sl c) v' ∧ G'.bb = G.bb ∧ ∀ b, G.ow b = none → G'.ow b = none := by
  obtain ⟨pa, cap, rfl, hcap, hne⟩ := hx.slice_inv
  cases pa with
  | none =>
    have hc : c = [] := by
      cases c with
      | nil => rfl
      | cons el c =>
        obtain ⟨b, o, sz, h, _⟩ := hne (by simp)
        cases h
    subst hc
    refine (clone_nil _ _ w).mono ?_
    rintro e w' ⟨rfl, rfl⟩
    exact ⟨_, G, rfl, .refl _ _, hw, .sl0 _ _, rfl, fun _ h => h⟩
  | some ad =>
    by_cases hc : c = []
    · subst hc
      refine (clone_some ad 0 cap w [] rfl (fun j u h => by simp at h) (fun u h => by cases h) (by omega)).mono ?_
      rintro e w' ⟨v', rfl, hown, hb⟩
      obtain ⟨G', h1, h2, h3, h4, h5⟩ := own_data hw hb hown (c := []) rfl (fun el h => by cases h) .nil
      exact ⟨_, G', rfl, h1, h2, h3, h4, h5⟩
    · obtain ⟨b, o, sz, e1, hsz', hseg⟩ := hne hc
      cases e1
      have e5 : sz = 5 := by
        cases c with
        | nil => exact absurd rfl hc
        | cons el c => rw [← hsz' el (by simp), hsz el (by simp)]
      subst e5
      obtain ⟨ys, hl, hI, hv⟩ := seg_vals (by decide) hsz hseg
      refine (clone_some ⟨b, o, none⟩ c.length cap w ys hl (fun j u h => ?_) (fun u hu => fields_one hv u hu) hlen).mono ?_
      · have := hw.cell _ _ _ (hI j u h)
        have e : (⟨b, o, none⟩ : Addr).add j = ⟨b, o + j, none⟩ := by simp only [Addr.add]; split <;> simp_all
        rw [e]; exact this
      · rintro e w' ⟨v', rfl, hown, hb⟩
        obtain ⟨G', h1, h2, h3, h4, h5⟩ := own_data hw hb hown rfl hsz hv
        exact ⟨_, G', rfl, h1, h2, h3, h4, h5⟩
def pClone : Prim
  | [.c (.pv (.sl c))], [] => if c.length ≤ 1000000000 ∧ c.all (fun el => el.length == 5) then some (.c (.pv (.sl c)), []) else none
  | [.c .nils], [] => some (.c (.pv (.sl [])), [])
  | _, _ => none
theorem pClone_ok {args : List AV} {bxs : List (List CV)} {x : AV × List (List CV)} (h : pClone args bxs = some x) : Contract Tryz.prog 169 args bxs (.ret x.1 x.2) := by
  unfold pClone at h
  split at h
  · rename_i c
    split at h
    case isFalse => cases h
    rename_i hc
    cases h
    intro G w cargs hw hargs _ _ _
    obtain ⟨x, rfl, hx⟩ := args_one hargs
    refine (clone_at hw hx (fun el hel => by simpa using List.all_eq_true.1 hc.2 el hel) hc.1).mono ?_
    rintro e w' ⟨v', G', rfl, h1, h2, h3, _, _⟩
    exact ⟨G', h1, h2, _, rfl, h3, rfl, fun i l h => by simp at h⟩
  · cases h
    intro G w cargs hw hargs _ _ _
    obtain ⟨x, rfl, hx⟩ := args_one hargs
    obtain rfl : x = .slice none 0 0 := hx
    refine (clone_nil 0 0 w).mono ?_
    rintro e w' ⟨rfl, rfl⟩
    exact ⟨G, .refl _ _, hw, _, rfl, .sl0 _ _, rfl, fun i l h => by simp at h⟩
  · cases h
end Go.Abs
namespace Go.Abs
open Go Go.Proofs Go.RowKit
set_option maxRecDepth 10000
def goodBS (P : Program) (f : Nat) : Bool :=
  match P.funcs[f]? with
  | some fn => fn.name != "runtime.NumGoroutine" && (match fn.body with | some c => codeOK (fun _ => false) c | none => false)
  | none => false
theorem goodsS_ok : SR.goodsS.all (goodBS Tryz.prog) = true := by kernel_rfl
theorem KS_prog : Prog SR.KS := by
  refine ⟨by kernel_rfl, fun g hg => ?_, fun f F args bxs x _ hF hx => (by cases hF), fun f F args bxs r call _ hF => by cases hF⟩
  have h1 : g ∈ SR.goodsS := by simpa [SR.KS] using hg
  have h2 := List.all_eq_true.1 goodsS_ok g h1
  unfold goodBS at h2
  split at h2
  · rename_i fn hfn
    simp only [Bool.and_eq_true] at h2
    obtain ⟨h3, h4⟩ := h2
    split at h4
    · rename_i c hc
      exact ⟨fn, c, hfn, by simpa using h3, hc, h4⟩
    · cases h4
  · cases h2
def Gn (I : Nat → Nat → Option Value) : Gh := ⟨I, fun _ => none, fun _ => none⟩
structure Kp (X : Nat → Prop) (I : Nat → Nat → Option Value) (W : World) (I' : Nat → Nat → Option Value) (W' : World) : Prop where
  mono : ∀ b o y, I b o = some y → I' b o = some y
  old : ∀ b, b < W.heap.size → ¬ X b → W'.heap[b]? = W.heap[b]? ∧ ∀ o, I' b o = I b o
  none : ∀ b, X b → b < W.heap.size → (∀ o, I b o = none) → ∀ o, I' b o = none
  size : W.heap.size ≤ W'.heap.size
  os : W'.os = W.os
  output : W'.output = W.output
  tape : W'.tape = W.tape
theorem Kp.of_ext {X : Nat → Prop} {I I' : Nat → Nat → Option Value} {W W' : World} (h : Ext (Gn I) W (Gn I') W') : Kp X I W I' W' :=
  ⟨h.I, fun b hb _ => ⟨(h.old b hb rfl).2.1, (h.old b hb rfl).2.2⟩, fun b _ hb hn o => ((h.old b hb rfl).2.2 o).trans (hn o), h.size, h.os, h.output, h.tape⟩
theorem Kp.trans {X : Nat → Prop} {I J K : Nat → Nat → Option Value} {A B C : World} (h : Kp X I A J B) (k : Kp X J B K C) : Kp X I A K C :=
  ⟨fun b o y e => k.mono _ _ _ (h.mono _ _ _ e), fun b hb hx => ⟨(k.old b (Nat.lt_of_lt_of_le hb h.size) hx).1.trans (h.old b hb hx).1, fun o => ((k.old b (Nat.lt_of_lt_of_le hb h.size) hx).2 o).trans ((h.old b hb hx).2 o)⟩,
    fun b hx hb hn => k.none b hx (Nat.lt_of_lt_of_le hb h.size) (h.none b hx hb hn), Nat.le_trans h.size k.size, k.os.trans h.os, k.output.trans h.output, k.tape.trans h.tape⟩
theorem wi_gn {G : Gh} {W : World} (hw : WI G W) : WI (Gn G.I) W :=
  ⟨hw.cell, fun b h => ⟨(hw.fresh b h).1, rfl⟩, (fun b s h => by cases h), (fun s b h => by cases h), hw.tab.map fun b _ _ => ⟨rfl, rfl⟩⟩
theorem clone_gn {I : Nat → Nat → Option Value} {W : World} {x : Value} {c : List (List PV)} (hw : WI (Gn I) W) (hx : RP I (.sl c) x) (hsz : ∀ el ∈ c, el.length = 5) (hlen : c.length ≤ 1000000000) :
    Calls Tryz.prog 169 #[x] W fun e W' => ∃ v' I', e = .returned v' ∧ Ext (Gn I) W (Gn I') W' ∧ WI (Gn I') W' ∧ RP I' (.sl c) v' := by
  refine (clone_at (G := Gn I) hw hx hsz hlen).mono ?_
  rintro e W' ⟨v', G', rfl, h1, h2, h3, h4, h5⟩
  refine ⟨v', G'.I, rfl, ⟨h1.I, fun b hb _ => ⟨rfl, (h1.old b hb rfl).2⟩, h1.size, h1.os, h1.output, h1.tape, fun _ _ => rfl⟩, wi_gn h2, h3⟩
theorem tabs_one : (tabs.all fun x => x.2.length != 1) = true := by kernel_rfl
inductive CutV (X : Nat → Prop) (I : Nat → Nat → Option Value) (W : World) : (Val → Bool) → Value → Prop
  | blank : CutV X I W SR.isBlank (.func (.func 170) #[] #[])
  | sign (d : List UInt8) (Bd : Nat) (ty : TypeId) (hX : X Bd) (hI : ∀ o, I Bd o = none) (hW : W.heap[Bd]? = some (.cells #[.string ⟨d.toArray⟩] ty (0, 0))) :
      CutV X I W (SR.isSign d) (.func (.func 102) #[] #[.pointer (some ⟨Bd, 0, none⟩)])
theorem CutV.kept {X : Nat → Prop} {I I' : Nat → Nat → Option Value} {W W' : World} {p : Val → Bool} {v : Value} (h : CutV X I W p v) (hI : ∀ b, X b → b < W.heap.size → (∀ o, I b o = none) → ∀ o, I' b o = none) (hW : ∀ b, X b → b < W.heap.size → W'.heap[b]? = W.heap[b]?) : CutV X I' W' p v := by
  cases h with
  | blank => exact .blank
  | sign d Bd ty hX hn hW0 =>
    have hlt := (Array.getElem?_eq_some_iff.1 hW0).1
    exact .sign d Bd ty hX (hI Bd hX hlt hn) ((hW Bd hX hlt).trans hW0)
def Gd (I : Nat → Nat → Option Value) (Bd : Nat) : Gh := ⟨I, upd (fun _ => none) LK (some Bd), upd (fun _ => none) Bd (some (.box LK))⟩
theorem gd_ow (I : Nat → Nat → Option Value) (Bd b : Nat) : (Gd I Bd).ow b = if b = Bd then some (Own.box LK) else none := rfl
theorem gd_bb (I : Nat → Nat → Option Value) (Bd s : Nat) : (Gd I Bd).bb s = if s = LK then some Bd else none := rfl
theorem wi_gd {I : Nat → Nat → Option Value} {W : World} (hw : WI (Gn I) W) {Bd : Nat} {s : ByteArray} {ty : TypeId} (hn : ∀ o, I Bd o = none) (hW : W.heap[Bd]? = some (.cells #[.string s] ty (0, 0))) : WI (Gd I Bd) W := by
  have hlt := (Array.getElem?_eq_some_iff.1 hW).1
  have how : ∀ b, b ≠ Bd → (Gd I Bd).ow b = none := fun b h => by rw [gd_ow, if_neg h]
  refine ⟨hw.cell, fun b h => ⟨(hw.fresh b h).1, how b (by omega)⟩, fun b s h o => ?_, fun s b h => ?_, ⟨fun x hx => ?_, fun b hb => ?_⟩⟩
  · rw [gd_ow] at h
    split at h
    · rename_i e; rw [e]; exact hn o
    · cases h
  · rw [gd_bb] at h
    split at h
    · rename_i e; cases h; subst e
      rw [gd_ow, if_pos rfl]
    · cases h
  · obtain ⟨_, ty', fz, h2⟩ := hw.tab.1 x hx
    refine ⟨how _ fun e => ?_, ty', fz, h2⟩
    rw [e, hW] at h2
    have h3 := List.all_eq_true.1 tabs_one x hx
    simp only [Option.some.injEq, Obj.cells.injEq] at h2
    have := congrArg Array.size h2.1
    simp at this
    simp [← this] at h3
  · obtain ⟨_, m, cs, ty', fz, h2, h3⟩ := hw.tab.2 b hb
    refine ⟨how _ fun e => ?_, m, cs, ty', fz, h2, h3⟩
    rw [e, hW] at h2
    simp only [Option.some.injEq, Obj.cells.injEq] at h2
    rw [← h2.1] at h3
    simp at h3
theorem index_gn {X : Nat → Prop} {I : Nat → Nat → Option Value} {W : World} {x fv : Value} {l : List Val} {p : Val → Bool} (hw : WI (Gn I) W) (hx : RP I (.sl (encL l)) x) (hl : l.length ≤ 1000000000) (hc : CutV X I W p fv) :
    Calls Tryz.prog 168 #[x, fv] W fun e W' => ∃ I', e = .returned (.int .i64 (SR.ixOf (l.findIdx? p))) ∧ Kp X I W I' W' ∧ WI (Gn I') W' ∧ CutV X I' W' p fv ∧ ∀ b, b < W.heap.size → fv ≠ .func (.func 102) #[] #[.pointer (some ⟨b, 0, none⟩)] → W'.heap[b]? = W.heap[b]? := by
  cases hc with
  | blank =>
    have hd := SR.IndexFunc_den .blank l hl
    refine (den_ok KS_prog SR.good_i hd (Gn I) W [x, .func (.func 170) #[] #[]] hw (.cons hx (.cons ⟨[], rfl, .nil⟩ .nil)) (fun v hv => ?_) (fun i l h => by simp at h) (fun s b h => by cases h)).mono ?_
    · simp only [List.mem_cons, List.not_mem_nil, or_false] at hv
      rcases hv with rfl | rfl <;> rfl
    · rintro e W' ⟨G', h1, h2, y, rfl, h3, _, _⟩
      have h3' : RP G'.I (.int .i64 (SR.ixOf (l.findIdx? SR.isBlank))) y := h3
      cases h3'
      have he : Ext (Gn I) W (Gn G'.I) W' := ⟨h1.I, fun b hb _ => ⟨rfl, (h1.old b hb rfl).2⟩, h1.size, h1.os, h1.output, h1.tape, fun _ _ => rfl⟩
      exact ⟨G'.I, rfl, Kp.of_ext he, wi_gn h2, .blank, fun b hb _ => (h1.old b hb rfl).2.1⟩
  | sign d Bd ty hX hn hW0 =>
    have hd := SR.IndexFunc_den (.sign d) l hl
    have hwd := wi_gd hw hn hW0
    have hlt := (Array.getElem?_eq_some_iff.1 hW0).1
    have hbk : (Gd I Bd).bb LK = some Bd := by rw [gd_bb, if_pos rfl]
    have how : ∀ b, b ≠ Bd → (Gd I Bd).ow b = none := fun b h => by rw [gd_ow, if_neg h]
    refine (den_ok KS_prog SR.good_i hd (Gd I Bd) W [x, .func (.func 102) #[] #[.pointer (some ⟨Bd, 0, none⟩)]] hwd (.cons hx (.cons ⟨[_], rfl, .cons ⟨Bd, hbk, rfl⟩ .nil⟩ .nil)) (fun v hv => ?_) (fun i l h => ?_) (fun s b h => ?_)).mono ?_
    · simp only [List.mem_cons, List.not_mem_nil, or_false] at hv
      rcases hv with rfl | rfl <;> rfl
    · cases i with
      | succ i => simp at h
      | zero =>
        simp only [List.getElem?_cons_zero, Option.some.injEq] at h
        subst h
        refine ⟨Bd, _, _, hbk, hW0, ⟨rfl, fun e => by simp at e⟩, fun k v hk => ?_⟩
        cases k with
        | succ k => simp at hk
        | zero =>
          simp only [List.getElem?_cons_zero, Option.some.injEq] at hk
          subst hk
          exact ⟨_, rfl, .str _⟩
    · rw [gd_bb] at h
      split at h
      · rename_i e; exact ⟨0, by simp, by omega⟩
      · cases h
    · rintro e W' ⟨G', h1, h2, y, rfl, h3, _, h4⟩
      have h3' : RP G'.I (.int .i64 (SR.ixOf (l.findIdx? (SR.isSign d)))) y := h3
      cases h3'
      obtain ⟨b, cs, ty', k1, k2, ⟨k3, _⟩, k4⟩ := h4 0 _ rfl
      have k1' : G'.bb LK = some b := k1
      rw [h1.lent LK (Nat.le_refl _), hbk] at k1'
      cases k1'
      obtain ⟨z, k5, k6⟩ := k4 0 _ rfl
      have k6' : RP G'.I (.str d) z := k6
      cases k6'
      have hcs : cs = #[.string ⟨d.toArray⟩] := by
        have e1 : cs.size = 1 := k3
        apply Array.ext
        · rw [e1]; rfl
        · intro i hi1 hi2
          have : i = 0 := by omega
          subst this
          rw [Array.getElem?_eq_getElem hi1] at k5
          simpa using k5
      have hn' : ∀ o, G'.I Bd o = none := h2.boxI Bd LK (h2.bbow LK Bd k1)
      refine ⟨G'.I, rfl, ⟨h1.I, fun b hb hx => (h1.old b hb (how b fun e => hx (e ▸ hX))).2, fun b hx hb hnb o => ?_, h1.size, h1.os, h1.output, h1.tape⟩, wi_gn h2, .sign d Bd ty' hX hn' (by rw [k2, hcs]), fun b hb hne => (h1.old b hb (how b fun e => hne (by rw [e]))).2.1⟩
      by_cases e : b = Bd
      · rw [e]; exact hn' o
      · exact ((h1.old b hb (how b e)).2.2 o).trans (hnb o)
theorem sl_take {I : Nat → Nat → Option Value} {W : World} {x : Value} {c : List (List PV)} (hx : RP I (.sl c) x) (hsz : ∀ el ∈ c, el.length = 5) (j : Nat) (hj : j ≤ c.length) (hl : c.length ≤ 1000000000) :
    ∃ z, (Instr.sliceAt 22 x none (some (.int .i64 j)) none).run Tryz.prog W = .ok z W ∧ RP I (.sl (c.take j)) z := by
  have h : absSlice Tryz.prog 22 (.c (.pv (.sl c))) none (some (.c (.pv (.int .i64 j)))) none = some (.c (.pv (.sl (c.take j)))) := by
    have hs : szOf Tryz.prog 49 = some 5 := by kernel_rfl
    have hall : (c.all fun el => el.length == 5) = true := List.all_eq_true.2 fun el hel => by simp [hsz el hel]
    unfold absSlice
    rw [Tryz.underlying22]
    simp [content, bound, hs, hall, hj]
  obtain ⟨z, h1, q, e, h2⟩ := slice_ok (G := Gn I) (w := W) (ℓ := .ret) (lo' := none) (hi' := some (.int .i64 j)) (mx' := none) h hx trivial ⟨.ret, .int _ _⟩ trivial
  cases e
  exact ⟨z, h1, h2⟩
theorem sl_drop {I : Nat → Nat → Option Value} {W : World} {x : Value} {c : List (List PV)} (hx : RP I (.sl c) x) (hsz : ∀ el ∈ c, el.length = 5) (j : Nat) (hj : j ≤ c.length) (hl : c.length ≤ 1000000000) :
    ∃ z, (Instr.sliceAt 22 x (some (.int .i64 j)) none none).run Tryz.prog W = .ok z W ∧ RP I (.sl (c.drop j)) z := by
  have h : absSlice Tryz.prog 22 (.c (.pv (.sl c))) (some (.c (.pv (.int .i64 j)))) none none = some (.c (.pv (.sl (c.drop j)))) := by
    have hs : szOf Tryz.prog 49 = some 5 := by kernel_rfl
    have hall : (c.all fun el => el.length == 5) = true := List.all_eq_true.2 fun el hel => by simp [hsz el hel]
    unfold absSlice
    rw [Tryz.underlying22]
    simp [content, bound, hs, hall, hj]
  obtain ⟨z, h1, q, e, h2⟩ := slice_ok (G := Gn I) (w := W) (ℓ := .ret) (lo' := some (.int .i64 j)) (hi' := none) (mx' := none) h hx ⟨.ret, .int _ _⟩ trivial trivial
  cases e
  exact ⟨z, h1, h2⟩
def cutL (p : Val → Bool) : List Val → List (List Val)
  | [] => [[]]
  | v :: l => if p v then [] :: cutL p l else match cutL p l with
    | [] => [[v]]
    | q :: qs => (v :: q) :: qs
theorem cutL_ne (p : Val → Bool) (l : List Val) : ∃ q qs, cutL p l = q :: qs := by
  cases l with
  | nil => exact ⟨_, _, rfl⟩
  | cons v l =>
    rw [cutL]
    split
    · exact ⟨_, _, rfl⟩
    · split
      · exact ⟨_, _, rfl⟩
      · exact ⟨_, _, rfl⟩
theorem cutL_none {p : Val → Bool} : ∀ {l : List Val}, l.findIdx? p = none → cutL p l = [l]
  | [], _ => rfl
  | v :: l, h => by
    rw [List.findIdx?_cons] at h
    split at h
    · cases h
    · rename_i hv
      rw [Option.map_eq_none_iff] at h
      rw [cutL, if_neg hv, cutL_none h]
theorem cutL_some {p : Val → Bool} : ∀ {l : List Val} {j : Nat}, l.findIdx? p = some j → j < l.length ∧ cutL p l = l.take j :: cutL p (l.drop (j + 1))
  | [], j, h => by simp at h
  | v :: l, j, h => by
    rw [List.findIdx?_cons] at h
    split at h
    · rename_i hv
      cases h
      exact ⟨by simp, by rw [cutL, if_pos hv]; simp⟩
    · rename_i hv
      rw [Option.map_eq_some_iff] at h
      obtain ⟨i, hi, rfl⟩ := h
      obtain ⟨h1, h2⟩ := cutL_some hi
      refine ⟨by rw [List.length_cons]; omega, ?_⟩
      rw [cutL, if_neg hv, h2]
      simp
end Go.Abs
namespace Go.Abs
open Go Go.Proofs Go.RowKit Go.Shelf
attribute [local go_sem] Oper.semAt_some
def leftAt (Bl : Nat) (w : World) : Nat := match w.cell? ⟨Bl, 0, none⟩ with | some (.slice _ n _) => n | _ => 0
theorem encL5 (l : List Val) : ∀ el ∈ encL l, el.length = 5 := fun el h => by
  rw [encL_map] at h
  obtain ⟨v, _, rfl⟩ := List.mem_map.1 h
  exact enc_len v
theorem encL_take (l : List Val) (j : Nat) : (encL l).take j = encL (l.take j) := by rw [encL_map, encL_map, List.map_take]
theorem encL_drop (l : List Val) (j : Nat) : (encL l).drop j = encL (l.drop j) := by rw [encL_map, encL_map, List.map_drop]
theorem heap_set_ne (W : World) (Bl : Nat) (v : Value) {b : Nat} (h : b ≠ Bl) : (W.setCell ⟨Bl, 0, none⟩ v).heap[b]? = W.heap[b]? := Below.heap_setCell W ⟨Bl, 0, none⟩ v b h
theorem wi_set {I : Nat → Nat → Option Value} {W : World} (hw : WI (Gn I) W) {Bl : Nat} {ty : TypeId} {a : Option Addr} {n c : Nat} (hn : ∀ o, I Bl o = none) (hW : W.heap[Bl]? = some (.cells #[.slice a n c] ty (0, 0))) (v : Value) : WI (Gn I) (W.setCell ⟨Bl, 0, none⟩ v) := by
  have hsz : (W.setCell ⟨Bl, 0, none⟩ v).heap.size = W.heap.size := by simp [World.setCell]
  refine ⟨fun b o y h => ?_, fun b h => hw.fresh b (by rw [hsz] at h; exact h), (fun b s h => by cases h), (fun s b h => by cases h), ⟨fun x hx => ?_, fun b hb => ?_⟩⟩
  · have hne : b ≠ Bl := fun e => by
      have h' : I b o = some y := h
      rw [e, hn o] at h'; cases h'
    have := hw.cell b o y h
    unfold World.cell? at this ⊢
    rw [heap_set_ne W Bl v hne]; exact this
  · obtain ⟨h1, ty', fz, h2⟩ := hw.tab.1 x hx
    refine ⟨h1, ty', fz, (heap_set_ne W Bl v fun e => ?_).trans h2⟩
    rw [e, hW] at h2
    have h3 := List.all_eq_true.1 tabs_one x hx
    simp only [Option.some.injEq, Obj.cells.injEq] at h2
    have := congrArg Array.size h2.1
    simp at this
    simp [← this] at h3
  · obtain ⟨h1, m, cs, ty', fz, h2, h3⟩ := hw.tab.2 b hb
    refine ⟨h1, m, cs, ty', fz, (heap_set_ne W Bl v fun e => ?_).trans h2, h3⟩
    rw [e, hW] at h2
    simp only [Option.some.injEq, Obj.cells.injEq] at h2
    rw [← h2.1] at h3
    simp at h3
theorem kp_set (X : Nat → Prop) (I : Nat → Nat → Option Value) (W : World) {Bl : Nat} (hX : X Bl) (v : Value) : Kp X I W I (W.setCell ⟨Bl, 0, none⟩ v) :=
  ⟨fun _ _ _ h => h, fun b _ hx => ⟨heap_set_ne W Bl v fun e => hx (e ▸ hX), fun _ => rfl⟩, fun _ _ _ h => h, by simp [World.setCell], rfl, rfl, rfl⟩
set_option maxRecDepth 100000 in
set_option maxHeartbeats 8000000 in
theorem parts1_in (l Bl Bc : Nat) (X : Nat → Prop) (fv : Value) (p : Val → Bool) (tc : TypeId) (hXl : X Bl) (hXc : X Bc) (hfl : fv ≠ .func (.func 102) #[] #[.pointer (some ⟨Bl, 0, none⟩)]) (hfc : fv ≠ .func (.func 102) #[] #[.pointer (some ⟨Bc, 0, none⟩)])
    (hlc : Bl ≠ Bc) (J : (Nat → Nat → Option Value) → List (List Val) → World → Prop)
    (hJw : ∀ {I s A}, J I s A → WI (Gn I) A ∧ ∀ b, X b → ∀ o, I b o = none)
    (hJk : ∀ {I s A I' B}, J I s A → Kp X I A I' B → WI (Gn I') B → J I' s B)
    (I0 : Nat → Nat → Option Value) (s0 : List (List Val)) (W : World) (h0 : J I0 s0 W) (hc : CutV X I0 W p fv) (xl : Value) (ty : TypeId) (vs : List Val) (hvs : vs.length ≤ 1000000000)
    (hY : ∀ {I s A v x}, J I s A → RP I (.sl (encL x)) v → s.length < (s0 ++ cutL p vs).length → YieldAt Fence.wide 0 Tryz.prog l #[v] A fun e B => e = .returned (.bool true) ∧ (∀ b, X b → B.heap[b]? = A.heap[b]?) ∧ ∃ I', (∀ b o y, I b o = some y → I' b o = some y) ∧ J I' (s ++ [x]) B)
    (hBl : W.heap[Bl]? = some (.cells #[xl] ty (0, 0))) (hxl : RP I0 (.sl (encL vs)) xl) (hBc : W.heap[Bc]? = some (.cells #[fv] tc (0, 0))) :
    CallsIn Fence.wide 1 Tryz.prog 167 #[.func (.yield l) #[] #[], .pointer (some ⟨Bl, 0, none⟩), .pointer (some ⟨Bc, 0, none⟩)] W fun e W' => (∃ v, e = .returned v) ∧ ∃ I', J I' (s0 ++ cutL p vs) W' := by
  refine callsIn_of_wp Tryz.func167 rfl trivial ?_ rfl
  simp only [Tryz.ntmps167, List.size_toArray, List.length_cons, List.length_nil, Nat.reduceAdd, Nat.reduceSub, Array.replicate_succ, Array.replicate_zero, List.push_toArray, List.append_toArray, List.nil_append, List.cons_append]
  gi_wp2
  gi_loopw [] (fun wr => ∃ (I : Nat → Nat → Option Value) (s : List (List Val)) (rest : List Val) (x : Value), J I s wr ∧ s ++ cutL p rest = s0 ++ cutL p vs ∧ rest.length ≤ 1000000000 ∧ CutV X I wr p fv ∧
      wr.heap[Bl]? = some (.cells #[x] ty (0, 0)) ∧ RP I (.sl (encL rest)) x ∧ wr.heap[Bc]? = some (.cells #[fv] tc (0, 0)))
    (fun wr => leftAt Bl wr)
  case atStart =>
    exact ⟨I0, s0, vs, xl, h0, rfl, hvs, hc, hBl, hxl, hBc⟩
  case round =>
    obtain ⟨I, s, rest, x, hJ, hs, hrl, hcv, hl1, hx, hb1⟩ := hrel
    obtain ⟨hw, hXn⟩ := hJw hJ
    have hslt : s.length < (s0 ++ cutL p vs).length := by
      rw [← hs, List.length_append]
      obtain ⟨q, qs, eq⟩ := cutL_ne p rest
      rw [eq, List.length_cons]; omega
    have hltl := (Array.getElem?_eq_some_iff.1 hl1).1
    have hltc := (Array.getElem?_eq_some_iff.1 hb1).1
    have c1 : wr.cell? ⟨Bl, 0, none⟩ = some x := Boxed.cell hl1
    have c2 : wr.cell? ⟨Bc, 0, none⟩ = some fv := Boxed.cell hb1
    have hi := index_gn hw hx hrl hcv
    cases hf : rest.findIdx? p with
    | none =>
      rw [hf] at hi
      have hi' : Calls Tryz.prog 168 #[x, fv] wr fun e W' => ∃ I', e = .returned (.int .i64 (-1)) ∧ Kp X I wr I' W' ∧ WI (Gn I') W' ∧ CutV X I' W' p fv ∧ ∀ b, b < wr.heap.size → fv ≠ .func (.func 102) #[] #[.pointer (some ⟨b, 0, none⟩)] → W'.heap[b]? = wr.heap[b]? := hi
      gi_wp2_with (refine ⟨trivial, ?_⟩; gi_at_call 168; refine (callsIn_wide.2 hi').mono ?_)
      rintro e W1 ⟨I1, rfl, hk1, hw1, hcv1, hh1⟩
      have hl2 : Boxed W1 Bl ty x := (hh1 Bl hltl hfl).trans hl1
      have d1 := hl2.cell
      have hx1 : RP I1 (.sl (encL rest)) x := hx.mono hk1.mono
      have hcl := clone_gn hw1 hx1 (encL5 rest) (by rw [encL_len]; exact hrl)
      gi_wp2_with (refine ⟨trivial, ?_⟩; gi_at_call 169; refine (callsIn_wide.2 hcl).mono ?_)
      rintro e W2 ⟨v', I2, rfl, he2, hw2, hv2⟩
      have hJ2 : J I2 s W2 := hJk (hJk hJ hk1 hw1) (Kp.of_ext he2) hw2
      obtain ⟨fn, tmps, assign, body, hy, hR⟩ := hY hJ2 hv2 hslt
      gi_wp2
      refine hR.mono ?_
      rintro e W3 ⟨rfl, hXb, I3, hm3, hJ3⟩
      gi_wp2
      refine bodyPost_ret (results_none rfl _ _ _) rfl ?_
      refine ⟨⟨_, rfl⟩, I3, ?_⟩
      rw [← hs, cutL_none hf]
      exact hJ3
    | some j =>
      obtain ⟨hj, hcut⟩ := cutL_some hf
      rw [hf] at hi
      have hi' : Calls Tryz.prog 168 #[x, fv] wr fun e W' => ∃ I', e = .returned (.int .i64 (j : Int)) ∧ Kp X I wr I' W' ∧ WI (Gn I') W' ∧ CutV X I' W' p fv ∧ ∀ b, b < wr.heap.size → fv ≠ .func (.func 102) #[] #[.pointer (some ⟨b, 0, none⟩)] → W'.heap[b]? = wr.heap[b]? := hi
      have hneg : ¬ ((j : Int) < 0) := by omega
      have hneg' : decide ((j : Int) < 0) = false := decide_eq_false hneg
      gi_wp2_with (refine ⟨trivial, ?_⟩; gi_at_call 168; refine (callsIn_wide.2 hi').mono ?_)
      rintro e W1 rfl I1 hk1 hw1 hcv1 hh1
      have hl2 : Boxed W1 Bl ty x := (hh1 Bl hltl hfl).trans hl1
      have hb2 : Boxed W1 Bc tc fv := (hh1 Bc hltc hfc).trans hb1
      have d1 := hl2.cell
      have hx1 : RP I1 (.sl (encL rest)) x := hx.mono hk1.mono
      obtain ⟨z, hz, hzr⟩ := sl_take (W := W1) hx1 (encL5 rest) j (by rw [encL_len]; omega) (by rw [encL_len]; exact hrl)
      rw [encL_take] at hzr
      have hcl := clone_gn hw1 hzr (encL5 _) (by rw [encL_len, List.length_take]; omega)
      gi_wp2_with (refine ⟨trivial, ?_⟩; gi_at_call 169; refine (callsIn_wide.2 hcl).mono ?_)
      rintro e W2 ⟨v', I2, rfl, he2, hw2, hv2⟩
      have hJ2 : J I2 s W2 := hJk (hJk hJ hk1 hw1) (Kp.of_ext he2) hw2
      obtain ⟨fn, tmps, assign, body, hy, hR⟩ := hY hJ2 hv2 hslt
      have hlt1 := (Array.getElem?_eq_some_iff.1 hl2).1
      have hlt2 := (Array.getElem?_eq_some_iff.1 hb2).1
      have hcv2 : CutV X I2 W2 p fv := hcv1.kept (fun b hx hb hn o => ((he2.old b hb rfl).2.2 o).trans (hn o)) (fun b _ hb => (he2.old b hb rfl).2.1)
      gi_wp2
      refine hR.mono ?_
      rintro e W3 ⟨rfl, hXb, I3, hm3, hJ3⟩
      have hl3 : Boxed W3 Bl ty x := (hXb Bl hXl).trans ((he2.old Bl hlt1 rfl).2.1.trans hl2)
      have hb3 : Boxed W3 Bc tc fv := (hXb Bc hXc).trans ((he2.old Bc hlt2 rfl).2.1.trans hb2)
      obtain ⟨hw3, hXn3⟩ := hJw hJ3
      have hcv3 : CutV X I3 W3 p fv := hcv2.kept (fun b hx _ _ => hXn3 b hx) (fun b hx _ => hXb b hx)
      have hx3 : RP I3 (.sl (encL rest)) x := (hx1.mono he2.I).mono hm3
      obtain ⟨z2, hz2, hzr2⟩ := sl_drop (W := W3) hx3 (encL5 rest) (j + 1) (by rw [encL_len]; omega) (by rw [encL_len]; exact hrl)
      rw [encL_drop] at hzr2
      have hcast : ((j + 1 : Nat) : Int) = (j : Int) + 1 := by omega
      rw [hcast] at hz2
      have d3 := hl3.cell
      have f3 := hl3.frozen
      have hwj : IntKind.i64.wrap ((j : Int) + 1) = (j : Int) + 1 := IntWalk.i64_in _ (by omega)
      obtain ⟨xa, xc, rfl, _, _⟩ := hx3.slice_inv
      obtain ⟨za, zc, ez, _, _⟩ := hzr2.slice_inv
      rw [ez] at hz2
      gi_wp2
      rw [← ez]
      have hl4 : Boxed (W3.setCell ⟨Bl, 0, none⟩ z2) Bl ty z2 := hl3.set z2
      have hb4 : Boxed (W3.setCell ⟨Bl, 0, none⟩ z2) Bc tc fv := (heap_set_ne W3 Bl z2 (Ne.symm hlc)).trans hb3
      have hw4 := wi_set hw3 (hXn3 Bl hXl) hl3 z2
      have hJ4 : J I3 (s ++ [rest.take j]) (W3.setCell ⟨Bl, 0, none⟩ z2) := hJk hJ3 (kp_set X I3 W3 hXl z2) hw4
      have hcv4 : CutV X I3 (W3.setCell ⟨Bl, 0, none⟩ z2) p fv := by
        cases hcv3 with
        | blank => exact .blank
        | sign d Bd tyd hX hn hWd =>
          exact .sign d Bd tyd hX hn ((heap_set_ne W3 Bl z2 fun e => hfl (by rw [e])).trans hWd)
      go_roundw
      case rel => exact ⟨I3, s ++ [rest.take j], rest.drop (j + 1), z2, hJ4, by rw [List.append_assoc, List.singleton_append, ← hcut, hs], by rw [List.length_drop]; omega, hcv4, hl4, hzr2, hb4⟩
      case measure =>
        have m1 : leftAt Bl (W3.setCell ⟨Bl, 0, none⟩ z2) = (encL (rest.drop (j + 1))).length := by unfold leftAt; rw [hl4.cell, ez]
        have m2 : leftAt Bl wr = (encL rest).length := by unfold leftAt; rw [c1]
        rw [m1, m2, encL_len, encL_len, List.length_drop]
        omega
end Go.Abs
namespace Go.Abs
open Go Go.Proofs Go.RowKit Go.Shelf
theorem Below.of_grown {B : Nat} {w a b : World} {row : Option Nat} (h : Below B w a) (g : a.grownBy b row) (hB : B ≤ a.heap.size) (hr : ∀ k, row = some k → B ≤ k) : Below B w b :=
  ⟨g.os.trans h.os, g.tape.trans h.tape, g.output.trans h.output, Nat.le_trans h.size g.size, fun k hk => (g.block k (by omega) fun e => by have := hr k e.symm; omega).trans (h.block k hk)⟩
structure ColAt (W0 : World) (I0 : Nat → Nat → Option Value) (X : Nat → Prop) (rec : Loop) (Bs l D base : Nat) (f : List (List Val) → List (List Val)) (I : Nat → Nat → Option Value) (ss : List (List Val)) (A : World) : Prop where
  wi : WI (Gn I) A
  hX : ∀ b, X b → b < A.heap.size ∧ ∀ o, I b o = none
  raw : (∀ o, I Bs o = none) ∧ (∀ o, I l o = none) ∧ ∀ o, I D o = none
  box : ∃ v vs, Boxed A Bs 41 v ∧ A.ownsRow base 22 1 v vs.length vs ∧ All2 (RP I) ((f ss).map fun x => PV.sl (encL x)) vs ∧ ∀ g, v.ownBlock = some g → ∀ o, I g o = none
  L : A.heap[l]? = some (.loop rec)
  K : A.heap[D]? = some (.deferred (some []))
  below : Below W0.heap.size W0 A
  old : ∀ b, b < W0.heap.size → ∀ o, I b o = I0 b o
structure ColIx (W0 : World) (X : Nat → Prop) (Bs l D base : Nat) : Prop where
  h1 : Bs ≠ l
  h2 : D ≠ l
  h3 : D ≠ Bs
  x1 : ¬ X Bs
  x2 : ¬ X l
  x3 : ¬ X D
  x4 : ∀ b, X b → W0.heap.size ≤ b ∧ b < base
  n1 : W0.heap.size ≤ Bs
  n2 : W0.heap.size ≤ l
  n3 : W0.heap.size ≤ D
  n4 : W0.heap.size ≤ base
  n5 : base ≤ l
section
variable {W0 : World} {I0 : Nat → Nat → Option Value} {X : Nat → Prop} {rec : Loop} {Bs l D base : Nat} {f : List (List Val) → List (List Val)} {I : Nat → Nat → Option Value} {ss : List (List Val)} {A B : World}
theorem ColAt.keep {I' : Nat → Nat → Option Value} (hx : ColIx W0 X Bs l D base) (h : ColAt W0 I0 X rec Bs l D base f I ss A) (k : Kp X I A I' B) (hw : WI (Gn I') B) : ColAt W0 I0 X rec Bs l D base f I' ss B := by
  obtain ⟨v, vs, hb, hr, hv, hg⟩ := h.box
  have ltB := hb.lt
  have ltL := (Array.getElem?_eq_some_iff.1 h.L).1
  have ltD := (Array.getElem?_eq_some_iff.1 h.K).1
  refine ⟨hw, fun b hb' => ⟨Nat.lt_of_lt_of_le (h.hX b hb').1 k.size, k.none b hb' (h.hX b hb').1 (h.hX b hb').2⟩,
    ⟨fun o => ((k.old Bs ltB hx.x1).2 o).trans (h.raw.1 o), fun o => ((k.old l ltL hx.x2).2 o).trans (h.raw.2.1 o), fun o => ((k.old D ltD hx.x3).2 o).trans (h.raw.2.2 o)⟩,
    ⟨v, vs, (k.old Bs ltB hx.x1).1.trans hb, ?_, hv.imp fun p y _ e => e.mono k.mono, fun g hgo o => ?_⟩, (k.old l ltL hx.x2).1.trans h.L, (k.old D ltD hx.x3).1.trans h.K,
    ⟨k.os.trans h.below.os, k.tape.trans h.below.tape, k.output.trans h.below.output, Nat.le_trans h.below.size k.size, fun b hb' => ?_⟩, fun b hb' o => ?_⟩
  · refine ⟨hr.1, ?_⟩
    rcases hr.2 with h0 | ⟨g, cap, cur, e1, e2, e3, e4⟩
    · exact .inl h0
    · refine .inr ⟨g, cap, cur, e1, e2, (k.old g (Array.getElem?_eq_some_iff.1 e3).1 fun hXg => ?_).1.trans e3, e4⟩
      have := (hx.x4 g hXg).2
      omega
  · rcases hr.2 with ⟨e, _⟩ | ⟨g', cap, cur, e1, e2, e3, e4⟩
    · rw [e] at hgo; cases hgo
    · rw [e1] at hgo
      cases hgo
      refine ((k.old g' (Array.getElem?_eq_some_iff.1 e3).1 fun hXg => ?_).2 o).trans (hg g' (by rw [e1]; rfl) o)
      have := (hx.x4 g' hXg).2
      omega
  · have hlt : b < A.heap.size := Nat.lt_of_lt_of_le hb' h.below.size
    exact (k.old b hlt fun hXb => by have := (hx.x4 b hXb).1; omega).1.trans (h.below.block b hb')
  · have hlt : b < A.heap.size := Nat.lt_of_lt_of_le hb' h.below.size
    exact ((k.old b hlt fun hXb => by have := (hx.x4 b hXb).1; omega).2 o).trans (h.old b hb' o)
theorem wi_turn (h : WI (Gn I) A) (hb0 : Below W0.heap.size W0 A) (hb : Below W0.heap.size W0 B) (ht : TabOK (Gn I) W0) (hs : A.heap.size ≤ B.heap.size) (hk : ∀ b, b < A.heap.size → (∃ o y, I b o = some y) → B.heap[b]? = A.heap[b]?) : WI (Gn I) B := by
  refine ⟨fun b o y e => ?_, fun b e => h.fresh b (by omega), (fun b s e => by cases e), (fun s b e => by cases e), ht.map fun b hlt _ => ⟨rfl, hb.block b hlt⟩⟩
  have hlt := I_lt h e
  have := h.cell b o y e
  unfold World.cell? at this ⊢
  rw [hk b hlt ⟨o, y, e⟩]
  exact this
theorem col_more (hx : ColIx W0 X Bs l D base) (ht : TabOK (Gn I) W0) (h : ColAt W0 I0 X rec Bs l D base f I ss A) {x : List Val} {xv v v' : Value} {vs : List Value} {rb : Loop} {w3 : World}
    (hb : Boxed A Bs 41 v) (hrow : A.ownsRow base 22 1 v vs.length vs) (hvs : All2 (RP I) ((f ss).map fun x => PV.sl (encL x)) vs) (hg : ∀ g, v.ownBlock = some g → ∀ o, I g o = none)
    (hxv : RP I (.sl (encL x)) xv) (hf : f (ss ++ [x]) = f ss ++ [x])
    (hown' : w3.ownsRow base 22 1 v' (vs.length + 1) (vs ++ [xv])) (hg3 : ((A.putObj l (.loop rb)).alloc (.cells #[xv] 22)).grownBy w3 v.ownBlock)
    (hat : v'.ownBlock = v.ownBlock ∨ v'.ownBlock = some ((A.putObj l (.loop rb)).alloc (.cells #[xv] 22)).heap.size) :
    Boxed w3 Bs 41 v ∧ (w3.setCell ⟨Bs, 0, none⟩ v').heap[l]? = some (.loop rb) ∧ (∀ b, X b → ((w3.setCell ⟨Bs, 0, none⟩ v').putObj l (.loop rec)).heap[b]? = A.heap[b]?) ∧
      ColAt W0 I0 X rec Bs l D base f I (ss ++ [x]) ((w3.setCell ⟨Bs, 0, none⟩ v').putObj l (.loop rec)) := by
  have ltB := hb.lt
  have ltL := (Array.getElem?_eq_some_iff.1 h.L).1
  have ltD := (Array.getElem?_eq_some_iff.1 h.K).1
  obtain ⟨M, hM⟩ : ∃ M, (A.putObj l (.loop rb)).alloc (.cells #[xv] 22) = M := ⟨_, rfl⟩
  rw [hM] at hg3 hat
  have hMs : M.heap.size = A.heap.size + 1 := by rw [← hM]; simp
  have hMb : ∀ b, b < A.heap.size → b ≠ l → M.heap[b]? = A.heap[b]? := fun b hb' hne => by
    rw [← hM]; exact (Below.heap_alloc _ _ b (by simp; exact hb')).trans (World.putObj_heap_other hne)
  have hMl : M.heap[l]? = some (.loop rb) := by
    rw [← hM]; exact (Below.heap_alloc _ _ l (by simp; exact ltL)).trans (World.putObj_heap_same ltL)
  have hbd : Below W0.heap.size W0 M := by
    rw [← hM]
    exact (Below.of_grown h.below (grownBy_putObj' A l _) h.below.size fun k e => by cases e; exact hx.n2).alloc (by simp; exact h.below.size) _
  have hrowM : M.ownsRow base 22 1 v vs.length vs := by
    rw [← hM]
    exact (ownsRow_putObj hrow _ h.L rfl).alloc _
  have ne_v : ∀ {j : Nat} {o : Obj}, M.heap[j]? = some o → (∀ cur, o ≠ .cells cur 22 (0, 0)) → some j ≠ v.ownBlock := fun {j o} hj hno e => by
    rcases hrowM.2 with ⟨e1, _⟩ | ⟨g, cap, cur, e1, _, e3, _⟩
    · rw [e1] at e; cases e
    · rw [e1] at e
      have : j = g := by simpa [Value.ownBlock] using e
      subst this
      rw [hj] at e3
      cases e3
      exact hno _ rfl
  have tne : 41 ≠ 22 := by decide
  have hbM : Boxed M Bs 41 v := (hMb Bs ltB hx.h1).trans hb
  have hKM : M.heap[D]? = some (.deferred (some [])) := (hMb D ltD hx.h2).trans h.K
  have nB : some Bs ≠ v.ownBlock := ne_v hbM (fun cur e => by cases e)
  have nL : some l ≠ v.ownBlock := ne_v hMl (fun cur e => by cases e)
  have nD : some D ≠ v.ownBlock := ne_v hKM (fun cur e => by cases e)
  have hb3 : Boxed w3 Bs 41 v := (hg3.block Bs (by omega) nB).trans hbM
  have hl3 : w3.heap[l]? = some (.loop rb) := (hg3.block l (by omega) nL).trans hMl
  have hK3 : w3.heap[D]? = some (.deferred (some [])) := (hg3.block D (by omega) nD).trans hKM
  have hbd3 : Below W0.heap.size W0 w3 := Below.of_grown hbd hg3 hbd.size fun k e => by
    have := (hrowM.lt k e).1
    have := hx.n4
    omega
  obtain ⟨w4, hw4⟩ : ∃ w4, w3.setCell ⟨Bs, 0, none⟩ v' = w4 := ⟨_, rfl⟩
  have hg4 : w3.grownBy w4 (some Bs) := by rw [← hw4]; exact grownBy_setCell' _ _ _
  have hs4 : w4.heap.size = w3.heap.size := by rw [← hw4]; simp [World.setCell]
  have hb4 : Boxed w4 Bs 41 v' := by rw [← hw4]; exact hb3.set v'
  have hl4 : w4.heap[l]? = some (.loop rb) := (hg4.block l (by have := hg3.size; omega) (fun e => hx.h1 (by cases e; rfl))).trans hl3
  have hK4 : w4.heap[D]? = some (.deferred (some [])) := (hg4.block D (by have := hg3.size; omega) (fun e => hx.h3 (by cases e; rfl))).trans hK3
  have hbd4 : Below W0.heap.size W0 w4 := Below.of_grown hbd3 hg4 hbd3.size fun k e => by cases e; exact hx.n1
  have hbd5 : Below W0.heap.size W0 (w4.putObj l (.loop rec)) := Below.of_grown hbd4 (grownBy_putObj' w4 l _) hbd4.size fun k e => by cases e; exact hx.n2
  have ltl4 : l < w4.heap.size := (Array.getElem?_eq_some_iff.1 hl4).1
  have hrow4 : w4.ownsRow base 22 1 v' (vs.length + 1) (vs ++ [xv]) := hown'.kept hg4 (.inr fun e => by
    rcases hown'.2 with ⟨e1, _⟩ | ⟨g, cap, cur, e1, _, e3, _⟩
    · rw [e1] at e; cases e
    · rw [e1] at e
      have : g = Bs := by simpa [Value.ownBlock] using e
      subst this
      rw [show w3.heap[g]? = _ from hb3] at e3
      simp only [Option.some.injEq, Obj.cells.injEq] at e3
      exact tne e3.2.1)
  have hsame : ∀ b, b < A.heap.size → b ≠ l → b ≠ Bs → some b ≠ v.ownBlock → (w4.putObj l (.loop rec)).heap[b]? = A.heap[b]? := fun b hlt n1 n2 n3 =>
    (World.putObj_heap_other n1).trans ((hg4.block b (by have := hg3.size; omega) (fun e => n2 (by cases e; rfl))).trans ((hg3.block b (by omega) n3).trans (hMb b hlt n1)))
  rw [hw4]
  refine ⟨hb3, hl4, fun b hb' => ?_, ?_⟩
  · refine hsame b (h.hX b hb').1 (fun e => hx.x2 (e ▸ hb')) (fun e => hx.x1 (e ▸ hb')) fun e => ?_
    have := (hrow.lt b e.symm).1
    have := (hx.x4 b hb').2
    omega
  · refine ⟨wi_turn h.wi h.below hbd5 ht (by simp; have := hg3.size; omega) fun b hlt ⟨o, y, e⟩ => hsame b hlt (fun e' => ?_) (fun e' => ?_) (fun e' => ?_),
      fun b hb' => ⟨by simp; have := (h.hX b hb').1; have := hg3.size; omega, (h.hX b hb').2⟩, h.raw, ⟨v', vs ++ [xv], (World.putObj_heap_other hx.h1).trans hb4, ?_, ?_, fun g e o => ?_⟩, World.putObj_heap_same ltl4, (World.putObj_heap_other hx.h2).trans hK4, hbd5, h.old⟩
    · rw [e', h.raw.2.1] at e; cases e
    · rw [e', h.raw.1] at e; cases e
    · rw [hg b e'.symm] at e; cases e
    · rw [List.length_append, List.length_singleton]
      exact ownsRow_putObj hrow4 _ hl4 rfl
    · rw [hf, List.map_append]
      exact hvs.append (.cons hxv .nil)
    · rcases hat with e1 | e1
      · exact hg g (e1.symm.trans e) o
      · rw [e1] at e
        cases e
        exact (h.wi.fresh _ (by omega)).1 o
end
end Go.Abs
namespace Go.Abs
open Go Go.Proofs Go.RowKit Go.Shelf
attribute [local go_sem] Oper.semAt_some
theorem info_part0 : (Tryz.prog.info? 22).map (fun i => (i.zero, i.size, i.bytes)) = some (some (.slice none 0 0), 1, 24) := by kernel_rfl
def asAssign : Code := (Code.region 2 #[{ dst := some 5, op := Op.assign (Operand.tmp 7), type := 22, pos := "iter.go:51", after := #[], guard := none }] false)
def asBody : Code := (Code.block 1 (Code.region 3 #[{ dst := some 8, op := Op.load 41 (Operand.tmp 2), type := 41, pos := "iter.go:52", after := #[], guard := none }, { dst := some 9, op := Op.move (Operand.tmp 5), type := 22, pos := "iter.go:52", after := #[], guard := none }, { dst := some 10, op := Op.buildSlice 41 1 #[(0, Operand.tmp 9)], type := 41, pos := "iter.go:52", after := #[{ on := 1, ground := Ground.data }], guard := none }, { dst := some 11, op := Op.call { callee := Callee.builtin Builtin.append, args := #[Operand.tmp 8, Operand.tmp 10], argTypes := #[41, 41] }, type := 41, pos := "iter.go:52", after := #[{ on := 0, ground := Ground.data }, { on := 2, ground := Ground.data }], guard := none }, { dst := none, op := Op.store 41 (Operand.tmp 2) (Operand.tmp 11), type := 0, pos := "iter.go:52", after := #[{ on := 3, ground := Ground.data }, { on := 3, ground := Ground.chain }, { on := 0, ground := Ground.phase }, { on := 1, ground := Ground.phase }, { on := 2, ground := Ground.phase }, { on := 3, ground := Ground.phase }], guard := none }] false))
def asRec (fn : FuncId) (sv : Value) (Bs D : Nat) (st : LoopState) (pend : Option Code) : Loop :=
  { state := st, pending := pend, fn, tmps := #[.slice none 0 0, sv, .pointer (some ⟨Bs, 0, none⟩), undef, .slice none 0 0, undef, sv, undef, undef, undef, undef, undef, undef], params := #[7], assign := asAssign, body := asBody, defers := D }
set_option maxRecDepth 100000 in
set_option maxHeartbeats 8000000 in
theorem as_yield {W0 : World} {I0 : Nat → Nat → Option Value} {X : Nat → Prop} {fn : FuncId} {sv : Value} {Bs l D base : Nat} (hx : ColIx W0 X Bs l D base) (ht : ∀ I, TabOK (Gn I) W0)
    {I : Nat → Nat → Option Value} {ss : List (List Val)} {A : World} {v : Value} {x : List Val} (h : ColAt W0 I0 X (asRec fn sv Bs D .ready none) Bs l D base id I ss A) (hxv : RP I (.sl (encL x)) v) (hlen : ss.length ≤ 1000000000) :
    YieldAt Fence.wide 0 Tryz.prog l #[v] A fun e B => e = .returned (.bool true) ∧ (∀ b, X b → B.heap[b]? = A.heap[b]?) ∧ ∃ I', (∀ b o y, I b o = some y → I' b o = some y) ∧ ColAt W0 I0 X (asRec fn sv Bs D .ready none) Bs l D base id I' (ss ++ [x]) B := by
  obtain ⟨i0, hi, hz0, hz1, hz2⟩ := info_parts info_part0
  obtain ⟨u, us, hb, hrow, hvs, hg⟩ := h.box
  have hub : us.length ≤ 1000000000 := by rw [← hvs.length]; simpa using hlen
  obtain ⟨xa, xc, rfl, _, _⟩ := hxv.slice_inv
  refine ⟨fn, #[.slice none 0 0, sv, .pointer (some ⟨Bs, 0, none⟩), undef, .slice none 0 0, undef, sv, .slice xa (encL x).length xc, undef, undef, undef, undef, undef], asAssign, asBody, by simpa [asRec] using run_yield (P := Tryz.prog) (args := #[.slice xa (encL x).length xc]) h.L rfl, roundIn_of_wpIn trivial ?_⟩
  have hl := (Array.getElem?_eq_some_iff.1 h.L).1
  have hbr := run_beginRound (P := Tryz.prog) h.L rfl
  obtain ⟨W2, hW2⟩ : ∃ W2, A.putObj l (.loop { asRec fn sv Bs D .ready none with state := .busy }) = W2 := ⟨_, rfl⟩
  have hb2 : Boxed W2 Bs 41 u := by rw [← hW2]; exact (World.putObj_heap_other hx.h1).trans hb
  have hrow2 : W2.ownsRow base 22 1 u us.length us := by rw [← hW2]; exact ownsRow_putObj hrow _ h.L rfl
  have hs2 : base ≤ W2.heap.size := by rw [← hW2]; simp; have := hx.n5; omega
  rw [hW2] at hbr
  have hc2 := hb2.cell
  have hf2 := hb2.frozen
  unfold asAssign
  gi_wp2_with (rw [Oper.semAt_eq _ _ _ (fun c h => by cases h)]; go_simp; try go_bits)
  unfold asBody
  gi_wp2_with (first
    | (gi_at_builtin; refine wpListIn_append_own_at _ rfl _ _ 41 rfl base 22 i0 (.slice none 0 0) 1 24 Tryz.underlying41 hi hz0 hz1 hz2 rfl (by decide) _ _ _ rfl (hrow2.alloc _) ⟨W2.heap.size, 0, none⟩ 1 1 [.slice xa (encL x).length xc] rfl rfl (cell_one_new _ _ _) (by simp [Value.oneCell']) (by simp only [maxLen]; omega) (by omega) (by simp; omega) ?_; intro v' w3 hown' hg3 hnil hat; obtain ⟨g', cap', rfl⟩ := ownsRow_succ hown'; obtain ⟨m1, m2, m3, m4⟩ := col_more hx (ht I) h (rb := { asRec fn sv Bs D .ready none with state := .busy }) hb hrow hvs hg hxv rfl hown' (by rw [hW2]; exact hg3) (by rw [hW2]; exact hat); have hc3 := m1.cell; have hf3 := m1.frozen)
    | (rw [Oper.semAt_eq _ _ _ (fun c h => by cases h)]; go_simp; try go_bits))
  exact ⟨_, _, run_endRound none m2, rfl, m3, I, fun _ _ _ h => h, m4⟩
theorem row_data {I : Nat → Nat → Option Value} {W : World} {base : Nat} {e : TypeId} {v : Value} {us : List Value} (hw : WI (Gn I) W) (hrow : W.ownsRow base e 1 v us.length us) (hg : ∀ g, v.ownBlock = some g → ∀ o, I g o = none) {ss : List (List Val)} (hvs : All2 (RP I) (ss.map fun x => PV.sl (encL x)) us) :
    ∃ I', (∀ b o y, I b o = some y → I' b o = some y) ∧ WI (Gn I') W ∧ RP I' (.sl (ss.map fun x => [PV.sl (encL x)])) v ∧ ∀ b, b < base → ∀ o, I' b o = I b o := by
  have hl : us.length = ss.length := by rw [← hvs.length]; simp
  rcases hrow.2 with ⟨rfl, h0⟩ | ⟨g, cap, cur, rfl, h1, h2, h3, _, _, h4⟩
  · have : ss = [] := List.eq_nil_of_length_eq_zero (by omega)
    subst this
    exact ⟨I, fun _ _ _ h => h, hw, .sl0 _ _, fun _ _ _ => rfl⟩
  · have hgn := hg g rfl
    have hmono : ∀ b o y, I b o = some y → (if b = g then us[o]? else I b o) = some y := fun b o y h => by
      by_cases e' : b = g
      · rw [e', hgn o] at h; cases h
      · rw [if_neg e']; exact h
    have hgl := (Array.getElem?_eq_some_iff.1 h2).1
    refine ⟨fun b o => if b = g then us[o]? else I b o, hmono, ⟨fun b o y h => ?_, fun b h => ⟨fun o => ?_, rfl⟩, (fun b s h => by cases h), (fun s b h => by cases h), hw.tab⟩, ?_, fun b h o => if_neg (by omega)⟩
    · have h' : (if b = g then us[o]? else I b o) = some y := h
      by_cases e' : b = g
      · subst e'
        rw [if_pos rfl] at h'
        have h5 : cur[o]? = some y := by
          rw [← h4, List.getElem?_take] at h'
          split at h'
          · rw [Array.getElem?_toList] at h'; exact h'
          · cases h'
        unfold World.cell?
        rw [h2]
        simpa using h5
      · rw [if_neg e'] at h'
        exact hw.cell b o y h'
    · show (if b = g then us[o]? else I b o) = none
      rw [if_neg (by omega)]
      exact (hw.fresh b h).1 o
    · have hc : (ss.map fun x => [PV.sl (encL x)]).length = us.length := by rw [hl]; simp
      rw [← hc]
      have hflat : (ss.map fun x => [PV.sl (encL x)]).flatten = ss.map fun x => PV.sl (encL x) := by
        clear hvs hl hc hrow h3 h4
        induction ss with
        | nil => rfl
        | cons x ss ih => simp only [List.map_cons, List.flatten_cons, ih, List.singleton_append]
      have hsz : ∀ el ∈ (ss.map fun x => [PV.sl (encL x)]), el.length = 1 := fun el h => by
        obtain ⟨x, _, rfl⟩ := List.mem_map.1 h
        rfl
      refine RP.of_seg (by rw [hc]; exact h3) hsz (seg_of_vals hsz (ys := us) (fun k y h => ?_) (by rw [hflat]; exact hvs.imp fun p y _ e' => e'.mono hmono))
      show (if g = g then us[0 + k]? else _) = _
      rw [if_pos rfl, Nat.zero_add]; exact h
theorem cutL_len (p : Val → Bool) : ∀ l : List Val, (cutL p l).length ≤ l.length + 1
  | [] => Nat.le_refl _
  | v :: l => by
    have h := cutL_len p l
    rw [cutL]
    split
    · rw [List.length_cons, List.length_cons]; omega
    · split
      · simp
      · rename_i q qs e
        rw [e] at h
        rw [List.length_cons] at h ⊢
        rw [List.length_cons]; omega
set_option maxRecDepth 100000 in
set_option maxHeartbeats 8000000 in
theorem appendSeq_at {W0 w : World} {I0 : Nat → Nat → Option Value} {X : Nat → Prop} {Bl Bc : Nat} {fv xl : Value} {p : Val → Bool} {tc ty : TypeId} {vs : List Val} (ht : ∀ I, TabOK (Gn I) W0) (hw : WI (Gn I0) w) (hb : Below W0.heap.size W0 w)
    (hX : ∀ b, X b → W0.heap.size ≤ b ∧ b < w.heap.size ∧ ∀ o, I0 b o = none) (hXl : X Bl) (hXc : X Bc) (hfl : fv ≠ .func (.func 102) #[] #[.pointer (some ⟨Bl, 0, none⟩)]) (hfc : fv ≠ .func (.func 102) #[] #[.pointer (some ⟨Bc, 0, none⟩)]) (hlc : Bl ≠ Bc)
    (hc : CutV X I0 w p fv) (hvs : vs.length ≤ 100000000) (hBl : w.heap[Bl]? = some (.cells #[xl] ty (0, 0))) (hxl : RP I0 (.sl (encL vs)) xl) (hBc : w.heap[Bc]? = some (.cells #[fv] tc (0, 0))) :
    Calls Tryz.prog 166 #[.slice none 0 0, .func (.func 167) #[] #[.pointer (some ⟨Bl, 0, none⟩), .pointer (some ⟨Bc, 0, none⟩)]] w fun e w' =>
      ∃ v us I, e = .returned v ∧ w'.ownsRow w.heap.size 22 1 v us.length us ∧ All2 (RP I) ((cutL p vs).map fun x => PV.sl (encL x)) us ∧ (∀ g, v.ownBlock = some g → ∀ o, I g o = none) ∧ WI (Gn I) w' ∧ Below W0.heap.size W0 w' ∧ ∀ b, b < W0.heap.size → ∀ o, I b o = I0 b o := by
  have eg : ∀ args w, (callFunc 167 args).run Tryz.prog w = .ok (.enter 167 args) w := enters_of Tryz.func167 (by kernel_rfl) rfl
  refine (callsIn_wide (n := 2)).1 ?_
  refine callsIn_of_wp_marks Tryz.func166 rfl trivial ?_ rfl
  simp only [Tryz.ntmps166, List.size_toArray, List.length_cons, List.length_nil, Nat.reduceAdd, Nat.reduceSub, Array.replicate_succ, Array.replicate_zero, List.push_toArray, List.append_toArray, List.nil_append, List.cons_append]
  gi_wp2
  refine wpIn_rangeFunc ?_
  intro fn hfn
  have hro : Fence.wide.round = none := rfl
  rw [hro]
  obtain ⟨W1, hW1⟩ : ∃ W1, w.alloc (.cells #[.slice none 0 0] 41) = W1 := ⟨_, rfl⟩
  rw [hW1]
  obtain ⟨sv, hsv⟩ : ∃ sv : Value, .func (.func 167) #[] #[.pointer (some ⟨Bl, 0, none⟩), .pointer (some ⟨Bc, 0, none⟩)] = sv := ⟨_, rfl⟩
  have hs1 : W1.heap.size = w.heap.size + 1 := by rw [← hW1]; simp
  have hv1 : Boxed W1 w.heap.size 41 (.slice none 0 0) := by rw [← hW1]; exact Boxed.new w _ _
  have hold1 : ∀ b, b < w.heap.size → W1.heap[b]? = w.heap[b]? := fun b hb' => by rw [← hW1]; exact Below.heap_alloc _ _ b hb'
  obtain ⟨W2, hW2⟩ : ∃ W2, (W1.alloc (.deferred (some []))).alloc (.loop (asRec fn sv w.heap.size W1.heap.size .ready none)) = W2 := ⟨_, rfl⟩
  have hold : ∀ b, b < W1.heap.size → W2.heap[b]? = W1.heap[b]? := fun b hb' => by
    rw [← hW2]; exact (Below.heap_alloc _ _ b (by simp; omega)).trans (Below.heap_alloc _ _ b hb')
  have hs2 : W2.heap.size = w.heap.size + 3 := by rw [← hW2]; simp; omega
  have hb2 : Below W0.heap.size W0 W2 := by
    rw [← hW2, ← hW1]
    exact ((hb.alloc hb.size _).alloc (by have := hb.size; simp; omega) _).alloc (by have := hb.size; simp; omega) _
  have hold2 : ∀ b, b < w.heap.size → W2.heap[b]? = w.heap[b]? := fun b hb' => (hold b (by omega)).trans (hold1 b hb')
  have hlw : W0.heap.size ≤ w.heap.size := hb.size
  have hL2 : W2.heap[W1.heap.size + 1]? = some (.loop (asRec fn sv w.heap.size W1.heap.size .ready none)) := by
    rw [← hW2]
    have := World.alloc_heap_new (W1.alloc (.deferred (some []))) (.loop (asRec fn sv w.heap.size W1.heap.size .ready none))
    rwa [World.size_alloc] at this
  have hK2 : W2.heap[W1.heap.size]? = some (.deferred (some [])) := by
    rw [← hW2]; exact (Below.heap_alloc _ _ _ (by simp)).trans (World.alloc_heap_new W1 _)
  have hwi2 : WI (Gn I0) W2 := wi_turn hw hb hb2 (ht I0) (by omega) fun b hb' _ => hold2 b hb'
  have hnew : ∀ b, w.heap.size ≤ b → ∀ o, I0 b o = none := fun b hb' => (hw.fresh b hb').1
  have hix : ColIx W0 X w.heap.size (W1.heap.size + 1) W1.heap.size w.heap.size :=
    ⟨by omega, by omega, by omega, (fun h => by have := (hX _ h).2.1; omega), (fun h => by have := (hX _ h).2.1; omega), (fun h => by have := (hX _ h).2.1; omega), (fun b h => ⟨(hX b h).1, (hX b h).2.1⟩), hlw, by omega, by omega, hlw, by omega⟩
  have hcol : ColAt W0 I0 X (asRec fn sv w.heap.size W1.heap.size .ready none) w.heap.size (W1.heap.size + 1) W1.heap.size w.heap.size id I0 [] W2 :=
    ⟨hwi2, (fun b h => ⟨by have := (hX b h).2.1; omega, (hX b h).2.2⟩), ⟨hnew _ (Nat.le_refl _), hnew _ (by omega), hnew _ (by omega)⟩, ⟨_, [], (hold _ (by omega)).trans hv1, ⟨rfl, .inl ⟨rfl, rfl⟩⟩, .nil, (fun g e => by cases e)⟩, hL2, hK2, hb2, fun _ _ _ => rfl⟩
  refine ⟨W1.heap.size + 1, [{ target := .collected W1.heap.size, args := #[] }], W2, { target := .fn (.func 167) #[.pointer (some ⟨Bl, 0, none⟩), .pointer (some ⟨Bc, 0, none⟩)], args := #[.func (.yield (W1.heap.size + 1)) #[] #[]] }, W2, 167,
    #[.func (.yield (W1.heap.size + 1)) #[] #[]] ++ #[.pointer (some ⟨Bl, 0, none⟩), .pointer (some ⟨Bc, 0, none⟩)], W2, ?_, ?_, ?_, ?_, (fun h => by cases h), ?_⟩
  · rw [← hW2, ← hsv]; exact run_enterLoop_outer _ _ _ _ _
  · simp [resolve, go_sem]
  · intro f' hf'; trivial
  · simp [invoke, go_sem, eg]
  · have hlen := cutL_len p vs
    refine (parts1_in (W1.heap.size + 1) Bl Bc X fv p tc hXl hXc hfl hfc hlc
      (fun I ss A => ColAt W0 I0 X (asRec fn sv w.heap.size W1.heap.size .ready none) w.heap.size (W1.heap.size + 1) W1.heap.size w.heap.size id I ss A)
      (fun h => ⟨h.wi, fun b hb' => (h.hX b hb').2⟩) (fun h k hw' => h.keep hix k hw') I0 [] W2 hcol (hc.kept (fun b h _ hn => hn) (fun b h _ => hold2 b (hX b h).2.1)) xl ty vs (by omega) (fun h hv hlt => as_yield hix ht h hv (by rw [List.nil_append] at hlt; omega)) ((hold2 Bl (hX Bl hXl).2.1).trans hBl) hxl ((hold2 Bc (hX Bc hXc).2.1).trans hBc)).mono ?_
    rintro e W3 ⟨⟨v0, rfl⟩, I, h3⟩
    obtain ⟨v, us, hbx, hrow, hus, hg⟩ := h3.box
    have hend := run_endLoop (P := Tryz.prog) h3.L (by simp [asRec])
    obtain ⟨W4, hW4⟩ : ∃ W4, W3.putObj (W1.heap.size + 1) (.loop { asRec fn sv w.heap.size W1.heap.size .ready none with state := .exhausted }) = W4 := ⟨_, rfl⟩
    rw [hW4] at hend
    have hbx4 : Boxed W4 w.heap.size 41 v := by rw [← hW4]; exact (World.putObj_heap_other (by omega)).trans hbx
    have hK4 : W4.heap[W1.heap.size]? = some (.deferred (some [])) := by rw [← hW4]; exact (World.putObj_heap_other (by omega)).trans h3.K
    have hrow4 : W4.ownsRow w.heap.size 22 1 v us.length us := by rw [← hW4]; exact ownsRow_putObj hrow _ h3.L rfl
    have hb4 : Below W0.heap.size W0 W4 := by rw [← hW4]; exact Below.of_grown h3.below (grownBy_putObj' _ _ _) h3.below.size (fun k e => by cases e; omega)
    have hwi4 : WI (Gn I) W4 := wi_turn h3.wi h3.below hb4 (ht I) (by rw [← hW4]; simp) fun b hb' ⟨o, y, e⟩ => by
      rw [← hW4]
      exact World.putObj_heap_other fun e' => by rw [e', h3.raw.2.1] at e; cases e
    have hc4 := hbx4.cell
    clear hW4
    refine ⟨none, W4, hend, ?_⟩
    rw [hs1] at hK4
    gi_wp2
    refine ⟨by simp, .inl ⟨_, _, rfl, run_takeDeferred hK4, ?_⟩⟩
    have hb5 : Below W0.heap.size W0 (W4.putObj (w.heap.size + 1) (.deferred none)) := Below.of_grown hb4 (grownBy_putObj' _ _ _) hb4.size (fun k e => by cases e; omega)
    refine ⟨_, results_tmp rfl _ _ _, v, us, I, rfl, ownsRow_putObj hrow4 _ hK4 rfl, ?_, hg, wi_turn hwi4 hb4 hb5 (ht I) (by simp) fun b hb' ⟨o, y, e⟩ => ?_, hb5, h3.old⟩
    · rw [List.nil_append] at hus; exact hus
    · refine World.putObj_heap_other fun e' => ?_
      have := h3.raw.2.2 o
      rw [hs1, ← e', e] at this
      cases this
end Go.Abs
namespace Go.Abs
open Go Go.Proofs Go.RowKit Go.Shelf
set_option maxRecDepth 100000 in
set_option maxHeartbeats 8000000 in
theorem parts_call (x fv : Value) (w : World) (hx : x.oneCell' = true) (hf : fv.oneCell' = true) : Calls Tryz.prog 101 #[x, fv] w fun e w' =>
    e = .returned (.func (.func 167) #[] #[.pointer (some ⟨w.heap.size, 0, none⟩), .pointer (some ⟨w.heap.size + 1, 0, none⟩)]) ∧ ∃ tc, w' = (w.alloc (.cells #[x] 22)).alloc (.cells #[fv] tc) := by
  have hmf : ∀ (fn : Fn) (first cap : Array Value) (w : World), (Instr.makeFunc fn first cap).run Tryz.prog w = .ok (.func fn first cap) w := fun _ _ _ _ => rfl
  have hcx : x.cells = #[x] := cells_one hx
  have hcf : fv.cells = #[fv] := cells_one hf
  go_enter Tryz.func101, Tryz.ntmps101
  go_wp2
  go_ret
  exact ⟨rfl, _, rfl⟩
theorem boxes_wi {I : Nat → Nat → Option Value} {w w' : World} (hw : WI (Gn I) w) (hb : Below w.heap.size w w') : WI (Gn I) w' := (below_gr hw hb).2
abbrev encPP (l : List (List Val)) : List (List PV) := l.map fun p => [PV.sl (encL p)]
def CutEnd (G : Gh) (w : World) (l : List (List Val)) (e : Ending) (w' : World) : Prop :=
  ∃ v I, e = .returned v ∧ RP I (.sl (encPP l)) v ∧ WI (Gn I) w' ∧ Below w.heap.size w w' ∧ (∀ b o y, G.I b o = some y → I b o = some y) ∧ ∀ b, b < w.heap.size → ∀ o, I b o = G.I b o
set_option maxRecDepth 100000 in
set_option maxHeartbeats 8000000 in
theorem collect_at {W0 w : World} {sv : Value} {Q : Ending → World → Prop} (h : Calls Tryz.prog 166 #[.slice none 0 0, sv] w fun e w' => (∃ v, e = .returned v) ∧ Q e w') (hs : sv.oneCell' = true) :
    Calls Tryz.prog 100 #[sv] w fun e w' => Q e w' := by
  go_enter Tryz.func100, Tryz.ntmps100
  go_wp2_with (go_at_call 166; refine h.mono ?_)
  rintro e w' ⟨⟨v, rfl⟩, hq⟩
  go_wp2
  exact hq
set_option maxRecDepth 100000 in
set_option maxHeartbeats 8000000 in
theorem at_at {G : Gh} {w : World} {x : Value} {vs : List Val} {d : List UInt8} (hw : WI G w) (hx : RP G.I (.sl (encL vs)) x) (hlen : vs.length ≤ 100000000) :
    Calls Tryz.prog 52 #[x, .string ⟨d.toArray⟩] w (CutEnd G w (cutL (SR.isSign d) vs)) := by
  have hmf : ∀ (fn : Fn) (first cap : Array Value) (w : World), (Instr.makeFunc fn first cap).run Tryz.prog w = .ok (.func fn first cap) w := fun _ _ _ _ => rfl
  have hwn := wi_gn hw
  have hx1 := hx.one
  obtain ⟨w1, hw1⟩ : ∃ w1, w.alloc (.cells #[.string ⟨d.toArray⟩] 9) = w1 := ⟨_, rfl⟩
  have hpc := parts_call x (.func (.func 102) #[] #[.pointer (some ⟨w.heap.size, 0, none⟩)]) w1 hx1 rfl
  go_enter Tryz.func52, Tryz.ntmps52
  go_wp2_with (go_at_call 101; refine hpc.mono ?_)
  rintro e w3 ⟨rfl, tc, hw3⟩
  have hs1 : w1.heap.size = w.heap.size + 1 := by rw [← hw1]; simp
  have hs3 : w3.heap.size = w.heap.size + 3 := by rw [hw3]; simp; omega
  have hb1 : Below w.heap.size w w1 := by rw [← hw1]; exact (Below.refl _ w).alloc (Nat.le_refl _) _
  have hb3 : Below w.heap.size w w3 := by rw [hw3]; exact (hb1.alloc (by omega) _).alloc (by simp; omega) _
  have h1 : w3.heap[w.heap.size]? = some (.cells #[.string ⟨d.toArray⟩] 9 (0, 0)) := by
    rw [hw3]
    refine (Below.heap_alloc _ _ _ (by simp; omega)).trans ((Below.heap_alloc _ _ _ (by omega)).trans ?_)
    rw [← hw1]; exact World.alloc_heap_new w _
  have h2 : w3.heap[w1.heap.size]? = some (.cells #[x] 22 (0, 0)) := by
    rw [hw3]
    exact (Below.heap_alloc _ _ _ (by simp)).trans (World.alloc_heap_new w1 _)
  have h3 : w3.heap[w1.heap.size + 1]? = some (.cells #[.func (.func 102) #[] #[.pointer (some ⟨w.heap.size, 0, none⟩)]] tc (0, 0)) := by
    rw [hw3]
    have := World.alloc_heap_new (w1.alloc (.cells #[x] 22)) (.cells #[.func (.func 102) #[] #[.pointer (some ⟨w.heap.size, 0, none⟩)]] tc)
    rwa [World.size_alloc] at this
  have hw3n : WI (Gn G.I) w3 := boxes_wi hwn hb3
  have hfr : ∀ b, w.heap.size ≤ b → ∀ o, G.I b o = none := fun b hb => (hwn.fresh b hb).1
  have has := appendSeq_at (W0 := w) (w := w3) (I0 := G.I) (X := fun b => w.heap.size ≤ b ∧ b < w.heap.size + 3) (Bl := w1.heap.size) (Bc := w1.heap.size + 1) (fun I => hwn.tab) hw3n hb3 (fun b hb => ⟨hb.1, by omega, hfr b hb.1⟩) ⟨by omega, by omega⟩ ⟨by omega, by omega⟩
    (fun e => by simp at e) (fun e => by simp at e) (by omega) (.sign d w.heap.size 9 ⟨Nat.le_refl _, by omega⟩ (hfr _ (Nat.le_refl _)) h1) hlen h2 hx h3
  have hco := collect_at (W0 := w) (w := w3) (Q := CutEnd G w (cutL (SR.isSign d) vs)) (has.mono fun e w' hq => by
    obtain ⟨v, us, I, rfl, q1, q2, q3, q4, q5, q6⟩ := hq
    obtain ⟨I', r1, r2, r3, r4⟩ := row_data q4 q1 q3 q2
    have hold : ∀ b, b < w.heap.size → ∀ o, I' b o = G.I b o := fun b hb o => (r4 b (by omega) o).trans (q6 b hb o)
    exact ⟨⟨v, rfl⟩, v, I', rfl, r3, r2, q5, fun b o y h => by rw [hold b (I_lt hwn h)]; exact h, hold⟩) rfl
  clear hs1 hs3 hb3 h1 h2 h3 hw3n has hw3
  go_wp2_with (go_at_call 100; refine hco.mono ?_)
  rintro e w' hq
  obtain ⟨v, I, rfl, q⟩ := hq
  go_wp2
  go_ret
  exact ⟨v, I, rfl, q⟩
theorem cut_contract {f : FuncId} {args : List AV} {l : List (List Val)} (h : ∀ {G : Gh} {w : World} {cargs : List Value}, WI G w → All2 (fun v x => RA G w .ret v x) args cargs → Calls Tryz.prog f cargs.toArray w (CutEnd G w l)) :
    Contract Tryz.prog f args [] (.ret (.c (.pv (.sl (encPP l)))) []) := by
  intro G w cargs hw hargs _ _ hbb
  refine (h hw hargs).mono ?_
  rintro e w' ⟨v, I, rfl, hr, hwi, hb, hm, hold⟩
  have hb0 : ∀ s, G.bb s = none := fun s => by
    cases e : G.bb s with
    | none => rfl
    | some b => obtain ⟨i, hi, _⟩ := hbb s b e; simp at hi
  refine ⟨⟨I, G.bb, G.ow⟩, ⟨hm, fun b hlt hn => ⟨hn, hb.block b hlt, hold b hlt⟩, hb.size, hb.os, hb.output, hb.tape, fun _ _ => rfl⟩,
    ⟨hwi.cell, fun b h => ⟨(hwi.fresh b h).1, (hw.fresh b (Nat.le_trans hb.size h)).2⟩, fun b s h o => ?_, fun s b h => ?_, hw.tab.map fun b hlt hn => ⟨hn, hb.block b hlt⟩⟩, v, rfl, hr, rfl, fun i l h => by simp at h⟩
  · have hlt := ow_lt hw h
    exact (hold b hlt o).trans (hw.boxI b s h o)
  · have h' : G.bb s = some b := h
    rw [hb0] at h'; cases h'
def decAll (f : List PV → Option Val) : List (List PV) → Option (List Val)
  | [] => some []
  | el :: r => match f el, decAll f r with
    | some v, some vs => some (v :: vs)
    | _, _ => none
def decVn : Nat → List PV → Option Val
  | n + 1, [.int .i64 k, .int .i64 tk, .str ts, .int .i64 tn, .sl c] => match decAll (decVn n) c with
    | some l => some (.mk k ⟨tk, ts, tn⟩ l)
    | none => none
  | _, _ => none
theorem decAll_enc {f : List PV → Option Val} (hf : ∀ el v, f el = some v → el = v.enc) : ∀ {c : List (List PV)} {vs : List Val}, decAll f c = some vs → c = encL vs
  | [], vs, h => by cases h; rfl
  | el :: r, vs, h => by
    unfold decAll at h
    split at h
    · rename_i v vs' h1 h2
      cases h
      rw [encL, ← hf _ _ h1, ← decAll_enc hf h2]
    · cases h
theorem decVn_enc : ∀ (n : Nat) (el : List PV) (v : Val), decVn n el = some v → el = v.enc
  | 0, el, v, h => by unfold decVn at h; cases h
  | n + 1, el, v, h => by
    unfold decVn at h
    split at h
    · rename_i k tk ts tn c e0
      cases e0
      split at h
      · rename_i l hl
        cases h
        rw [Val.enc, ← decAll_enc (decVn_enc n) hl]
      · cases h
    · cases h
theorem dec_vals : ∀ (n : Nat) (vs : List Val), Ne.size vs ≤ n → decAll (decVn n) (encL vs) = some vs
  | n, [], h => by rw [encL]; rfl
  | 0, .mk k t l :: vs, h => by rw [Ne.size, Ne.sizeV] at h; omega
  | n + 1, .mk k t l :: vs, h => by
    rw [Ne.size, Ne.sizeV] at h
    have h1 := dec_vals n l (by omega)
    have h2 := dec_vals (n + 1) vs (by omega)
    rw [encL, decAll, h2, Val.enc]
    have h3 : decVn (n + 1) [.int .i64 k, .int .i64 t.kind, .str t.text, .int .i64 t.n, .sl (encL l)] = some (.mk k t l) := by
      rw [decVn, h1]
    rw [h3]
termination_by n vs => (n, vs.length)
def decVals (c : List (List PV)) : Option (List Val) := decAll (decVn 1000000000) c
theorem dec_encL (vs : List Val) (h : Ne.size vs ≤ 1000000000) : decVals (encL vs) = some vs := dec_vals _ _ h
def pAt : Prim
  | [.c (.pv (.sl c)), .c (.pv (.str d))], [] => match decVals c with
    | some vs => if vs.length ≤ 100000000 then some (.c (.pv (.sl (encPP (cutL (SR.isSign d) vs)))), []) else none
    | none => none
  | [.c .nils, .c (.pv (.str _))], [] => some (.c (.pv (.sl [[.sl []]])), [])
  | _, _ => none
theorem pAt_ok {args : List AV} {bxs : List (List CV)} {x : AV × List (List CV)} (h : pAt args bxs = some x) : Contract Tryz.prog 52 args bxs (.ret x.1 x.2) := by
  unfold pAt at h
  split at h
  · rename_i c d
    split at h
    case h_2 => cases h
    rename_i vs hdec
    split at h
    case isFalse => cases h
    rename_i hlen
    cases h
    have hc := decAll_enc (decVn_enc _) hdec
    subst hc
    refine cut_contract fun hw hargs => ?_
    obtain ⟨x, y, rfl, hx, hy⟩ := args_two hargs
    cases hy.strv
    exact at_at hw hx hlen
  · rename_i d
    cases h
    refine cut_contract (l := [[]]) fun hw hargs => ?_
    obtain ⟨x, y, rfl, hx, hy⟩ := args_two hargs
    cases hy.strv
    obtain rfl : x = .slice none 0 0 := hx
    exact at_at (vs := []) (d := d) hw (.sl0 _ _) (by simp)
  · cases h
end Go.Abs
namespace Go.Abs
open Go Go.Proofs Go.RowKit Go.Shelf
attribute [local go_sem] Oper.semAt_some
def wdAssign : Code := (Code.region 3 #[{ dst := some 4, op := Op.assign (Operand.tmp 7), type := 22, pos := "split.go:61", after := #[], guard := none }] false)
def wdBody : Code := (Code.block 1 ((Code.region 4 #[{ dst := some 8, op := Op.move (Operand.tmp 4), type := 22, pos := "split.go:62", after := #[], guard := none }, { dst := some 9, op := Op.call { callee := Callee.builtin Builtin.len, args := #[Operand.tmp 8], argTypes := #[22] }, type := 3, pos := "split.go:62", after := #[{ on := 0, ground := Ground.data }], guard := none }, { dst := some 10, op := Op.binOp BinOp.gtr 3 (Operand.tmp 9) (Operand.const (Value.int IntKind.i64 0)) 3, type := 4, pos := "split.go:62", after := #[{ on := 1, ground := Ground.data }], guard := none }] false).seq (Code.cond (Operand.tmp 10) (Code.region 5 #[{ dst := some 11, op := Op.load 41 (Operand.tmp 3), type := 41, pos := "split.go:63", after := #[], guard := none }, { dst := some 12, op := Op.move (Operand.tmp 4), type := 22, pos := "split.go:63", after := #[], guard := none }, { dst := some 13, op := Op.buildSlice 41 1 #[(0, Operand.tmp 12)], type := 41, pos := "split.go:63", after := #[{ on := 1, ground := Ground.data }], guard := none }, { dst := some 14, op := Op.call { callee := Callee.builtin Builtin.append, args := #[Operand.tmp 11, Operand.tmp 13], argTypes := #[41, 41] }, type := 41, pos := "split.go:63", after := #[{ on := 0, ground := Ground.data }, { on := 2, ground := Ground.data }], guard := none }, { dst := none, op := Op.store 41 (Operand.tmp 3) (Operand.tmp 14), type := 0, pos := "split.go:63", after := #[{ on := 3, ground := Ground.data }, { on := 3, ground := Ground.chain }, { on := 0, ground := Ground.phase }, { on := 1, ground := Ground.phase }, { on := 2, ground := Ground.phase }, { on := 3, ground := Ground.phase }], guard := none }] false) Code.skip)))
def wdRec (fn : FuncId) (xl sv : Value) (Bs D : Nat) (st : LoopState) (pend : Option Code) : Loop :=
  { state := st, pending := pend, fn, tmps := #[xl, undef, .slice none 0 0, .pointer (some ⟨Bs, 0, none⟩), undef, xl, sv, undef, undef, undef, undef, undef, undef, undef, undef, undef], params := #[7], assign := wdAssign, body := wdBody, defers := D }
def full (ss : List (List Val)) : List (List Val) := ss.filter fun s => !s.isEmpty
theorem full_yes (ss : List (List Val)) (x : List Val) (h : x ≠ []) : full (ss ++ [x]) = full ss ++ [x] := by
  cases x with
  | nil => exact absurd rfl h
  | cons v x => simp [full]
theorem full_no (ss : List (List Val)) : full (ss ++ [[]]) = full ss := by simp [full]
theorem full_len (ss : List (List Val)) : (full ss).length ≤ ss.length := List.length_filter_le _ _
theorem col_same {W0 : World} {I0 : Nat → Nat → Option Value} {X : Nat → Prop} {rec rb : Loop} {Bs l D base : Nat} {f : List (List Val) → List (List Val)} {I : Nat → Nat → Option Value} {ss : List (List Val)} {A : World} (hx : ColIx W0 X Bs l D base) (ht : TabOK (Gn I) W0) (h : ColAt W0 I0 X rec Bs l D base f I ss A) {x : List Val} (hf : f (ss ++ [x]) = f ss) :
    (A.putObj l (.loop rb)).heap[l]? = some (.loop rb) ∧ (∀ b, X b → ((A.putObj l (.loop rb)).putObj l (.loop rec)).heap[b]? = A.heap[b]?) ∧ ColAt W0 I0 X rec Bs l D base f I (ss ++ [x]) ((A.putObj l (.loop rb)).putObj l (.loop rec)) := by
  have ltL := (Array.getElem?_eq_some_iff.1 h.L).1
  have ltL' : l < (A.putObj l (.loop rb)).heap.size := by simpa using ltL
  have hoth : ∀ b, b ≠ l → ((A.putObj l (.loop rb)).putObj l (.loop rec)).heap[b]? = A.heap[b]? := fun b hb => (World.putObj_heap_other hb).trans (World.putObj_heap_other hb)
  have hl1 : (A.putObj l (.loop rb)).heap[l]? = some (.loop rb) := World.putObj_heap_same ltL
  have hb1 : Below W0.heap.size W0 ((A.putObj l (.loop rb)).putObj l (.loop rec)) :=
    Below.of_grown (Below.of_grown h.below (grownBy_putObj' A l _) h.below.size fun k e => by cases e; exact hx.n2) (grownBy_putObj' _ l _) (by simpa using h.below.size) fun k e => by cases e; exact hx.n2
  obtain ⟨v, vs, hb, hrow, hvs, hg⟩ := h.box
  refine ⟨hl1, fun b hb' => hoth b fun e => hx.x2 (e ▸ hb'), ?_⟩
  refine ⟨wi_turn h.wi h.below hb1 ht (by simp) fun b hlt ⟨o, y, e⟩ => hoth b fun e' => ?_, fun b hb' => ⟨by simpa using (h.hX b hb').1, (h.hX b hb').2⟩, h.raw, ⟨v, vs, (hoth Bs hx.h1).trans hb, ?_, by rw [hf]; exact hvs, hg⟩, World.putObj_heap_same ltL', (hoth D hx.h2).trans h.K, hb1, h.old⟩
  · rw [e', h.raw.2.1] at e; cases e
  · exact ownsRow_putObj (ownsRow_putObj hrow _ h.L rfl) _ hl1 rfl
set_option maxRecDepth 100000 in
set_option maxHeartbeats 8000000 in
theorem wd_yield {W0 : World} {I0 : Nat → Nat → Option Value} {X : Nat → Prop} {fn : FuncId} {xl sv : Value} {Bs l D base : Nat} (hx : ColIx W0 X Bs l D base) (ht : ∀ I, TabOK (Gn I) W0)
    {I : Nat → Nat → Option Value} {ss : List (List Val)} {A : World} {v : Value} {x : List Val} (h : ColAt W0 I0 X (wdRec fn xl sv Bs D .ready none) Bs l D base full I ss A) (hxv : RP I (.sl (encL x)) v) (hlen : ss.length ≤ 1000000000) :
    YieldAt Fence.wide 0 Tryz.prog l #[v] A fun e B => e = .returned (.bool true) ∧ (∀ b, X b → B.heap[b]? = A.heap[b]?) ∧ ∃ I', (∀ b o y, I b o = some y → I' b o = some y) ∧ ColAt W0 I0 X (wdRec fn xl sv Bs D .ready none) Bs l D base full I' (ss ++ [x]) B := by
  obtain ⟨i0, hi, hz0, hz1, hz2⟩ := info_parts info_part0
  obtain ⟨u, us, hb, hrow, hvs, hg⟩ := h.box
  have hub : us.length ≤ 1000000000 := by
    rw [← hvs.length]
    have := full_len ss
    simp
    omega
  obtain ⟨xa, xc, rfl, _, _⟩ := hxv.slice_inv
  refine ⟨fn, #[xl, undef, .slice none 0 0, .pointer (some ⟨Bs, 0, none⟩), undef, xl, sv, .slice xa (encL x).length xc, undef, undef, undef, undef, undef, undef, undef, undef], wdAssign, wdBody, by simpa [wdRec] using run_yield (P := Tryz.prog) (args := #[.slice xa (encL x).length xc]) h.L rfl, roundIn_of_wpIn trivial ?_⟩
  have hl := (Array.getElem?_eq_some_iff.1 h.L).1
  have hbr := run_beginRound (P := Tryz.prog) h.L rfl
  obtain ⟨W2, hW2⟩ : ∃ W2, A.putObj l (.loop { wdRec fn xl sv Bs D .ready none with state := .busy }) = W2 := ⟨_, rfl⟩
  have hb2 : Boxed W2 Bs 41 u := by rw [← hW2]; exact (World.putObj_heap_other hx.h1).trans hb
  have hrow2 : W2.ownsRow base 22 1 u us.length us := by rw [← hW2]; exact ownsRow_putObj hrow _ h.L rfl
  have hs2 : base ≤ W2.heap.size := by rw [← hW2]; simp; have := hx.n5; omega
  rw [hW2] at hbr
  have hc2 := hb2.cell
  have hf2 := hb2.frozen
  by_cases hx0 : x = []
  · subst hx0
    have hz : decide ((0 : Int) < (((encL []).length : Nat) : Int)) = false := by rw [encL]; rfl
    obtain ⟨m2, m3, m4⟩ := col_same (rb := { wdRec fn xl sv Bs D .ready none with state := .busy }) hx (ht I) h (full_no ss)
    rw [hW2] at m2 m3 m4
    unfold wdAssign
    gi_wp2_with (rw [Oper.semAt_eq _ _ _ (fun c h => by cases h)]; go_simp; try go_bits)
    unfold wdBody
    gi_wp2_with (rw [Oper.semAt_eq _ _ _ (fun c h => by cases h)]; go_simp; try go_bits)
    exact ⟨_, _, run_endRound none m2, rfl, m3, I, fun _ _ _ h => h, m4⟩
  · have hz : decide ((0 : Int) < (((encL x).length : Nat) : Int)) = true := by
      rw [encL_len]
      have := List.length_pos_iff.2 hx0
      exact decide_eq_true (by omega)
    have hz' : (0 : Int) < (((encL x).length : Nat) : Int) := of_decide_eq_true hz
    unfold wdAssign
    gi_wp2_with (rw [Oper.semAt_eq _ _ _ (fun c h => by cases h)]; go_simp; try go_bits)
    unfold wdBody
    gi_wp2_with (first
      | (gi_at_builtin; refine wpListIn_append_own_at _ rfl _ _ 41 rfl base 22 i0 (.slice none 0 0) 1 24 Tryz.underlying41 hi hz0 hz1 hz2 rfl (by decide) _ _ _ rfl (hrow2.alloc _) ⟨W2.heap.size, 0, none⟩ 1 1 [.slice xa (encL x).length xc] rfl rfl (cell_one_new _ _ _) (by simp [Value.oneCell']) (by simp only [maxLen]; omega) (by omega) (by simp; omega) ?_; intro v' w3 hown' hg3 hnil hat; obtain ⟨g', cap', rfl⟩ := ownsRow_succ hown'; obtain ⟨m1, m2, m3, m4⟩ := col_more hx (ht I) h (rb := { wdRec fn xl sv Bs D .ready none with state := .busy }) hb hrow hvs hg hxv (full_yes ss x hx0) hown' (by rw [hW2]; exact hg3) (by rw [hW2]; exact hat); have hc3 := m1.cell; have hf3 := m1.frozen)
      | (rw [Oper.semAt_eq _ _ _ (fun c h => by cases h)]; go_simp; try go_bits))
    exact ⟨_, _, run_endRound none m2, rfl, m3, I, fun _ _ _ h => h, m4⟩
set_option maxRecDepth 100000 in
set_option maxHeartbeats 8000000 in
theorem words_at {G : Gh} {w : World} {x : Value} {vs : List Val} (hw : WI G w) (hx : RP G.I (.sl (encL vs)) x) (hlen : vs.length ≤ 100000000) :
    Calls Tryz.prog 271 #[x] w (CutEnd G w (full (cutL SR.isBlank vs))) := by
  have eg : ∀ args w, (callFunc 167 args).run Tryz.prog w = .ok (.enter 167 args) w := enters_of Tryz.func167 (by kernel_rfl) rfl
  have hwn := wi_gn hw
  have hx1 := hx.one
  obtain ⟨w1, hw1⟩ : ∃ w1, w.alloc (.cells #[.slice none 0 0] 41) = w1 := ⟨_, rfl⟩
  have hpc := parts_call x (.func (.func 170) #[] #[]) w1 hx1 rfl
  refine (callsIn_wide (n := 2)).1 ?_
  refine callsIn_of_wp_marks Tryz.func271 rfl trivial ?_ rfl
  simp only [Tryz.ntmps271, List.size_toArray, List.length_cons, List.length_nil, Nat.reduceAdd, Nat.reduceSub, Array.replicate_succ, Array.replicate_zero, List.push_toArray, List.append_toArray, List.nil_append, List.cons_append]
  gi_wp2_with (refine ⟨trivial, ?_⟩; gi_at_call 101; refine (callsIn_wide.2 hpc).mono ?_)
  rintro e w3 ⟨rfl, tc, hw3⟩
  have hs1 : w1.heap.size = w.heap.size + 1 := by rw [← hw1]; simp
  have hs3 : w3.heap.size = w.heap.size + 3 := by rw [hw3]; simp; omega
  have hb1 : Below w.heap.size w w1 := by rw [← hw1]; exact (Below.refl _ w).alloc (Nat.le_refl _) _
  have hb3 : Below w.heap.size w w3 := by rw [hw3]; exact (hb1.alloc (by omega) _).alloc (by simp; omega) _
  have h1 : Boxed w3 w.heap.size 41 (.slice none 0 0) := by
    rw [hw3]
    refine (Below.heap_alloc _ _ _ (by simp; omega)).trans ((Below.heap_alloc _ _ _ (by omega)).trans ?_)
    rw [← hw1]; exact World.alloc_heap_new w _
  have h2 : w3.heap[w1.heap.size]? = some (.cells #[x] 22 (0, 0)) := by
    rw [hw3]
    exact (Below.heap_alloc _ _ _ (by simp)).trans (World.alloc_heap_new w1 _)
  have h3 : w3.heap[w1.heap.size + 1]? = some (.cells #[.func (.func 170) #[] #[]] tc (0, 0)) := by
    rw [hw3]
    have := World.alloc_heap_new (w1.alloc (.cells #[x] 22)) (.cells #[.func (.func 170) #[] #[]] tc)
    rwa [World.size_alloc] at this
  have hw3n : WI (Gn G.I) w3 := boxes_wi hwn hb3
  clear hw3
  gi_wp2
  refine wpIn_rangeFunc ?_
  intro fn hfn
  have hro : Fence.wide.round = none := rfl
  rw [hro]
  rw [hs1] at h2 h3
  obtain ⟨sv, hsv⟩ : ∃ sv : Value, .func (.func 167) #[] #[.pointer (some ⟨w.heap.size + 1, 0, none⟩), .pointer (some ⟨w.heap.size + 1 + 1, 0, none⟩)] = sv := ⟨_, rfl⟩
  obtain ⟨W2, hW2⟩ : ∃ W2, (w3.alloc (.deferred (some []))).alloc (.loop (wdRec fn x sv w.heap.size w3.heap.size .ready none)) = W2 := ⟨_, rfl⟩
  have hold : ∀ b, b < w3.heap.size → W2.heap[b]? = w3.heap[b]? := fun b hb' => by
    rw [← hW2]; exact (Below.heap_alloc _ _ b (by simp; omega)).trans (Below.heap_alloc _ _ b hb')
  have hs2 : W2.heap.size = w.heap.size + 5 := by rw [← hW2]; simp; omega
  have hb2 : Below w.heap.size w W2 := by
    rw [← hW2]
    exact (hb3.alloc (by omega) _).alloc (by simp; omega) _
  have hL2 : W2.heap[w3.heap.size + 1]? = some (.loop (wdRec fn x sv w.heap.size w3.heap.size .ready none)) := by
    rw [← hW2]
    have := World.alloc_heap_new (w3.alloc (.deferred (some []))) (.loop (wdRec fn x sv w.heap.size w3.heap.size .ready none))
    rwa [World.size_alloc] at this
  have hK2 : W2.heap[w3.heap.size]? = some (.deferred (some [])) := by
    rw [← hW2]; exact (Below.heap_alloc _ _ _ (by simp)).trans (World.alloc_heap_new w3 _)
  have hwi2 : WI (Gn G.I) W2 := boxes_wi hwn hb2
  have hfr : ∀ b, w.heap.size ≤ b → ∀ o, G.I b o = none := fun b hb => (hwn.fresh b hb).1
  have ht : ∀ I, TabOK (Gn I) w := fun I => hwn.tab
  have hix : ColIx w (fun b => b = (w.heap.size + 1) ∨ b = w.heap.size + 1 + 1) w.heap.size (w3.heap.size + 1) w3.heap.size w3.heap.size :=
    ⟨by omega, by omega, by omega, by omega, by omega, by omega, fun b h => by omega, by omega, by omega, by omega, by omega, by omega⟩
  have hcol : ColAt w G.I (fun b => b = (w.heap.size + 1) ∨ b = w.heap.size + 1 + 1) (wdRec fn x sv w.heap.size w3.heap.size .ready none) w.heap.size (w3.heap.size + 1) w3.heap.size w3.heap.size full G.I [] W2 :=
    ⟨hwi2, (fun b h => ⟨by omega, hfr b (by omega)⟩), ⟨hfr _ (Nat.le_refl _), hfr _ (by omega), hfr _ (by omega)⟩, ⟨_, [], (hold _ (by omega)).trans h1, ⟨rfl, .inl ⟨rfl, rfl⟩⟩, .nil, (fun g e => by cases e)⟩, hL2, hK2, hb2, fun _ _ _ => rfl⟩
  refine ⟨w3.heap.size + 1, [{ target := .collected w3.heap.size, args := #[] }], W2, { target := .fn (.func 167) #[.pointer (some ⟨w.heap.size + 1, 0, none⟩), .pointer (some ⟨w.heap.size + 1 + 1, 0, none⟩)], args := #[.func (.yield (w3.heap.size + 1)) #[] #[]] }, W2, 167,
    #[.func (.yield (w3.heap.size + 1)) #[] #[]] ++ #[.pointer (some ⟨w.heap.size + 1, 0, none⟩), .pointer (some ⟨w.heap.size + 1 + 1, 0, none⟩)], W2, ?_, ?_, ?_, ?_, (fun h => by cases h), ?_⟩
  · rw [← hW2, ← hsv]; exact run_enterLoop_outer _ _ _ _ _
  · simp [resolve, go_sem]
  · intro f' hf'; trivial
  · simp [invoke, go_sem, eg]
  · have hlen' := cutL_len SR.isBlank vs
    refine (parts1_in (w3.heap.size + 1) (w.heap.size + 1) (w.heap.size + 1 + 1) (fun b => b = (w.heap.size + 1) ∨ b = w.heap.size + 1 + 1) (.func (.func 170) #[] #[]) SR.isBlank tc (.inl rfl) (.inr rfl) (fun e => by simp at e) (fun e => by simp at e) (by omega)
      (fun I ss A => ColAt w G.I (fun b => b = (w.heap.size + 1) ∨ b = w.heap.size + 1 + 1) (wdRec fn x sv w.heap.size w3.heap.size .ready none) w.heap.size (w3.heap.size + 1) w3.heap.size w3.heap.size full I ss A)
      (fun h => ⟨h.wi, fun b hb' => (h.hX b hb').2⟩) (fun h k hw' => h.keep hix k hw') G.I [] W2 hcol .blank x _ vs (by omega) (fun h hv hlt => wd_yield hix ht h hv (by rw [List.nil_append] at hlt; omega)) ((hold _ (by omega)).trans h2) hx ((hold _ (by omega)).trans h3)).mono ?_
    rintro e W3 ⟨⟨v0, rfl⟩, I, h3⟩
    obtain ⟨v, us, hbx, hrow, hus, hg⟩ := h3.box
    have hend := run_endLoop (P := Tryz.prog) h3.L (by simp [wdRec])
    obtain ⟨W4, hW4⟩ : ∃ W4, W3.putObj (w3.heap.size + 1) (.loop { wdRec fn x sv w.heap.size w3.heap.size .ready none with state := .exhausted }) = W4 := ⟨_, rfl⟩
    rw [hW4] at hend
    have hbx4 : Boxed W4 w.heap.size 41 v := by rw [← hW4]; exact (World.putObj_heap_other (by omega)).trans hbx
    have hK4 : W4.heap[w3.heap.size]? = some (.deferred (some [])) := by rw [← hW4]; exact (World.putObj_heap_other (by omega)).trans h3.K
    have hrow4 : W4.ownsRow w3.heap.size 22 1 v us.length us := by rw [← hW4]; exact ownsRow_putObj hrow _ h3.L rfl
    have hb4 : Below w.heap.size w W4 := by rw [← hW4]; exact Below.of_grown h3.below (grownBy_putObj' _ _ _) h3.below.size (fun k e => by cases e; omega)
    have hwi4 : WI (Gn I) W4 := wi_turn h3.wi h3.below hb4 (ht I) (by rw [← hW4]; simp) fun b hb' ⟨o, y, e⟩ => by
      rw [← hW4]
      exact World.putObj_heap_other fun e' => by rw [e', h3.raw.2.1] at e; cases e
    have hc4 := hbx4.cell
    clear hW4
    refine ⟨none, W4, hend, ?_⟩
    rw [hs3] at hK4
    gi_wp2
    refine ⟨by simp, .inl ⟨_, _, rfl, run_takeDeferred hK4, ?_⟩⟩
    have hb5 : Below w.heap.size w (W4.putObj (w.heap.size + 3) (.deferred none)) := Below.of_grown hb4 (grownBy_putObj' _ _ _) hb4.size (fun k e => by cases e; omega)
    refine ⟨_, results_tmp rfl _ _ _, ?_⟩
    have hwi5 : WI (Gn I) (W4.putObj (w.heap.size + 3) (.deferred none)) := wi_turn hwi4 hb4 hb5 (ht I) (by simp) fun b hb' ⟨o, y, e⟩ => by
      refine World.putObj_heap_other fun e' => ?_
      have := h3.raw.2.2 o
      rw [hs3, ← e', e] at this
      cases this
    rw [List.nil_append] at hus
    obtain ⟨I', r1, r2, r3, r4⟩ := row_data hwi5 (ownsRow_putObj hrow4 _ hK4 rfl) hg hus
    have holdI : ∀ b, b < w.heap.size → ∀ o, I' b o = G.I b o := fun b hb o => (r4 b (by omega) o).trans (h3.old b hb o)
    exact ⟨v, I', rfl, r3, r2, hb5, fun b o y h => by rw [holdI b (I_lt hwn h)]; exact h, holdI⟩
def pWords : Prim
  | [.c (.pv (.sl c))], [] => match decVals c with
    | some vs => if vs.length ≤ 100000000 then some (.c (.pv (.sl (encPP (full (cutL SR.isBlank vs))))), []) else none
    | none => none
  | [.c .nils], [] => some (.c (.pv (.sl [])), [])
  | _, _ => none
theorem pWords_ok {args : List AV} {bxs : List (List CV)} {x : AV × List (List CV)} (h : pWords args bxs = some x) : Contract Tryz.prog 271 args bxs (.ret x.1 x.2) := by
  unfold pWords at h
  split at h
  · rename_i c
    split at h
    case h_2 => cases h
    rename_i vs hdec
    split at h
    case isFalse => cases h
    rename_i hlen
    cases h
    have hc := decAll_enc (decVn_enc _) hdec
    subst hc
    refine cut_contract fun hw hargs => ?_
    obtain ⟨x, rfl, hx⟩ := args_one hargs
    exact words_at hw hx hlen
  · cases h
    refine cut_contract (l := []) fun hw hargs => ?_
    obtain ⟨x, rfl, hx⟩ := args_one hargs
    obtain rfl : x = .slice none 0 0 := hx
    exact words_at (vs := []) hw (.sl0 _ _) (by simp)
  · cases h
end Go.Abs
namespace Go.Abs
open Go Go.Proofs Go.RowKit
def lowB (b : UInt8) : UInt8 := if 65 ≤ b ∧ b ≤ 90 then b + 32 else b
structure LowInv (w : World) (s : ByteArray) (e : TypeId) (B cap : Nat) (wr : World) (k : Nat) : Prop where
  bel : Below w.heap.size w wr
  row : ∃ cur N, wr.heap[B]? = some (.cells cur e (N, N + 1)) ∧ cur.size = N ∧ s.size ≤ N ∧ ∀ (j : Nat) (b : UInt8), s.data.toList[j]? = some b → cur[j]? = some (.int .u8 ((if j < k then lowB b else b).toNat : Int))
theorem lowB_in {b : UInt8} (h1 : 65 ≤ (b.toNat : Int)) (h2 : (b.toNat : Int) ≤ 90) : ((lowB b).toNat : Int) = b.toNat + 32 := by
  unfold lowB
  have e1 : (65 : UInt8) ≤ b := by rw [UInt8.le_iff_toNat_le]; show 65 ≤ _; omega
  have e2 : b ≤ (90 : UInt8) := by rw [UInt8.le_iff_toNat_le]; show _ ≤ 90; omega
  rw [if_pos ⟨e1, e2⟩, UInt8.toNat_add]
  show (((b.toNat + 32) % 256 : Nat) : Int) = _
  omega
theorem lowB_out {b : UInt8} (h : ¬ (65 ≤ (b.toNat : Int) ∧ (b.toNat : Int) ≤ 90)) : lowB b = b := by
  unfold lowB
  rw [if_neg]
  rintro ⟨e1, e2⟩
  rw [UInt8.le_iff_toNat_le] at e1 e2
  have e1 : 65 ≤ b.toNat := e1
  have e2 : b.toNat ≤ 90 := e2
  omega
theorem LowInv.step {w wr : World} {s : ByteArray} {e : TypeId} {cap k : Nat} {b : UInt8} (h : LowInv w s e w.heap.size cap wr k) (hb : s.data.toList[k]? = some b) (h1 : 65 ≤ (b.toNat : Int)) (h2 : (b.toNat : Int) ≤ 90) :
    LowInv w s e w.heap.size cap (wr.setCell ⟨w.heap.size, k, none⟩ (.int .u8 (b.toNat + 32))) (k + 1) := by
  obtain ⟨hbel, cur, N, h3, h4, h5, h6⟩ := h
  refine ⟨hbel.setCell (p := ⟨w.heap.size, k, none⟩) (Nat.le_refl _) _, cur.setIfInBounds k (.int .u8 (b.toNat + 32)), N, ?_, by simpa using h4, h5, fun j c hj => ?_⟩
  · rw [setCell_row h3]; exact setRow_heap wr _ cur _ e _ h3
  · by_cases hjk : j = k
    · subst hjk
      rw [hb] at hj; cases hj
      rw [if_pos (by omega), lowB_in h1 h2]
      have := h6 j b hb
      have hlt := (Array.getElem?_eq_some_iff.1 this).1
      simp [hlt]
    · have := h6 j c hj
      rw [Array.getElem?_setIfInBounds_ne (Ne.symm hjk), this]
      by_cases hlt : j < k
      · rw [if_pos hlt, if_pos (by omega)]
      · rw [if_neg hlt, if_neg (by omega)]
theorem LowInv.skip {w wr : World} {s : ByteArray} {e : TypeId} {cap k : Nat} {b : UInt8} (h : LowInv w s e w.heap.size cap wr k) (hb : s.data.toList[k]? = some b) (h1 : ¬ (65 ≤ (b.toNat : Int) ∧ (b.toNat : Int) ≤ 90)) :
    LowInv w s e w.heap.size cap wr (k + 1) := by
  obtain ⟨hbel, cur, N, h3, h4, h5, h6⟩ := h
  refine ⟨hbel, cur, N, h3, h4, h5, fun j c hj => ?_⟩
  by_cases hjk : j = k
  · subst hjk
    rw [hb] at hj; cases hj
    rw [if_pos (by omega), h6 j b hb, if_neg (by omega), lowB_out h1]
  · rw [h6 j c hj]
    by_cases hlt : j < k
    · rw [if_pos hlt, if_pos (by omega)]
    · rw [if_neg hlt, if_neg (by omega)]
set_option maxHeartbeats 1000000 in
set_option maxRecDepth 100000 in
theorem low_walk (s : ByteArray) (w : World) (hs : s.size < 4611686018427387904) :
    Calls Tryz.prog 76 #[.string s] w fun e w' => e = .returned (.string ⟨(s.data.toList.map lowB).toArray⟩) ∧ Below w.heap.size w w' := by
  go_enter Tryz.func76, Tryz.ntmps76
  go_wp2
  rw [run_bytes_of_string _ 9 98 5 s (by exact Tryz.underlying9) (by exact Tryz.underlying98) (by exact Tryz.underlying5)]
  simp only [Result.andThen]
  rw [Oper.upon_value]
  have h0 : LowInv w s 5 w.heap.size (grownCap w s.size 0 5) (w.drew.alloc (.cells (bytesRow s (grownCap w s.size 0 5)) 5 ((bytesRow s (grownCap w s.size 0 5)).size, (bytesRow s (grownCap w s.size 0 5)).size + 1))) 0 := by
    refine ⟨(Below.drew (Below.refl _ _)).alloc (Nat.le_refl _) _, _, _, heap_alloc_new w.drew _, rfl, ?_, fun j b hj => ?_⟩
    · show s.data.size ≤ _
      unfold bytesRow; rw [Array.size_append]; simp
    · unfold bytesRow
      have hlt := (List.getElem?_eq_some_iff.1 hj).1
      rw [Array.getElem?_append_left (by simpa using hlt)]
      simp at hj
      simp [hj]
  revert h0
  generalize w.drew.alloc (.cells (bytesRow s (grownCap w s.size 0 5)) 5 ((bytesRow s (grownCap w s.size 0 5)).size, (bytesRow s (grownCap w s.size 0 5)).size + 1)) = w1
  generalize grownCap w s.size 0 5 = cap
  intro h0
  have H0 : Hid (LowInv w s 5 w.heap.size cap w1 0) := h0
  clear h0
  have hsn : s.data.toList.length = s.size := by show _ = s.data.size; simp
  go_wp2
  go_loopw [4] (fun vi wr => ∃ k : Nat, k ≤ s.size ∧ vi = .int .i64 k ∧ Hid (LowInv w s 5 w.heap.size cap wr k)) (fun vi _ => s.size - (RowKit.intOf vi).toNat)
  case atStart => exact ⟨0, Nat.zero_le _, rfl, H0⟩
  case round =>
    obtain ⟨k, hk, rfl, HI⟩ := hrel
    obtain ⟨b, hb⟩ : ∃ b : UInt8, k < s.size → s.data.toList[k]? = some b := by
      by_cases hlt : k < s.size
      · exact ⟨s.data.toList[k]'(by omega), fun _ => by simp⟩
      · exact ⟨0, fun h => absurd h hlt⟩
    have hc : k < s.size → wr.cell? ⟨w.heap.size, k, none⟩ = some (.int .u8 (b.toNat : Int)) := fun h => by
      obtain ⟨cur, N, h1, h2, h3, h4⟩ := HI.out.row
      rw [cell_of_heap h1, h4 k b (hb h), if_neg (by omega)]
    have hf : k < s.size → wr.frozen? ⟨w.heap.size, k, none⟩ = false := fun h => by
      obtain ⟨cur, N, h1, h2, h3, h4⟩ := HI.out.row
      simp [World.frozen?, h1]; omega
    have HB : Hid (k < s.size → s.data.toList[k]? = some b) := hb
    clear hb
    go_wp2
    · have hlt : k < s.size := by assumption
      go_roundw
      case rel => exact ⟨k + 1, by omega, by go_num, HI.out.step (HB.out hlt) (by omega) (by omega)⟩
      case measure => simp [RowKit.intOf]; omega
    · have hlt : k < s.size := by assumption
      go_roundw
      case rel => exact ⟨k + 1, by omega, by go_num, HI.out.skip (HB.out hlt) (by omega)⟩
      case measure => simp [RowKit.intOf]; omega
    · have hlt : k < s.size := by assumption
      go_roundw
      case rel => exact ⟨k + 1, by omega, by go_num, HI.out.skip (HB.out hlt) (by omega)⟩
      case measure => simp [RowKit.intOf]; omega
    · have hkn : k = s.size := by omega
      obtain ⟨hbel, cur, N, h3, h4, h5, h6⟩ := HI.out
      rw [run_convert_bytes_string wr 98 9 5 _ _ _ (by exact Tryz.underlying98) (by exact Tryz.underlying5) (by exact Tryz.underlying9)]
      have hload : (loadCells ⟨w.heap.size, 0, none⟩ s.size).run Tryz.prog wr = .ok ((s.data.toList.map fun b => ((lowB b).toNat : Int)).map (Value.int .u8)).toArray wr := by
        have := run_loadCells_list (P := Tryz.prog) wr ⟨w.heap.size, 0, none⟩ ((s.data.toList.map fun b => ((lowB b).toNat : Int)).map (Value.int .u8)) (fun j y hy => by
          have hadd : (⟨w.heap.size, 0, none⟩ : Addr).add j = ⟨w.heap.size, 0 + j, none⟩ := by simp only [Addr.add]; split <;> simp_all
          rw [hadd]
          rw [List.getElem?_map, List.getElem?_map, Option.map_eq_some_iff] at hy
          obtain ⟨n, hn, rfl⟩ := hy
          rw [Option.map_eq_some_iff] at hn
          obtain ⟨c, hc', rfl⟩ := hn
          have hjl := (List.getElem?_eq_some_iff.1 hc').1
          rw [cell_of_heap h3, Nat.zero_add, h6 j c hc', if_pos (by omega)])
        rw [← this]; congr 2; simp
      rw [run_bytesToString wr _ _ _ _ hload]
      have hpush := fold_push (s.data.toList.map fun b => ((lowB b).toNat : Int)) []
      have hmap : ([] ++ (s.data.toList.map fun b => ((lowB b).toNat : Int)).map fun n => UInt8.ofNat n.toNat) = s.data.toList.map lowB := by
        rw [List.nil_append, List.map_map]
        exact List.map_congr_left fun b _ => by simp
      rw [hmap] at hpush
      rw [show ByteArray.empty = ByteArray.mk [].toArray from rfl, hpush]
      simp only [Result.andThen]
      rw [Oper.upon_value]
      go_wp2
      go_ret
      exact ⟨rfl, hbel⟩
def pLow : Prim
  | [.c (.pv (.str s))], [] => if s.length < strLim then some (.c (.pv (.str (s.map lowB))), []) else none
  | _, _ => none
theorem pLow_ok {args : List AV} {bxs : List (List CV)} {x : AV × List (List CV)} (h : pLow args bxs = some x) : Contract Tryz.prog 76 args bxs (.ret x.1 x.2) := by
  unfold pLow at h
  split at h
  case h_2 => cases h
  rename_i s
  split at h
  case isFalse => cases h
  rename_i hs
  cases h
  refine contract_data fun G w cargs hw hargs => ?_
  obtain ⟨x, rfl, hx⟩ := args_one hargs
  cases hx.strv
  refine (low_walk ⟨s.toArray⟩ w (by show s.toArray.size < _; simpa [strLim] using hs)).mono ?_
  rintro e w' ⟨rfl, hb⟩
  exact ⟨_, rfl, .str _, hb⟩
end Go.Abs
namespace Go.Abs
open Go Go.Proofs Go.RowKit
set_option maxHeartbeats 1000000 in
set_option maxRecDepth 100000 in
theorem small_walk (s : ByteArray) (w : World) (hs : s.size < 4611686018427387904) :
    Calls Tryz.prog 171 #[.string s] w fun e w' => e = .returned (.string ⟨(s.data.toList.map lowB).toArray⟩) ∧ Below w.heap.size w w' := by
  go_enter Tryz.func171, Tryz.ntmps171
  go_wp2
  rw [run_bytes_of_string _ 9 98 5 s (by exact Tryz.underlying9) (by exact Tryz.underlying98) (by exact Tryz.underlying5)]
  simp only [Result.andThen]
  rw [Oper.upon_value]
  have h0 : LowInv w s 5 w.heap.size (grownCap w s.size 0 5) (w.drew.alloc (.cells (bytesRow s (grownCap w s.size 0 5)) 5 ((bytesRow s (grownCap w s.size 0 5)).size, (bytesRow s (grownCap w s.size 0 5)).size + 1))) 0 := by
    refine ⟨(Below.drew (Below.refl _ _)).alloc (Nat.le_refl _) _, _, _, heap_alloc_new w.drew _, rfl, ?_, fun j b hj => ?_⟩
    · show s.data.size ≤ _
      unfold bytesRow; rw [Array.size_append]; simp
    · unfold bytesRow
      have hlt := (List.getElem?_eq_some_iff.1 hj).1
      rw [Array.getElem?_append_left (by simpa using hlt)]
      simp at hj
      simp [hj]
  revert h0
  generalize w.drew.alloc (.cells (bytesRow s (grownCap w s.size 0 5)) 5 ((bytesRow s (grownCap w s.size 0 5)).size, (bytesRow s (grownCap w s.size 0 5)).size + 1)) = w1
  generalize grownCap w s.size 0 5 = cap
  intro h0
  have H0 : Hid (LowInv w s 5 w.heap.size cap w1 0) := h0
  clear h0
  have hsn : s.data.toList.length = s.size := by show _ = s.data.size; simp
  go_wp2
  go_loopw [10] (fun vi wr => ∃ k : Nat, k ≤ s.size ∧ vi = .int .i64 k ∧ Hid (LowInv w s 5 w.heap.size cap wr k)) (fun vi _ => s.size - (RowKit.intOf vi).toNat)
  case atStart => exact ⟨0, Nat.zero_le _, rfl, H0⟩
  case round =>
    obtain ⟨k, hk, rfl, HI⟩ := hrel
    obtain ⟨b, hb⟩ : ∃ b : UInt8, k < s.size → s.data.toList[k]? = some b := by
      by_cases hlt : k < s.size
      · exact ⟨s.data.toList[k]'(by omega), fun _ => by simp⟩
      · exact ⟨0, fun h => absurd h hlt⟩
    have hc : k < s.size → wr.cell? ⟨w.heap.size, k, none⟩ = some (.int .u8 (b.toNat : Int)) := fun h => by
      obtain ⟨cur, N, h1, h2, h3, h4⟩ := HI.out.row
      rw [cell_of_heap h1, h4 k b (hb h), if_neg (by omega)]
    have hf : k < s.size → wr.frozen? ⟨w.heap.size, k, none⟩ = false := fun h => by
      obtain ⟨cur, N, h1, h2, h3, h4⟩ := HI.out.row
      simp [World.frozen?, h1]; omega
    have HB : Hid (k < s.size → s.data.toList[k]? = some b) := hb
    clear hb
    go_wp2
    · have hlt : k < s.size := by assumption
      go_roundw
      case rel => exact ⟨k + 1, by omega, by go_num, by
        have h97 : ((b.toNat : Int) + 97 - 65) = (b.toNat : Int) + 32 := by omega
        rw [h97]
        exact HI.out.step (HB.out hlt) (by omega) (by omega)⟩
      case measure => simp [RowKit.intOf]; omega
    · have hlt : k < s.size := by assumption
      go_roundw
      case rel => exact ⟨k + 1, by omega, by go_num, HI.out.skip (HB.out hlt) (by omega)⟩
      case measure => simp [RowKit.intOf]; omega
    · have hlt : k < s.size := by assumption
      go_roundw
      case rel => exact ⟨k + 1, by omega, by go_num, HI.out.skip (HB.out hlt) (by omega)⟩
      case measure => simp [RowKit.intOf]; omega
    · have hkn : k = s.size := by omega
      obtain ⟨hbel, cur, N, h3, h4, h5, h6⟩ := HI.out
      rw [run_convert_bytes_string wr 98 9 5 _ _ _ (by exact Tryz.underlying98) (by exact Tryz.underlying5) (by exact Tryz.underlying9)]
      have hload : (loadCells ⟨w.heap.size, 0, none⟩ s.size).run Tryz.prog wr = .ok ((s.data.toList.map fun b => ((lowB b).toNat : Int)).map (Value.int .u8)).toArray wr := by
        have := run_loadCells_list (P := Tryz.prog) wr ⟨w.heap.size, 0, none⟩ ((s.data.toList.map fun b => ((lowB b).toNat : Int)).map (Value.int .u8)) (fun j y hy => by
          have hadd : (⟨w.heap.size, 0, none⟩ : Addr).add j = ⟨w.heap.size, 0 + j, none⟩ := by simp only [Addr.add]; split <;> simp_all
          rw [hadd]
          rw [List.getElem?_map, List.getElem?_map, Option.map_eq_some_iff] at hy
          obtain ⟨n, hn, rfl⟩ := hy
          rw [Option.map_eq_some_iff] at hn
          obtain ⟨c, hc', rfl⟩ := hn
          have hjl := (List.getElem?_eq_some_iff.1 hc').1
          rw [cell_of_heap h3, Nat.zero_add, h6 j c hc', if_pos (by omega)])
        rw [← this]; congr 2; simp
      rw [run_bytesToString wr _ _ _ _ hload]
      have hpush := fold_push (s.data.toList.map fun b => ((lowB b).toNat : Int)) []
      have hmap : ([] ++ (s.data.toList.map fun b => ((lowB b).toNat : Int)).map fun n => UInt8.ofNat n.toNat) = s.data.toList.map lowB := by
        rw [List.nil_append, List.map_map]
        exact List.map_congr_left fun b _ => by simp
      rw [hmap] at hpush
      rw [show ByteArray.empty = ByteArray.mk [].toArray from rfl, hpush]
      simp only [Result.andThen]
      rw [Oper.upon_value]
      go_wp2
      go_ret
      exact ⟨rfl, hbel⟩
def pSmall : Prim
  | [.c (.pv (.str s))], [] => if s.length < strLim then some (.c (.pv (.str (s.map lowB))), []) else none
  | _, _ => none
theorem pSmall_ok {args : List AV} {bxs : List (List CV)} {x : AV × List (List CV)} (h : pSmall args bxs = some x) : Contract Tryz.prog 171 args bxs (.ret x.1 x.2) := by
  unfold pSmall at h
  split at h
  case h_2 => cases h
  rename_i s
  split at h
  case isFalse => cases h
  rename_i hs
  cases h
  refine contract_data fun G w cargs hw hargs => ?_
  obtain ⟨x, rfl, hx⟩ := args_one hargs
  cases hx.strv
  refine (small_walk ⟨s.toArray⟩ w (by show s.toArray.size < _; simpa [strLim] using hs)).mono ?_
  rintro e w' ⟨rfl, hb⟩
  exact ⟨_, rfl, .str _, hb⟩
end Go.Abs
namespace Go.Abs
open Go Go.Proofs Go.RowKit
section
variable {P : Program}
theorem alloc_set (w : World) (o o' : Obj) : { w.alloc o with heap := (w.alloc o).heap.setIfInBounds w.heap.size o' } = w.alloc o' := by
  simp only [World.alloc]
  congr 1
  apply Array.ext'
  simp [Array.setIfInBounds, Array.toList_push]
theorem run_insert_new {t key elem : TypeId} {k : IntKind} (ht : P.underlying t = some (.map key elem)) (hk : P.underlying key = some (.int k)) (w : World) (es : Array MapEntry) (clock : Nat) (n : Int) (v : Value)
    (hall : es.toList.all (fun e => match e.key with | .int k' _ => k' == k | _ => false) = true) (hf : es.toList.find? (keyIs k n) = none) :
    (Instr.mapUpdate t (.map (some w.heap.size)) (.int k n) v).run P (w.alloc (.map es clock)) = .ok () (w.alloc (.map (es.push { key := .int k n, val := v, born := clock }) (clock + 1))) := by
  have hh : (w.alloc (.map es clock)).heap[w.heap.size]? = some (.map es clock) := heap_alloc_new w _
  have hget : (getObj w.heap.size).run P (w.alloc (.map es clock)) = .ok (.map es clock) (w.alloc (.map es clock)) := by simp only [getObj, Sem.run, hh]
  have hck := checkKey_int (P := P) (w := w.alloc (.map es clock)) hk false 9999 (.int k n)
  have hnow : Instr.findNow (.int k) (.int k n) es.toList 0 = some none := by
    rcases findNow_int (n := n) 0 hall with ⟨_, h2⟩ | ⟨e, j, h1, _⟩
    · exact h2
    · rw [hf] at h1; cases h1
  have hfind : (Instr.findKey key (.int k n) es.toList).run P (w.alloc (.map es clock)) = .ok none (w.alloc (.map es clock)) := by
    unfold Instr.findKey
    simp only [Sem.run_bind, run_underlying hk, Result.andThen_ok, hnow]
    rfl
  have hset : (setObj w.heap.size (.map (es.push { key := .int k n, val := v, born := clock }) (clock + 1))).run P (w.alloc (.map es clock)) = .ok () (w.alloc (.map (es.push { key := .int k n, val := v, born := clock }) (clock + 1))) := by
    have : w.heap.size < (w.alloc (.map es clock)).heap.size := by rw [alloc_size]; omega
    simp only [setObj, Sem.run, hh]
    exact congrArg (Result.ok ()) (alloc_set w _ _)
  unfold Instr.mapUpdate
  simp only [Sem.run_bind, run_underlying ht, Result.andThen_ok, hget, hck, hfind, hset]
theorem newObj_gr {G : Gh} {w : World} {o : Option Own} (hw : WI G w) (ob : Obj) (ho : ∀ s, o ≠ some (.box s)) :
    Gr (fun _ => False) G w { G with ow := upd G.ow w.heap.size o } (w.alloc ob) ∧ WI { G with ow := upd G.ow w.heap.size o } (w.alloc ob) := by
  refine ⟨⟨⟨fun _ _ _ h => h, fun c hc hn => ⟨?_, heap_old w _ c hc, fun k => rfl⟩, by rw [alloc_size]; omega, rfl, rfl, rfl, fun k hk => rfl⟩, fun s b hb => hb, fun b ℓ hb _ => ⟨?_, heap_old w _ b (ow_lt hw hb), fun k => rfl⟩⟩, ⟨fun b k y h => ?_, fun b hb => ?_, fun b s hb k => ?_, fun s b hb => ?_, hw.tab.map fun c hc hn => ⟨by show upd G.ow w.heap.size _ c = none; unfold upd; rw [if_neg (by omega)]; exact hn, heap_old w _ c hc⟩⟩⟩
  · show upd G.ow w.heap.size _ c = none
    unfold upd; rw [if_neg (by omega)]; exact hn
  · have := ow_lt hw hb
    show upd G.ow w.heap.size _ b = _
    unfold upd; rw [if_neg (by omega)]; exact hb
  · rw [cell_alloc_old w _ (I_lt hw h)]; exact hw.cell b k y h
  · rw [alloc_size] at hb
    refine ⟨fun k => (hw.fresh b (by omega)).1 k, ?_⟩
    show upd G.ow w.heap.size _ b = none
    unfold upd; rw [if_neg (by omega)]; exact (hw.fresh b (by omega)).2
  · have hb' : upd G.ow w.heap.size o b = some (.box s) := hb
    unfold upd at hb'
    split at hb'
    · exact absurd hb' (ho s)
    · exact hw.boxI b s hb' k
  · have h1 := hw.bbow s b hb
    have h2 := ow_lt hw h1
    show upd G.ow w.heap.size _ b = _
    unfold upd; rw [if_neg (by omega)]; exact h1
end
abbrev pairV (a b : UInt8) : Value := .agg #[.string ⟨#[a]⟩, .string ⟨#[b]⟩]
def pairsE : List MapEntry := [{ key := .int .i64 2, val := pairV 40 41, born := 0 }, { key := .int .i64 3, val := pairV 91 93, born := 1 }, { key := .int .i64 4, val := pairV 123 125, born := 2 }]
set_option maxHeartbeats 4000000 in
set_option maxRecDepth 100000 in
theorem pairs_calls (w : World) : Calls Tryz.prog 219 #[] w fun e w' => e = .returned (.map (some w.heap.size)) ∧ w' = w.alloc (.map pairsE.toArray 3) := by
  have ht : Tryz.prog.underlying 225 = some (.map 3 223) := by kernel_rfl
  have hk : Tryz.prog.underlying 3 = some (.int .i64) := by kernel_rfl
  have h1 := run_insert_new ht hk w #[] 0 2 (pairV 40 41) rfl rfl
  have h2 := run_insert_new ht hk w #[{ key := .int .i64 2, val := pairV 40 41, born := 0 }] 1 3 (pairV 91 93) rfl rfl
  have h3 := run_insert_new ht hk w #[{ key := .int .i64 2, val := pairV 40 41, born := 0 }, { key := .int .i64 3, val := pairV 91 93, born := 1 }] 2 4 (pairV 123 125) rfl rfl
  have hm := run_makeMap_plain (P := Tryz.prog) (w := w) 225
  go_enter Tryz.func219, Tryz.ntmps219
  go_wp2
  go_ret
  exact ⟨rfl, rfl⟩
def pPairs : Prim
  | [], [] => some (.c (.cmap pairsE), [])
  | _, _ => none
theorem pPairs_ok {args : List AV} {bxs : List (List CV)} {x : AV × List (List CV)} (h : pPairs args bxs = some x) : Contract Tryz.prog 219 args bxs (.ret x.1 x.2) := by
  unfold pPairs at h
  split at h
  case h_2 => cases h
  cases h
  intro G w cargs hw hargs _ _ _
  cases hargs
  refine (pairs_calls w).mono ?_
  rintro e w' ⟨rfl, rfl⟩
  obtain ⟨g, hw'⟩ := newObj_gr (o := some .ret) hw (.map pairsE.toArray 3) (fun s => by simp)
  exact ⟨_, g.ext, hw', _, rfl, ⟨w.heap.size, 3, rfl, by simp [upd], heap_alloc_new w _⟩, rfl, fun i l h => by simp at h⟩
end Go.Abs
namespace Go.Abs
open Go Go.Proofs Go.RowKit Go.ChangeMaps
abbrev tokV (k : Int) (s : ByteArray) (n : Int) : Value := .agg #[.int .i64 k, .string s, .int .i64 n]
abbrev tokO (k : Int) (s : ByteArray) (n : Int) : Obj := .cells #[.int .i64 k, .string s, .int .i64 n] 47
set_option maxHeartbeats 4000000 in
set_option maxRecDepth 100000 in
theorem delim_calls (s : ByteArray) (w : World) : Calls Tryz.prog 220 #[.string s] w fun e w' => e = .returned (tokV 7 s 0) ∧ w' = w.alloc (tokO 7 s 0) := by
  have mixed : Tryz.prog.follows .mixedOrders = true := by kernel_rfl
  go_enter Tryz.func220, Tryz.ntmps220
  go_wp2
  exact bodyPost_ret (v := tokV 7 s 0) (by simp [results, Tryz.results220, go_sem]) rfl ⟨rfl, rfl⟩
def firstOf (n : Int) : ByteArray := if n = 2 then ⟨#[40]⟩ else if n = 3 then ⟨#[91]⟩ else ⟨#[123]⟩
def opensI (k : Int) (s : ByteArray) (n : Int) : Int :=
  if k = 2 then 5 else if k = 7 ∧ n = 0 then (if s = ⟨#[40]⟩ then 2 else if s = ⟨#[91]⟩ then 3 else if s = ⟨#[123]⟩ then 4 else 0) else 0
structure Loop1 (w wr : World) (k : Int) (s : ByteArray) (n : Int) (since : Nat) (seen : Array Nat) (c0 : Nat) : Prop where
  bel : Below w.heap.size w wr
  tok : wr.heap[w.heap.size]? = some (tokO k s n)
  map : wr.heap[w.heap.size + 1]? = some (.map pairsE.toArray 3)
  it : wr.heap[w.heap.size + 2]? = some (.mapIter (some (w.heap.size + 1)) since seen c0)
  since3 : since = 3 ∧ c0 = 3
  no : ∀ x ∈ pairsE, seen.contains x.born = true → ∀ m, x.key = .int .i64 m → ¬ (k = 7 ∧ s = firstOf m ∧ n = 0)
set_option maxHeartbeats 8000000 in
set_option maxRecDepth 100000 in
theorem opens_calls (k : Int) (s : ByteArray) (n : Int) (w : World) : Calls Tryz.prog 272 #[tokV k s n] w fun e w' => e = .returned (.int .i64 (opensI k s n)) ∧ Below w.heap.size w w' := by
  have mixed : Tryz.prog.follows .mixedOrders = true := by kernel_rfl
  have e30 : ∀ args w, (callFunc 219 args).run Tryz.prog w = .ok (.enter 219 args) w := enters_of Tryz.func219 (by kernel_rfl) rfl
  have e31 : ∀ args w, (callFunc 220 args).run Tryz.prog w = .ok (.enter 220 args) w := enters_of Tryz.func220 (by kernel_rfl) rfl
  have ut : Tryz.prog.underlying 225 = some (.map 3 223) := by kernel_rfl
  by_cases h2 : k = 2
  · subst h2
    go_enter Tryz.func272, Tryz.ntmps272
    go_wp2
    go_ret
    exact ⟨rfl, (Below.refl _ _).alloc (Nat.le_refl _) _⟩
  · have hk : (k == 2) = false := by simpa using h2
    have hrg := run_range_map (P := Tryz.prog) ((w.alloc (tokO k s n)).alloc (.map pairsE.toArray 3)) 225 3 223 (w.heap.size + 1) pairsE.toArray 3 ut (by
      have := heap_alloc_new (w.alloc (tokO k s n)) (.map pairsE.toArray 3)
      rwa [alloc_size] at this)
    go_enter Tryz.func272, Tryz.ntmps272
    go_wp2_with (go_at_call 219; refine (pairs_calls _).mono ?_; rintro e w' ⟨rfl, rfl⟩)
    go_loopw [] (fun wr => ∃ since seen c0, Loop1 w wr k s n since seen c0) (fun wr => (leftOf pairsE.toArray (wr.iterSeen (w.heap.size + 2))).size)
    case atStart =>
      refine ⟨3, #[], 3, ?_⟩
      have a1 : ∀ (w : World) (o : Obj) (i : Nat), i < w.heap.size → (w.alloc o).heap[i]? = w.heap[i]? := fun w o i h => heap_old w o i h
      refine ⟨(((Below.refl _ _).alloc (Nat.le_refl _) _).alloc (by simp) _).alloc (by simp; omega) _, ?_, ?_, ?_, ⟨rfl, rfl⟩, fun x hx h => by simp at h⟩
      · rw [a1 _ _ _ (by simp; omega), a1 _ _ _ (by simp), heap_alloc_new]
      · rw [a1 _ _ _ (by simp)]
        have := heap_alloc_new (w.alloc (tokO k s n)) (.map pairsE.toArray 3)
        rwa [alloc_size] at this
      · have := heap_alloc_new ((w.alloc (tokO k s n)).alloc (.map pairsE.toArray 3)) (.mapIter (some (w.heap.size + 1)) 3 #[] 3)
        rwa [alloc_size, alloc_size] at this
    case round =>
      obtain ⟨since, seen, c0, hl⟩ := hrel
      rcases run_next_at (P := Tryz.prog) wr 0 (w.heap.size + 2) (w.heap.size + 1) since c0 seen pairsE.toArray 3 hl.it hl.map (by rw [hl.since3.1]; decide) (by rw [hl.since3.1, hl.since3.2]; decide) with ⟨h0, hrun⟩ | ⟨e, he, w1, hw1, hrun⟩
      · have hnx : ∀ ty, (Instr.next (.pointer (some ⟨w.heap.size + 2, 0, none⟩)) false ty).run Tryz.prog wr = _ := fun _ => hrun
        go_wp2
        go_ret
        refine ⟨?_, hl.bel⟩
        have hs : ∀ x ∈ pairsE, seen.contains x.born = true := fun x hx => all_seen pairsE.toArray seen h0 x (by simpa using hx)
        have n2 : ¬ (k = 7 ∧ s = ⟨#[40]⟩ ∧ n = 0) := hl.no _ (List.mem_cons_self) (hs _ List.mem_cons_self) 2 rfl
        have n3 : ¬ (k = 7 ∧ s = ⟨#[91]⟩ ∧ n = 0) := hl.no _ (List.mem_cons_of_mem _ List.mem_cons_self) (hs _ (List.mem_cons_of_mem _ List.mem_cons_self)) 3 rfl
        have n4 : ¬ (k = 7 ∧ s = ⟨#[123]⟩ ∧ n = 0) := hl.no _ (List.mem_cons_of_mem _ (List.mem_cons_of_mem _ List.mem_cons_self)) (hs _ (List.mem_cons_of_mem _ (List.mem_cons_of_mem _ List.mem_cons_self))) 4 rfl
        unfold opensI
        rw [if_neg h2]
        by_cases hkn : k = 7 ∧ n = 0
        · rw [if_pos hkn]
          have m2 : ¬ s = ⟨#[40]⟩ := fun h => n2 ⟨hkn.1, h, hkn.2⟩
          have m3 : ¬ s = ⟨#[91]⟩ := fun h => n3 ⟨hkn.1, h, hkn.2⟩
          have m4 : ¬ s = ⟨#[123]⟩ := fun h => n4 ⟨hkn.1, h, hkn.2⟩
          rw [if_neg m2, if_neg m3, if_neg m4]
          rfl
        · rw [if_neg hkn]
          rfl
      · have hmem : e ∈ pairsE := by simpa using (mem_left he).1
        obtain ⟨m, a, b, hkey, hval, hfm, hm3⟩ : ∃ m a b, e.key = .int .i64 m ∧ e.val = pairV a b ∧ firstOf m = ⟨#[a]⟩ ∧ (m = 2 ∨ m = 3 ∨ m = 4) := by
          simp only [pairsE, List.mem_cons, List.not_mem_nil, or_false] at hmem
          rcases hmem with rfl | rfl | rfl
          · exact ⟨2, 40, 41, rfl, rfl, rfl, .inl rfl⟩
          · exact ⟨3, 91, 93, rfl, rfl, rfl, .inr (.inl rfl)⟩
          · exact ⟨4, 123, 125, rfl, rfl, rfl, .inr (.inr rfl)⟩
        have hr1 : w1.heap = wr.heap := by rcases hw1 with rfl | rfl <;> rfl
        obtain ⟨W2, hW2⟩ : ∃ W, W = setBlock w1 (w.heap.size + 2) (.mapIter (some (w.heap.size + 1)) since (seen.push e.born) 3) := ⟨_, rfl⟩
        rw [← hW2, hkey, hval] at hrun
        have hh : ∀ i, i ≠ w.heap.size + 2 → W2.heap[i]? = wr.heap[i]? := by
          intro i hi
          subst hW2
          show (w1.heap.setIfInBounds _ _)[i]? = _
          rw [Array.getElem?_setIfInBounds_ne (by omega), hr1]
        have hit : W2.heap[w.heap.size + 2]? = some (.mapIter (some (w.heap.size + 1)) since (seen.push e.born) 3) := by
          subst hW2
          show (w1.heap.setIfInBounds _ _)[w.heap.size + 2]? = _
          have : w.heap.size + 2 < w1.heap.size := by rw [hr1]; exact (Array.getElem?_eq_some_iff.1 hl.it).1
          rw [Array.getElem?_setIfInBounds_self_of_lt this]
        have hbel2 : Below w.heap.size w W2 := by
          refine hl.bel.trans ?_
          subst hW2
          refine ⟨?_, ?_, ?_, ?_, fun i hi => ?_⟩
          · rcases hw1 with rfl | rfl <;> rfl
          · rcases hw1 with rfl | rfl <;> rfl
          · rcases hw1 with rfl | rfl <;> rfl
          · show wr.heap.size ≤ (w1.heap.setIfInBounds _ _).size
            rw [Array.size_setIfInBounds, hr1]
            exact Nat.le_refl _
          · exact hh i (by omega)
        have hnx : ∀ ty, (Instr.next (.pointer (some ⟨w.heap.size + 2, 0, none⟩)) false ty).run Tryz.prog wr = _ := fun _ => hrun
        have hen := run_entry_at (P := Tryz.prog) W2 (w.heap.size + 2) (w.heap.size + 1) since seen pairsE.toArray 3 e hit ((hh _ (by omega)).trans hl.map) (by simpa using hmem) (by decide)
        rw [hkey, hval] at hen
        have c0' : ∀ j, W2.cell? ⟨w.heap.size, j, none⟩ = wr.cell? ⟨w.heap.size, j, none⟩ := fun j => by simp only [World.cell?, hh w.heap.size (by omega)]
        have hc : ∀ j v, (tokV k s n).cells[j]? = some v → W2.cell? ⟨w.heap.size, j, none⟩ = some v := by
          intro j v h
          rw [c0' j]
          simp only [World.cell?, hl.tok]
          exact h
        have hen1 : (Instr.entry (.pointer (some ⟨w.heap.size + 1 + 1, 0, none⟩))).run Tryz.prog W2 = _ := hen
        have hsz : W2.heap.size = wr.heap.size := by
          rw [hW2]
          show (w1.heap.setIfInBounds _ _).size = _
          rw [Array.size_setIfInBounds, hr1]
        have htok := (hh w.heap.size (by omega)).trans hl.tok
        have hmap := (hh (w.heap.size + 1) (by omega)).trans hl.map
        have hrel0 : ∀ o o', (((W2.alloc o).alloc o').drew).heap[w.heap.size + 2]? = some (.mapIter (some (w.heap.size + 1)) since (seen.push e.born) 3) := fun o o' =>
          ((heap_old (W2.alloc o) o' _ (by rw [alloc_size]; have := (Array.getElem?_eq_some_iff.1 hit).1; omega)).trans (heap_old W2 o _ (Array.getElem?_eq_some_iff.1 hit).1)).trans hit
        have hlt : w.heap.size < W2.heap.size := (Array.getElem?_eq_some_iff.1 ((hh w.heap.size (by omega)).trans hl.tok)).1
        have d1 : ∀ (o : Obj) j, ((W2.alloc o).drew).cell? ⟨w.heap.size, j, none⟩ = W2.cell? ⟨w.heap.size, j, none⟩ := fun o j => World.cell?_alloc_past _ _ _ hlt
        have d2 : ∀ (o o' : Obj) j, (((W2.alloc o).drew.alloc o')).cell? ⟨w.heap.size, j, none⟩ = W2.cell? ⟨w.heap.size, j, none⟩ := fun o o' j => (World.cell?_alloc_past _ _ _ (by simp; omega)).trans (d1 o j)
        have d10 : ∀ (o : Obj), ((W2.alloc o).drew).cell? ⟨w.heap.size, 0, none⟩ = some (.int .i64 k) := fun o => (d1 o 0).trans (hc 0 _ rfl)
        have d11 : ∀ (o : Obj), ((W2.alloc o).drew).cell? ⟨w.heap.size, 1, none⟩ = some (.string s) := fun o => (d1 o 1).trans (hc 1 _ rfl)
        have d12 : ∀ (o : Obj), ((W2.alloc o).drew).cell? ⟨w.heap.size, 2, none⟩ = some (.int .i64 n) := fun o => (d1 o 2).trans (hc 2 _ rfl)
        have d20 : ∀ (o o' : Obj), ((W2.alloc o).drew.alloc o').cell? ⟨w.heap.size, 0, none⟩ = some (.int .i64 k) := fun o o' => (d2 o o' 0).trans (hc 0 _ rfl)
        have d21 : ∀ (o o' : Obj), ((W2.alloc o).drew.alloc o').cell? ⟨w.heap.size, 1, none⟩ = some (.string s) := fun o o' => (d2 o o' 1).trans (hc 1 _ rfl)
        have d22 : ∀ (o o' : Obj), ((W2.alloc o).drew.alloc o').cell? ⟨w.heap.size, 2, none⟩ = some (.int .i64 n) := fun o o' => (d2 o o' 2).trans (hc 2 _ rfl)
        have d30 : ∀ (o o' : Obj), ((W2.alloc o).alloc o').drew.cell? ⟨w.heap.size, 0, none⟩ = some (.int .i64 k) := d20
        have d31 : ∀ (o o' : Obj), ((W2.alloc o).alloc o').drew.cell? ⟨w.heap.size, 1, none⟩ = some (.string s) := d21
        have d32 : ∀ (o o' : Obj), ((W2.alloc o).alloc o').drew.cell? ⟨w.heap.size, 2, none⟩ = some (.int .i64 n) := d22
        clear d1 d2 hc c0' hh
        have hrel' : ∀ o o', ¬ (k = 7 ∧ s = firstOf m ∧ n = 0) → Loop1 w ((W2.alloc o).alloc o').drew k s n since (seen.push e.born) c0 := by
          intro o o' hne
          have hl2 : W2.heap.size = wr.heap.size := hsz
          have hp : ∀ i, i < W2.heap.size → (((W2.alloc o).alloc o').drew).heap[i]? = W2.heap[i]? := fun i hi =>
            (heap_old (W2.alloc o) o' i (by rw [alloc_size]; omega)).trans (heap_old W2 o i hi)
          have l2 : w.heap.size + 2 < W2.heap.size := (Array.getElem?_eq_some_iff.1 hit).1
          refine ⟨Below.drew ((hbel2.alloc (by omega) _).alloc (by simp; omega) _), ?_, ?_, ?_, hl.since3, ?_⟩
          · rw [hp _ (by omega)]; exact htok
          · rw [hp _ (by omega)]; exact hmap
          · rw [hp _ l2, hit, hl.since3.2]
          · intro x hx hc' m' hm'
            rw [contains_push] at hc'
            rcases Bool.or_eq_true _ _ ▸ hc' with h1 | h1
            · exact hl.no x hx h1 m' hm'
            · have hxe : x = e := born_inj (l := pairsE) (by decide) hx hmem (beq_iff_eq.1 h1)
              subst hxe
              rw [hkey] at hm'
              cases hm'
              exact hne
        have hmea : ∀ o o', (leftOf pairsE.toArray ((((W2.alloc o).alloc o').drew).iterSeen (w.heap.size + 2))).size < (leftOf pairsE.toArray (wr.iterSeen (w.heap.size + 2))).size := by
          intro o o'
          have hi := (hrel0 o o')
          have h1 : (((W2.alloc o).alloc o').drew).iterSeen (w.heap.size + 2) = seen.push e.born := by
            unfold World.iterSeen
            rw [hi]
          have h2 : wr.iterSeen (w.heap.size + 2) = seen := by
            unfold World.iterSeen
            rw [hl.it]
          rw [h1, h2]
          exact left_shrinks pairsE.toArray seen e he
        have hopen : k = 7 → s.toList = [a] → n = 0 → opensI k s n = m := by
          intro e1 e2 e3
          have e4 : s = firstOf m := by
            rw [hfm]
            rw [ByteArray.toList_eq] at e2
            obtain ⟨⟨x⟩⟩ := s
            simp only at e2
            rw [e2]
          unfold opensI
          rw [if_neg h2, if_pos ⟨e1, e3⟩, e4]
          rcases hm3 with rfl | rfl | rfl <;> rfl
        have hsz2 : w.heap.size ≤ W2.heap.size := by omega
        clear hW2 hsz htok hmap hrel0 hr1 hit hlt
        go_wp2
        clear hrun hnx hen hen1
        cases h7 : (k == 7)
        · have hne : ¬ (k = 7 ∧ s = firstOf m ∧ n = 0) := fun h => by simp [h.1] at h7
          go_region_with (go_at_call 220; refine (delim_calls _ _).mono ?_; rintro e w' ⟨rfl, rfl⟩)
          all_goals
            go_wp2
            exact ⟨⟨_, _, _, _, _, _, _, _, _, _, _, _, _, _, ⟨since, _, c0, hrel' _ _ hne⟩, rfl⟩, hmea _ _⟩
        · by_cases hs : s.toList = [a]
          · by_cases hn : n = 0
            · have hans : opensI k s n = m := hopen (by simpa using h7) hs hn
              go_region_with (go_at_call 220; refine (delim_calls _ _).mono ?_; rintro e w' ⟨rfl, rfl⟩)
              all_goals
                go_wp2
                go_ret
                refine ⟨by rw [hans]; rfl, Below.drew ((hbel2.alloc hsz2 _).alloc (by simp; omega) _)⟩
            · have hne : ¬ (k = 7 ∧ s = firstOf m ∧ n = 0) := fun h => hn h.2.2
              go_region_with (go_at_call 220; refine (delim_calls _ _).mono ?_; rintro e w' ⟨rfl, rfl⟩)
              all_goals
                go_wp2
                exact ⟨⟨_, _, _, _, _, _, _, _, _, _, _, _, _, _, ⟨since, _, c0, hrel' _ _ hne⟩, rfl⟩, hmea _ _⟩
          · have hne : ¬ (k = 7 ∧ s = firstOf m ∧ n = 0) := fun h => hs (by rw [h.2.1, hfm, ByteArray.toList_eq])
            go_region_with (go_at_call 220; refine (delim_calls _ _).mono ?_; rintro e w' ⟨rfl, rfl⟩)
            all_goals
              go_wp2
              exact ⟨⟨_, _, _, _, _, _, _, _, _, _, _, _, _, _, ⟨since, _, c0, hrel' _ _ hne⟩, rfl⟩, hmea _ _⟩
theorem opensI_eq (k : Int) (s : List UInt8) (n : Int) : opensI k ⟨s.toArray⟩ n = opensL k s n := by
  have h : ∀ l : List UInt8, ((⟨s.toArray⟩ : ByteArray) = ⟨l.toArray⟩) = (s = l) := fun l => by
    apply propext
    constructor
    · intro h; injection h with h; simpa using h
    · intro h; rw [h]
  have h1 := h [40]
  have h2 := h [91]
  have h3 := h [123]
  unfold opensI opensL
  simp only [h1, h2, h3]
def pOpens : Prim
  | [.agg [.pv (.int .i64 k), .pv (.str s), .pv (.int .i64 n)]], [] => some (.c (.pv (.int .i64 (opensL k s n))), [])
  | _, _ => none
theorem pOpens_ok {args : List AV} {bxs : List (List CV)} {x : AV × List (List CV)} (h : pOpens args bxs = some x) : Contract Tryz.prog 272 args bxs (.ret x.1 x.2) := by
  unfold pOpens at h
  split at h
  case h_2 => cases h
  rename_i k s n
  cases h
  refine contract_data fun G w cargs hw hargs => ?_
  obtain ⟨x, rfl, hx⟩ := args_one hargs
  obtain ⟨xs, rfl, hxs⟩ : ∃ xs : List Value, x = .agg xs.toArray ∧ All2 (RN G) [.pv (.int .i64 k), .pv (.str s), .pv (.int .i64 n)] xs := hx
  cases hxs with
  | cons ha hxs =>
  cases hxs with
  | cons hb hxs =>
  cases hxs with
  | cons hc hxs =>
  cases hxs
  cases (RA.of_RN (w := w) (ℓ := .ret) ha).intv
  cases (RA.of_RN (w := w) (ℓ := .ret) hb).strv
  cases (RA.of_RN (w := w) (ℓ := .ret) hc).intv
  refine (opens_calls k ⟨s.toArray⟩ n w).mono ?_
  rintro e w' ⟨rfl, hb⟩
  rw [opensI_eq]
  exact ⟨_, rfl, .int _ _, hb⟩
end Go.Abs
namespace Go.Abs.NR
open Go Go.Proofs Go.Abs
set_option maxRecDepth 10000
attribute [local go_sem] exL_seq exL_cond exL_block exL_scope exL_ret exL_skip exL_exit runRegion runOps stepOp guardA absOp takeOver opd avOf cvOf St.degAt St.put okPV okVal okAV absBin intBin strBin boolBin setBoxes if_true Bool.false_eq_true if_false Option.map_some Option.map_none Option.bind_some Option.bind_none thenO outOf upd List.toList_toArray isOwn steal appArgs mvB inApps AV.deg CV.deg AV.gv AV.isIter absNext some_bne some_beqN List.length_nil List.length_cons List.filterMap_cons List.filterMap_nil beq_iff_eq List.getElem?_cons_zero List.getElem?_cons_succ Option.getD_some Bool.false_and Bool.and_false Bool.and_self absCall doCall getBoxes lend back idx dedup AV.ren CV.ren TV.ren AV.ptrs CV.ptrs zipBox AV.flat CV.flat absLoad absStore cellsOfAV setAt newBox markB bldTypes absFieldAddr absField absExtract absAssert noAssert absMkIface ifcOf CV.pv? content pushHead ownT fillCells reps pvs chunks enterSt leave resOf resVars resVar outBoxes lentOnly TV.deg TV.av LK CV.plain CV.noBld nilBin absUn bound List.map_cons List.map_nil List.all_cons List.all_nil List.any_cons List.any_nil List.contains_cons List.contains_nil List.elem_cons List.elem_nil List.cons_append List.nil_append List.append_nil List.flatMap_cons List.flatMap_nil List.zip_cons_cons List.zip_nil_left List.zip_nil_right List.take_succ_cons List.take_zero List.take_nil List.drop_succ_cons List.drop_zero List.drop_nil List.isEmpty_nil List.isEmpty_cons Bool.and_true Bool.true_and Bool.or_true Bool.true_or Bool.or_false Bool.false_or Bool.not_true Bool.not_false Nat.add_zero Nat.zero_add Option.isNone_none Option.isNone_some Option.getD_none true_and and_true not_true_eq_false not_false_eq_true decide_true decide_false Nat.le_refl and_self Bool.not_eq_true Nat.sub_self or_true true_or Option.some.injEq List.length_map List.nil_eq and_false false_and AV.live CV.live CV.liveIn firstReg Option.orElse_some Option.orElse_none head keepSlots keepBoxes Int.lt_irrefl List.length_append ite_self memOK logOps opKey lentBoxes Key.clash Key.sees Key.writes Nat.lt_irrefl gt_iff_lt nobox_at bot_at false_or or_false beq_self_eq_true Bool.true_beq Bool.false_beq
theorem ty_fieldOff_214_0 : fieldOff Tryz.prog 214 0 = Option.some (0, 90) := by kernel_rfl
theorem ty_szOf_90 : szOf Tryz.prog 90 = Option.some 1 := by kernel_rfl
theorem ty_shapeT_90 : shapeT Tryz.prog 90 = Option.some Option.none := by kernel_rfl
theorem ty_descOf_90 : descOf Tryz.prog 90 = Option.some (Go.Abs.Desc.sl 47 Bool.false) := by kernel_rfl
theorem ty_szOf_47 : szOf Tryz.prog 47 = Option.some 3 := by kernel_rfl
theorem ty_shapeT_47 : shapeT Tryz.prog 47 = Option.some (Option.some 3) := by kernel_rfl
theorem ty_zeroCells_47 : zeroCells Tryz.prog 47 = Option.some [Go.Abs.CV.pv (Go.Abs.PV.int Go.IntKind.i64 0), Go.Abs.CV.pv (Go.Abs.PV.str []), Go.Abs.CV.pv (Go.Abs.PV.int Go.IntKind.i64 0)] := by kernel_rfl
theorem ty_isPtrT_243 : isPtrT Tryz.prog 243 = Bool.true := by kernel_rfl
theorem ty_descOf_22 : descOf Tryz.prog 22 = Option.some (Go.Abs.Desc.sl 49 Bool.false) := by kernel_rfl
theorem ty_szOf_49 : szOf Tryz.prog 49 = Option.some 5 := by kernel_rfl
theorem ty_zeroCells_49 : zeroCells Tryz.prog 49 = Option.some [Go.Abs.CV.pv (Go.Abs.PV.int Go.IntKind.i64 0), Go.Abs.CV.pv (Go.Abs.PV.int Go.IntKind.i64 0), Go.Abs.CV.pv (Go.Abs.PV.str []), Go.Abs.CV.pv (Go.Abs.PV.int Go.IntKind.i64 0), Go.Abs.CV.nils] := by kernel_rfl
theorem ty_appInfo_22 : appInfo Tryz.prog 22 = Option.some (49, 5) := by kernel_rfl
theorem ty_shapeT_49 : shapeT Tryz.prog 49 = Option.some (Option.some 5) := by kernel_rfl
theorem ty_placesOf_49 : placesOf Tryz.prog 49 = Option.some [(0, 1), (1, 3), (4, 1)] := by kernel_rfl
theorem ty_fieldOff_214_1 : fieldOff Tryz.prog 214 1 = Option.some (1, 3) := by kernel_rfl
theorem ty_szOf_3 : szOf Tryz.prog 3 = Option.some 1 := by kernel_rfl
theorem ty_shapeT_3 : shapeT Tryz.prog 3 = Option.some Option.none := by kernel_rfl
theorem ty_zeroCells_210 : zeroCells Tryz.prog 210 = Option.some [] := by kernel_rfl
theorem ty_placesOf_210 : placesOf Tryz.prog 210 = Option.some [] := by kernel_rfl
theorem ty_concreteT_210 : concreteT Tryz.prog 210 = Bool.true := by kernel_rfl
theorem ty_fieldOff_49_1 : fieldOff Tryz.prog 49 1 = Option.some (1, 47) := by kernel_rfl
theorem ty_fieldOff_49_2 : fieldOff Tryz.prog 49 2 = Option.some (4, 22) := by kernel_rfl
theorem ty_szOf_22 : szOf Tryz.prog 22 = Option.some 1 := by kernel_rfl
theorem ty_zeroCells_223 : zeroCells Tryz.prog 223 = Option.some [Go.Abs.CV.pv (Go.Abs.PV.str []), Go.Abs.CV.pv (Go.Abs.PV.str [])] := by kernel_rfl
theorem ty_szOf_223 : szOf Tryz.prog 223 = Option.some 2 := by kernel_rfl
theorem ty_fieldOff_223_1 : fieldOff Tryz.prog 223 1 = Option.some (1, 9) := by kernel_rfl
theorem ty_szOf_9 : szOf Tryz.prog 9 = Option.some 1 := by kernel_rfl
theorem ty_shapeT_9 : shapeT Tryz.prog 9 = Option.some Option.none := by kernel_rfl
theorem ty_placesOf_47 : placesOf Tryz.prog 47 = Option.some [(0, 1), (1, 1), (2, 1)] := by kernel_rfl
def keepN (f r : Nat) : List Nat × List Nat := if f == 213 && r == 2 then ([0, 1, 2, 7], [100000, 100001]) else ([], [])
def prN (f : Nat) : Option Prim := if f == 219 then some pPairs else if f == 272 then some pOpens else none
def ownN (f : Nat) : Bool := f == 219
def goodsN : List Nat := [219, 272, 220, 221, 240, 213]
noncomputable def KN : Cfg := { P := Tryz.prog, pr := prN, keep := keepN, ownRet := ownN, good := goodsN.contains, hook := fun _ _ => false }
theorem N_own (f : FuncId) (h : (f == 219) = false) : KN.ownRet f = false := h
theorem N_ownP : KN.ownRet 219 = true := rfl
theorem N_hook (f i : Nat) : KN.hook f i = false := rfl
theorem regionN (f : FuncId) (id : Nat) (ops : Array Oper) (draw : Bool) (S : St) : exL KN f (.region id ops draw) S = runRegion KN (den KN) ops.toList draw S := exL_region f id ops draw S (N_hook f id)
theorem N_P : KN.P = Tryz.prog := rfl
theorem N_keep (f r : Nat) : KN.keep f r = keepN f r := rfl
theorem keep_u : keepN 213 2 = ([0, 1, 2, 7], [100000, 100001]) := by decide
theorem good_o : KN.good 272 = true := rfl
theorem good_p : KN.good 219 = true := rfl
theorem good_d : KN.good 220 = true := rfl
theorem good_c : KN.good 221 = true := rfl
theorem good_1 : KN.good 240 = true := rfl
theorem good_u : KN.good 213 = true := rfl
abbrev I (n : Int) : AV := .c (.pv (.int .i64 n))
abbrev T (l : List UInt8) : AV := .c (.pv (.str l))
abbrev L (l : List (List PV)) : AV := .c (.pv (.sl l))
abbrev P0 : AV := .c (.loc 100000 0)
theorem den_runN {f : FuncId} {fn : Func} {x : Code} {nt : Nat} {args : List AV} {bxs : List (List CV)} {r : Res} (hp : prN f = none) (hf : Tryz.prog.funcs[f]? = some fn) (hx : fn.body = some x) (hn : fn.ntmps = nt)
    (hl : args.length ≤ nt ∧ nt < LK) (h : (exL KN f x (enterSt nt args bxs)).bind (fun r => leave KN f fn bxs.length (some r)) = some r) : den KN f args bxs = some r := by
  rw [den_eq (K := KN) hp rfl hf hx, hn, if_pos hl]
  exact h
theorem den_runE {α : Type} {f : FuncId} {fn : Func} {x : Code} {nt : Nat} {args : List AV} {bxs : List (List CV)} {r : α → Res} (hp : prN f = none) (hf : Tryz.prog.funcs[f]? = some fn) (hx : fn.body = some x) (hn : fn.ntmps = nt)
    (hl : args.length ≤ nt ∧ nt < LK) (h : ∃ b, (exL KN f x (enterSt nt args bxs)).bind (fun r => leave KN f fn bxs.length (some r)) = some (r b)) : ∃ b, den KN f args bxs = some (r b) := by
  obtain ⟨b, h⟩ := h
  exact ⟨b, den_runN hp hf hx hn hl h⟩
theorem prim_runN {f : FuncId} {F : Prim} {args : List AV} {bxs cs : List (List CV)} {v : AV} (h : prN f = some F) (hF : F args bxs = some (v, cs)) : den KN f args bxs = some (.ret v cs) := by
  rw [den_prim (K := KN) h, hF]; rfl
theorem opens_den (t : Tok) : den KN 272 [.agg t.cells] [] = some (.ret (I (Ne.opens t)) []) := prim_runN (F := pOpens) rfl rfl
theorem pairs_den : den KN 219 [] [] = some (.ret (.c (.cmap pairsE)) []) := prim_runN (F := pPairs) rfl rfl
theorem delim_den (s : List UInt8) : den KN 220 [T s] [] = some (.ret (.agg [.pv (.int .i64 7), .pv (.str s), .pv (.int .i64 0)]) []) := by
  refine den_runN rfl Tryz.func220 rfl Tryz.ntmps220 ⟨by simp, by simp [LK]⟩ ?_
  have hr : Tryz.f220.results = #[.cell 2 47] := rfl
  simp only [go_sem, Nat.reduceLT, reduceCtorEq, Nat.reduceEqDiff, Nat.reduceBEq, Nat.reduceAdd, Nat.reduceSub, Nat.reduceLeDiff, regionN, N_own, N_P, ty_shapeT_47, ty_zeroCells_47, ev_build ty_zeroCells_47 ty_placesOf_47, ty_szOf_47, hr]
theorem look_map : Tryz.prog.underlying 225 = some (.map 3 223) := by kernel_rfl
theorem look_int : isIntK Tryz.prog 3 .i64 = true := by kernel_rfl
theorem look_zero : tvZero Tryz.prog 223 = some (.agg [.pv (.str []), .pv (.str [])]) := by kernel_rfl
theorem look_2 : absLookup Tryz.prog 225 (.c (.cmap pairsE)) (I 2) true = some (.tup [.agg [.pv (.str [40]), .pv (.str [41])], .c (.pv (.bool true))]) := by
  unfold absLookup
  rw [look_map]
  simp only
  rw [look_int, if_pos (by rfl)]
  rfl
theorem look_3 : absLookup Tryz.prog 225 (.c (.cmap pairsE)) (I 3) true = some (.tup [.agg [.pv (.str [91]), .pv (.str [93])], .c (.pv (.bool true))]) := by
  unfold absLookup
  rw [look_map]
  simp only
  rw [look_int, if_pos (by rfl)]
  rfl
theorem look_4 : absLookup Tryz.prog 225 (.c (.cmap pairsE)) (I 4) true = some (.tup [.agg [.pv (.str [123]), .pv (.str [125])], .c (.pv (.bool true))]) := by
  unfold absLookup
  rw [look_map]
  simp only
  rw [look_int, if_pos (by rfl)]
  rfl
theorem look_no (k : Int) (h2 : k ≠ 2) (h3 : k ≠ 3) (h4 : k ≠ 4) : absLookup Tryz.prog 225 (.c (.cmap pairsE)) (I k) true = some (.tup [.agg [.pv (.str []), .pv (.str [])], .c (.pv (.bool false))]) := by
  have hf : pairsE.find? (keyIs .i64 k) = none := by
    rw [List.find?_eq_none]
    intro e he
    simp only [pairsE, List.mem_cons, List.not_mem_nil, or_false] at he
    rcases he with rfl | rfl | rfl <;> simp [keyIs, h2, h3, h4]
  unfold absLookup
  rw [look_map]
  simp only
  rw [look_int, if_pos (by rfl), hf]
  simp only [look_zero]
theorem closing_den (k : Int) : den KN 221 [I k] [] = some (.ret (.agg (Ne.closeT k).cells) []) := by
  refine den_runN rfl Tryz.func221 rfl Tryz.ntmps221 ⟨by simp, by simp [LK]⟩ ?_
  have hr : Tryz.f221.results = #[.cell 2 47] := rfl
  have hp := pairs_den
  have d1 := delim_den [41]
  have d2 := delim_den [93]
  have d3 := delim_den [125]
  by_cases h2 : k = 2
  · subst h2
    simp only [go_sem, Nat.reduceLT, reduceCtorEq, Nat.reduceEqDiff, Nat.reduceBEq, Nat.reduceAdd, Nat.reduceSub, Nat.reduceLeDiff, regionN, N_own, N_ownP, N_P, ty_shapeT_47, ty_zeroCells_47, ty_zeroCells_223, ty_szOf_223, ty_fieldOff_223_1, ty_szOf_9, ty_shapeT_9, ty_szOf_47, hr, hp, look_2, d1, good_p, good_d]
    rfl
  by_cases h3 : k = 3
  · subst h3
    simp only [go_sem, Nat.reduceLT, reduceCtorEq, Nat.reduceEqDiff, Nat.reduceBEq, Nat.reduceAdd, Nat.reduceSub, Nat.reduceLeDiff, regionN, N_own, N_ownP, N_P, ty_shapeT_47, ty_zeroCells_47, ty_zeroCells_223, ty_szOf_223, ty_fieldOff_223_1, ty_szOf_9, ty_shapeT_9, ty_szOf_47, hr, hp, look_3, d2, good_p, good_d]
    rfl
  by_cases h4 : k = 4
  · subst h4
    simp only [go_sem, Nat.reduceLT, reduceCtorEq, Nat.reduceEqDiff, Nat.reduceBEq, Nat.reduceAdd, Nat.reduceSub, Nat.reduceLeDiff, regionN, N_own, N_ownP, N_P, ty_shapeT_47, ty_zeroCells_47, ty_zeroCells_223, ty_szOf_223, ty_fieldOff_223_1, ty_szOf_9, ty_shapeT_9, ty_szOf_47, hr, hp, look_4, d3, good_p, good_d]
    rfl
  have hl := look_no k h2 h3 h4
  have hv : Ne.closeT k = ⟨7, [41], 0⟩ := by simp [Ne.closeT, Ne.closeC, h3, h4]
  rw [hv]
  simp only [go_sem, Nat.reduceLT, reduceCtorEq, Nat.reduceEqDiff, Nat.reduceBEq, Nat.reduceAdd, Nat.reduceSub, Nat.reduceLeDiff, regionN, N_own, N_ownP, N_P, ty_shapeT_47, ty_zeroCells_47, ty_zeroCells_223, ty_szOf_223, ty_fieldOff_223_1, ty_szOf_9, ty_shapeT_9, ty_szOf_47, hr, hp, hl, d1, good_p, good_d]
  rfl
theorem tok_eq (k k' n n' : Int) (t t' : List UInt8) : structEq Tryz.prog 47 [.int .i64 k, .str t, .int .i64 n] [.int .i64 k', .str t', .int .i64 n'] = some ((k == k') && ((t == t') && ((n == n') && true))) := by kernel_rfl
theorem tok_beq (a b : Tok) : ((a.kind == b.kind) && ((a.text == b.text) && ((a.n == b.n) && true))) = decide (a = b) := by
  obtain ⟨k, t, n⟩ := a
  obtain ⟨k', t', n'⟩ := b
  rw [Bool.eq_iff_iff, decide_eq_true_eq]
  simp [Tok.mk.injEq]
theorem lens_toks (l : List Tok) : lens 3 (l.map Tok.enc) = true := by simp [lens, Tok.enc]
theorem lens_vals (l : List Val) : lens 5 (encL l) = true := by
  rw [encL_map]
  simp only [lens, List.all_map, List.all_eq_true, Function.comp_apply, beq_iff_eq]
  intro v _
  exact enc_len v
theorem lens_val (a b c d e : PV) : lens 5 [[a, b, c, d, e]] = true := rfl
abbrev rdr (l : List Tok) (deep : Int) : List CV := [.pv (.sl (l.map Tok.enc)), .pv (.int .i64 deep)]
abbrev errD : CV := .pv (.ifa 210 [])
abbrev closeA (k : Int) : List CV := [.pv (.int .i64 7), .pv (.str [Ne.closeC k]), .pv (.int .i64 0)]
abbrev tokA (t : Tok) : List CV := [.pv (.int .i64 t.kind), .pv (.str t.text), .pv (.int .i64 t.n)]
theorem opensA (t : Tok) : den KN 272 [.agg (tokA t)] [] = some (.ret (I (Ne.opens t)) []) := opens_den t
theorem closingA (k : Int) : den KN 221 [I k] [] = some (.ret (.agg (closeA k)) []) := closing_den k
theorem one_tok (t : Tok) (l : List Tok) (deep wi : Int) (h : Ne.opens t = 0) : den KN 240 [P0, .agg (tokA t), I wi] [rdr l deep] =
    some (.ret (.agg [.pv (.int .i64 1), .pv (.int .i64 t.kind), .pv (.str t.text), .pv (.int .i64 t.n), .nils]) [rdr l deep]) := by
  refine den_runN rfl Tryz.func240 rfl Tryz.ntmps240 ⟨by simp, by simp [LK]⟩ ?_
  have hr : Tryz.f240.results = #[.cell 6 49] := rfl
  have ho := opensA t
  rw [h] at ho
  simp only [go_sem, Nat.reduceLT, Nat.reduceEqDiff, Nat.reduceBEq, Nat.reduceAdd, Nat.reduceSub, Nat.reduceLeDiff, regionN, N_own, N_P, ty_shapeT_49, ty_zeroCells_49, ty_shapeT_47, ev_build ty_zeroCells_49 ty_placesOf_49, ty_szOf_49, hr, ho, good_o]
theorem one_deep (t : Tok) (l : List Tok) (deep wi : Int) (h : Ne.opens t ≠ 0) (hw : deep ≤ wi) : den KN 240 [P0, .agg (tokA t), I wi] [rdr l deep] = some (.pan errD [rdr l deep]) := by
  refine den_runN rfl Tryz.func240 rfl Tryz.ntmps240 ⟨by simp, by simp [LK]⟩ ?_
  have ho := opensA t
  have e0 : (Ne.opens t == 0) = false := by rw [beq_eq_false_iff_ne]; exact h
  have e1 : decide (deep ≤ wi) = true := decide_eq_true hw
  simp only [go_sem, Nat.reduceLT, reduceCtorEq, Nat.reduceEqDiff, Nat.reduceBEq, Nat.reduceAdd, Nat.reduceSub, Nat.reduceLeDiff, regionN, N_own, N_P, ty_zeroCells_49, ty_shapeT_47, ev_build ty_zeroCells_49 ty_placesOf_49, ty_szOf_49, ty_fieldOff_214_1, ty_szOf_3, ty_shapeT_3, ev_build ty_zeroCells_210 ty_placesOf_210, ty_concreteT_210, ho, good_o, e0, e1]
theorem one_in (t : Tok) (l rest : List Tok) (vs : List Val) (deep wi : Int) (h : Ne.opens t ≠ 0) (hw : wi < deep) (hd : 0 ≤ wi ∧ deep < 1000)
    (hu : den KN 213 [P0, .c (.loc 100001 0), I (wi + 1)] [rdr l deep, closeA (Ne.opens t)] = some (.ret (L (encL vs)) [rdr rest deep, closeA (Ne.opens t)])) :
    den KN 240 [P0, .agg (tokA t), I wi] [rdr l deep] =
      some (.ret (.agg (.pv (.int .i64 (Ne.opens t)) :: (tokA (if Ne.opens t = 5 then t else Ne.tok0) ++ [.pv (.sl (encL vs))]))) [rdr rest deep]) := by
  refine den_runN rfl Tryz.func240 rfl Tryz.ntmps240 ⟨by simp, by simp [LK]⟩ ?_
  have hr : Tryz.f240.results = #[.cell 6 49] := rfl
  have ho := opensA t
  have hc := closingA (Ne.opens t)
  have e0 : (Ne.opens t == 0) = false := by rw [beq_eq_false_iff_ne]; exact h
  have e1 : decide (deep ≤ wi) = false := decide_eq_false (by omega)
  have ew : IntKind.i64.wrap (wi + 1) = wi + 1 := IntWalk.i64_in _ (by omega)
  by_cases h5 : Ne.opens t = 5
  · have e5 : (Ne.opens t == 5) = true := by rw [beq_iff_eq]; exact h5
    rw [if_pos h5]
    simp only [go_sem, Nat.reduceLT, reduceCtorEq, Nat.reduceEqDiff, Nat.reduceBEq, Nat.reduceAdd, Nat.reduceSub, Nat.reduceLeDiff, regionN, N_own, N_P, ty_shapeT_49, ty_zeroCells_49, ty_shapeT_47, ev_build ty_zeroCells_49 ty_placesOf_49, ty_szOf_49, ty_fieldOff_214_1, ty_szOf_3, ty_shapeT_3, ev_build ty_zeroCells_210 ty_placesOf_210, ty_concreteT_210, ty_fieldOff_49_1, ty_szOf_47, ty_zeroCells_47, ty_fieldOff_49_2, ty_szOf_22, hr, ho, hc, hu, good_o, good_c, good_u, e0, e1, e5, ew]
  · have e5 : (Ne.opens t == 5) = false := by rw [beq_eq_false_iff_ne]; exact h5
    rw [if_neg h5]
    simp only [go_sem, Nat.reduceLT, reduceCtorEq, Nat.reduceEqDiff, Nat.reduceBEq, Nat.reduceAdd, Nat.reduceSub, Nat.reduceLeDiff, regionN, N_own, N_P, ty_shapeT_49, ty_zeroCells_49, ty_shapeT_47, ev_build ty_zeroCells_49 ty_placesOf_49, ty_szOf_49, ty_fieldOff_214_1, ty_szOf_3, ty_shapeT_3, ev_build ty_zeroCells_210 ty_placesOf_210, ty_concreteT_210, ty_fieldOff_49_1, ty_szOf_47, ty_zeroCells_47, ty_fieldOff_49_2, ty_szOf_22, hr, ho, hc, hu, good_o, good_c, good_u, e0, e1, e5, ew, Ne.tok0]
theorem one_pan (t : Tok) (l : List Tok) (deep wi : Int) (b1 b2 : List CV) (h : Ne.opens t ≠ 0) (hw : wi < deep) (hd : 0 ≤ wi ∧ deep < 1000)
    (hu : den KN 213 [P0, .c (.loc 100001 0), I (wi + 1)] [rdr l deep, closeA (Ne.opens t)] = some (.pan errD [b1, b2])) :
    ∃ b, den KN 240 [P0, .agg (tokA t), I wi] [rdr l deep] = some (.pan errD [b]) := by
  refine den_runE rfl Tryz.func240 rfl Tryz.ntmps240 ⟨by simp, by simp [LK]⟩ ?_
  have ho := opensA t
  have hc := closingA (Ne.opens t)
  have e0 : (Ne.opens t == 0) = false := by rw [beq_eq_false_iff_ne]; exact h
  have e1 : decide (deep ≤ wi) = false := decide_eq_false (by omega)
  have ew : IntKind.i64.wrap (wi + 1) = wi + 1 := IntWalk.i64_in _ (by omega)
  by_cases h5 : Ne.opens t = 5
  · have e5 : (Ne.opens t == 5) = true := by rw [beq_iff_eq]; exact h5
    simp only [go_sem, Nat.reduceLT, reduceCtorEq, Nat.reduceEqDiff, Nat.reduceBEq, Nat.reduceAdd, Nat.reduceSub, Nat.reduceLeDiff, regionN, N_own, N_P, ty_zeroCells_49, ty_shapeT_47, ev_build ty_zeroCells_49 ty_placesOf_49, ty_szOf_49, ty_fieldOff_214_1, ty_szOf_3, ty_shapeT_3, ev_build ty_zeroCells_210 ty_placesOf_210, ty_concreteT_210, ty_fieldOff_49_1, ty_szOf_47, ty_zeroCells_47, ho, hc, hu, good_o, good_c, good_u, e0, e1, e5, ew]
    exact ⟨_, rfl⟩
  · have e5 : (Ne.opens t == 5) = false := by rw [beq_eq_false_iff_ne]; exact h5
    simp only [go_sem, Nat.reduceLT, reduceCtorEq, Nat.reduceEqDiff, Nat.reduceBEq, Nat.reduceAdd, Nat.reduceSub, Nat.reduceLeDiff, regionN, N_own, N_P, ty_zeroCells_49, ty_shapeT_47, ev_build ty_zeroCells_49 ty_placesOf_49, ty_szOf_49, ty_fieldOff_214_1, ty_szOf_3, ty_shapeT_3, ev_build ty_zeroCells_210 ty_placesOf_210, ty_concreteT_210, ty_fieldOff_49_1, ty_szOf_47, ty_zeroCells_47, ho, hc, hu, good_o, good_c, good_u, e0, e1, e5, ew]
    exact ⟨_, rfl⟩
theorem exL_headN (f : FuncId) (a : Code) (S : St) : exL KN f (.loop a) S = exL KN f (.loop a) (head (keepN f ((firstReg a).getD 0)) S) := by
  rw [exL_loop, exL_loop (S := head _ S), N_keep, head_head]
inductive Kd : Int → AV → Option (List CV) → List (List CV) → Prop
  | top : Kd 0 (.c .nilp) none []
  | inner (k : Int) (h : 0 < k) : Kd k (.c (.loc 100001 0)) (some (closeA k)) [closeA k]
abbrev uH (l : List Tok) (deep wi : Int) (ka : AV) (kb : Option (List CV)) (e : Nat) (acc : List Val) : St :=
  { sl := upd (upd (upd (upd bot 7 (.c (.own e (encL acc)))) 2 (I wi)) 1 ka) 0 P0, bx := upd (upd nobox 100001 kb) 100000 (some (rdr l deep)), nt := 46 }
def ULoop (l : List Tok) (kind : Int) (left : Nat) (deep wi : Int) (ka : AV) (kb : Option (List CV)) (acc : List Val) (o : Out) (S : St) : Prop :=
  match Ne.until_ kind left l with
  | some (vs, rest) => o = .exit 0 ∧ S.nt = 46 ∧ (∃ e, S.sl 7 = .c (.own e (encL (acc ++ vs)))) ∧ S.bx 100000 = some (rdr rest deep) ∧ S.bx 100001 = kb
  | none => o = .pan errD ∧ (∃ b, S.bx 100000 = some b) ∧ S.bx 100001 = kb
def UDen (l : List Tok) (kind : Int) (left : Nat) (deep wi : Int) (ka : AV) (kl : List (List CV)) : Prop :=
  match Ne.until_ kind left l with
  | some (vs, rest) => den KN 213 [P0, ka, I wi] (rdr l deep :: kl) = some (.ret (L (encL vs)) (rdr rest deep :: kl))
  | none => ∃ b, den KN 213 [P0, ka, I wi] (rdr l deep :: kl) = some (.pan errD (b :: kl))
noncomputable def ulp : Code := .loop (loopAt Tryz.f213 2)
theorem u_den {l : List Tok} {kind : Int} {left : Nat} {deep wi : Int} {ka : AV} {kb : Option (List CV)} {kl : List (List CV)} (hk : Kd kind ka kb kl)
    (h : Ends (exL KN 213 ulp (uH l deep wi ka kb 0 [])) (ULoop l kind left deep wi ka kb [])) : UDen l kind left deep wi ka kl := by
  have hr : Tryz.f213.results = #[.tmp 6] := rfl
  unfold ulp at h
  conv at h in loopAt _ _ => whnf
  obtain ⟨o, S', w, hq⟩ := h
  unfold ULoop at hq
  unfold UDen
  cases hu : Ne.until_ kind left l with
  | some x =>
    obtain ⟨vs, rest⟩ := x
    rw [hu] at hq
    obtain ⟨rfl, hn, ⟨e, h7⟩, hb, hb2⟩ := hq
    rw [List.nil_append] at h7
    simp only
    refine den_runN rfl Tryz.func213 rfl Tryz.ntmps213 ⟨by simp, by simp [LK]⟩ ?_
    cases hk with
    | top =>
      simp only [go_sem, Nat.reduceLT, Nat.reduceBEq, regionN, N_own, N_P, hr]
      rw [exL_headN]
      simp only [go_sem, reduceCtorEq, Nat.reduceEqDiff, Nat.reduceBEq, Nat.reduceSub, Nat.reduceLeDiff, keep_u]
      erw [w]
      simp only [go_sem, Nat.reduceLT, Nat.reduceEqDiff, Nat.reduceBEq, Nat.reduceAdd, regionN, hn, h7, hb]
    | inner k hk =>
      simp only [go_sem, Nat.reduceLT, Nat.reduceBEq, Nat.reduceAdd, regionN, N_own, N_P, hr]
      rw [exL_headN]
      simp only [go_sem, reduceCtorEq, Nat.reduceEqDiff, Nat.reduceBEq, Nat.reduceSub, Nat.reduceLeDiff, keep_u]
      erw [w]
      simp only [go_sem, Nat.reduceLT, Nat.reduceEqDiff, Nat.reduceBEq, Nat.reduceAdd, regionN, hn, h7, hb, hb2]
  | none =>
    rw [hu] at hq
    obtain ⟨rfl, ⟨b, hb⟩, hb2⟩ := hq
    simp only
    refine den_runE rfl Tryz.func213 rfl Tryz.ntmps213 ⟨by simp, by simp [LK]⟩ ?_
    cases hk with
    | top =>
      simp only [go_sem, Nat.reduceLT, Nat.reduceBEq, regionN, N_own, N_P, hr]
      rw [exL_headN]
      simp only [go_sem, reduceCtorEq, Nat.reduceEqDiff, Nat.reduceBEq, Nat.reduceSub, Nat.reduceLeDiff, keep_u]
      erw [w]
      simp only [go_sem, hb]
      exact ⟨_, rfl⟩
    | inner k hk =>
      simp only [go_sem, Nat.reduceLT, Nat.reduceBEq, Nat.reduceAdd, regionN, N_own, N_P, hr]
      rw [exL_headN]
      simp only [go_sem, reduceCtorEq, Nat.reduceEqDiff, Nat.reduceBEq, Nat.reduceSub, Nat.reduceLeDiff, keep_u]
      erw [w]
      simp only [go_sem, hb, hb2]
      exact ⟨_, rfl⟩
theorem kd_last {kind : Int} {ka : AV} {kb : Option (List CV)} {kl : List (List CV)} (hk : Kd kind ka kb kl) (t : Tok) :
    (kb = none ∧ ka = .c .nilp ∧ Ne.isLast kind t = false) ∨ (kb = some (closeA kind) ∧ ka = .c (.loc 100001 0) ∧
      Ne.isLast kind t = ((t.kind == 7) && ((t.text == [Ne.closeC kind]) && ((t.n == 0) && true)))) := by
  cases hk with
  | top => exact .inl ⟨rfl, rfl, Ne.last_zero t⟩
  | inner k h =>
    refine .inr ⟨rfl, rfl, ?_⟩
    have := tok_beq t (Ne.closeT kind)
    unfold Ne.isLast
    rw [decide_eq_true h, Bool.true_and, ← this]
    rfl
theorem u_nil {kind : Int} {left : Nat} {deep wi : Int} {ka : AV} {kb : Option (List CV)} {kl : List (List CV)} (hk : Kd kind ka kb kl) (e : Nat) (acc : List Val) :
    Ends (exL KN 213 ulp (uH [] deep wi ka kb e acc)) (ULoop [] kind left deep wi ka kb acc) := by
  unfold ULoop
  rw [Ne.until_nil]
  unfold ulp
  have e00 : decide ((0 : Int) < ((0 : Nat) : Int)) = false := by decide
  conv in loopAt _ _ => whnf
  rw [exL_loop]
  cases hk with
  | top =>
    simp only [go_sem, Nat.reduceLT, reduceCtorEq, Nat.reduceEqDiff, Nat.reduceBEq, Nat.reduceAdd, regionN, N_P, N_keep, keep_u, ty_fieldOff_214_0, ty_szOf_90, ty_shapeT_90, ev_len_sl ty_descOf_90, ends_some, e00]
    exact ⟨⟨e, rfl⟩, rfl⟩
  | inner k h =>
    simp only [go_sem, Nat.reduceLT, reduceCtorEq, Nat.reduceEqDiff, Nat.reduceBEq, Nat.reduceAdd, regionN, N_P, N_keep, keep_u, ty_fieldOff_214_0, ty_szOf_90, ty_shapeT_90, ev_len_sl ty_descOf_90, ends_some, e00]
    exact ⟨⟨e, rfl⟩, rfl⟩
theorem u_last {t : Tok} {l : List Tok} {kind : Int} {left : Nat} {deep wi : Int} {ka : AV} {kb : Option (List CV)} {kl : List (List CV)} (hk : Kd kind ka kb kl) (h : Ne.isLast kind t = true) (e : Nat) (acc : List Val) :
    Ends (exL KN 213 ulp (uH (t :: l) deep wi ka kb e acc)) (ULoop (t :: l) kind left deep wi ka kb acc) := by
  have e0 : (t :: l).map Tok.enc = [.int .i64 t.kind, .str t.text, .int .i64 t.n] :: l.map Tok.enc := rfl
  have hlt : decide ((0 : Int) < ((l.length + 1 : Nat) : Int)) = true := decide_eq_true (by omega)
  have htk : (l.map Tok.enc).take l.length = l.map Tok.enc := List.take_of_length_le (by simp)
  have h01 : (0 : Int) ≤ 1 := by decide
  have h1l : (1 : Int) ≤ ((l.length + 1 : Nat) : Int) := by omega
  have hlens : lens 3 ([.int .i64 t.kind, .str t.text, .int .i64 t.n] :: l.map Tok.enc) = true := lens_toks (t :: l)
  have hu := Ne.until_cons kind left t l
  rw [h, if_pos rfl] at hu
  unfold ULoop
  rw [hu]
  have heq := tok_eq t.kind 7 t.n 0 t.text [Ne.closeC kind]
  have hkd := kd_last hk t
  rw [h] at hkd
  rcases hkd with ⟨_, _, hf⟩ | ⟨rfl, rfl, hf⟩
  · cases hf
  · rw [← hf] at heq
    unfold ulp
    conv in loopAt _ _ => whnf
    rw [exL_loop]
    simp only [go_sem, Nat.reduceLT, reduceCtorEq, Nat.reduceEqDiff, Nat.reduceBEq, Nat.reduceAdd, Nat.reduceLeDiff, regionN, N_P, N_keep, keep_u, ty_fieldOff_214_0, ty_szOf_90, ty_shapeT_90, ev_len_sl ty_descOf_90, ev_indexAddr ty_descOf_90, ty_szOf_47, ty_shapeT_47, ty_zeroCells_47, ev_slice_sl ty_descOf_90 ty_szOf_47, ty_isPtrT_243, ends_some, e0, hlt, hlens, htk, h01, h1l, Int.le_refl, Int.toNat_zero, Int.toNat_one, heq]
    exact ⟨e, rfl⟩
theorem u_step {t : Tok} {l rest : List Tok} {kind : Int} {deep wi : Int} {ka : AV} {kb : Option (List CV)} {kl : List (List CV)} (hk : Kd kind ka kb kl) (h : Ne.isLast kind t = false) (e : Nat) (acc acc' : List Val)
    (he : e = 49 ∨ acc = []) (hacc : acc.length < 1000000) {a b c d : PV} {z : CV} {x : List (List PV)} (hz : (z = .nils ∧ x = []) ∨ z = .pv (.sl x)) (henc : encL acc' = encL acc ++ [[a, b, c, d, .sl x]])
    (hone : den KN 240 [P0, .agg (tokA t), I wi] [rdr l deep] = some (.ret (.agg [.pv a, .pv b, .pv c, .pv d, z]) [rdr rest deep])) :
    exL KN 213 ulp (uH (t :: l) deep wi ka kb e acc) = exL KN 213 ulp (uH rest deep wi ka kb 49 acc') := by
  have e0 : (t :: l).map Tok.enc = [.int .i64 t.kind, .str t.text, .int .i64 t.n] :: l.map Tok.enc := rfl
  have hlt : decide ((0 : Int) < ((l.length + 1 : Nat) : Int)) = true := decide_eq_true (by omega)
  have htk : (l.map Tok.enc).take l.length = l.map Tok.enc := List.take_of_length_le (by simp)
  have h01 : (0 : Int) ≤ 1 := by decide
  have h1l : (1 : Int) ≤ ((l.length + 1 : Nat) : Int) := by omega
  have hlens : lens 3 ([.int .i64 t.kind, .str t.text, .int .i64 t.n] :: l.map Tok.enc) = true := lens_toks (t :: l)
  have heq := tok_eq t.kind 7 t.n 0 t.text [Ne.closeC kind]
  have hkd := kd_last hk t
  rw [h] at hkd
  have hown : e = 49 ∨ (encL acc).isEmpty = true := by
    rcases he with rfl | rfl
    · exact .inl rfl
    · exact .inr rfl
  have hlim : acc.length + 1 < appLim := by unfold appLim; omega
  have hlv := lens_vals acc
  unfold ulp
  conv in loopAt _ _ => whnf
  conv in loopAt _ _ => whnf
  conv => lhs; rw [exL_loop]
  symm at henc
  rcases hkd with ⟨rfl, rfl, hf⟩ | ⟨rfl, rfl, hf⟩
  · rcases hz with ⟨rfl, rfl⟩ | rfl
    · simp only [go_sem, Nat.reduceLT, reduceCtorEq, Nat.reduceEqDiff, Nat.reduceBEq, Nat.reduceAdd, Nat.reduceLeDiff, Nat.reduceMul, regionN, N_own, N_P, N_keep, keep_u, ty_fieldOff_214_0, ty_szOf_90, ty_shapeT_90, ev_len_sl ty_descOf_90, ev_indexAddr ty_descOf_90, ty_szOf_47, ty_shapeT_47, ty_zeroCells_47, ev_slice_sl ty_descOf_90 ty_szOf_47, ty_isPtrT_243, ev_buildSlice (len := 1) ty_descOf_22 ty_szOf_49 ty_zeroCells_49 ⟨rfl, by decide, by decide⟩, ev_append ty_appInfo_22, ev_appNew_sl ty_descOf_22, e0, hlt, hlens, htk, h01, h1l, Int.le_refl, Int.toNat_zero, Int.toNat_one, hone, good_1, encL_len, hlim, hlv, lens_val, hown, henc]
      rw [exL_headN]
      simp only [go_sem, reduceCtorEq, Nat.reduceEqDiff, Nat.reduceBEq, keep_u]
    · simp only [go_sem, Nat.reduceLT, reduceCtorEq, Nat.reduceEqDiff, Nat.reduceBEq, Nat.reduceAdd, Nat.reduceLeDiff, Nat.reduceMul, regionN, N_own, N_P, N_keep, keep_u, ty_fieldOff_214_0, ty_szOf_90, ty_shapeT_90, ev_len_sl ty_descOf_90, ev_indexAddr ty_descOf_90, ty_szOf_47, ty_shapeT_47, ty_zeroCells_47, ev_slice_sl ty_descOf_90 ty_szOf_47, ty_isPtrT_243, ev_buildSlice (len := 1) ty_descOf_22 ty_szOf_49 ty_zeroCells_49 ⟨rfl, by decide, by decide⟩, ev_append ty_appInfo_22, ev_appNew_sl ty_descOf_22, e0, hlt, hlens, htk, h01, h1l, Int.le_refl, Int.toNat_zero, Int.toNat_one, hone, good_1, encL_len, hlim, hlv, lens_val, hown, henc]
      rw [exL_headN]
      simp only [go_sem, reduceCtorEq, Nat.reduceEqDiff, Nat.reduceBEq, keep_u]
  · rw [← hf] at heq
    rcases hz with ⟨rfl, rfl⟩ | rfl
    · simp only [go_sem, Nat.reduceLT, reduceCtorEq, Nat.reduceEqDiff, Nat.reduceBEq, Nat.reduceAdd, Nat.reduceLeDiff, Nat.reduceMul, regionN, N_own, N_P, N_keep, keep_u, ty_fieldOff_214_0, ty_szOf_90, ty_shapeT_90, ev_len_sl ty_descOf_90, ev_indexAddr ty_descOf_90, ty_szOf_47, ty_shapeT_47, ty_zeroCells_47, ev_slice_sl ty_descOf_90 ty_szOf_47, ty_isPtrT_243, ev_buildSlice (len := 1) ty_descOf_22 ty_szOf_49 ty_zeroCells_49 ⟨rfl, by decide, by decide⟩, ev_append ty_appInfo_22, ev_appNew_sl ty_descOf_22, e0, hlt, hlens, htk, h01, h1l, Int.le_refl, Int.toNat_zero, Int.toNat_one, heq, hone, good_1, encL_len, hlim, hlv, lens_val, hown, henc]
      rw [exL_headN]
      simp only [go_sem, reduceCtorEq, Nat.reduceEqDiff, Nat.reduceBEq, keep_u]
    · simp only [go_sem, Nat.reduceLT, reduceCtorEq, Nat.reduceEqDiff, Nat.reduceBEq, Nat.reduceAdd, Nat.reduceLeDiff, Nat.reduceMul, regionN, N_own, N_P, N_keep, keep_u, ty_fieldOff_214_0, ty_szOf_90, ty_shapeT_90, ev_len_sl ty_descOf_90, ev_indexAddr ty_descOf_90, ty_szOf_47, ty_shapeT_47, ty_zeroCells_47, ev_slice_sl ty_descOf_90 ty_szOf_47, ty_isPtrT_243, ev_buildSlice (len := 1) ty_descOf_22 ty_szOf_49 ty_zeroCells_49 ⟨rfl, by decide, by decide⟩, ev_append ty_appInfo_22, ev_appNew_sl ty_descOf_22, e0, hlt, hlens, htk, h01, h1l, Int.le_refl, Int.toNat_zero, Int.toNat_one, heq, hone, good_1, encL_len, hlim, hlv, lens_val, hown, henc]
      rw [exL_headN]
      simp only [go_sem, reduceCtorEq, Nat.reduceEqDiff, Nat.reduceBEq, keep_u]
theorem u_stop {t : Tok} {l : List Tok} {kind : Int} {deep wi : Int} {ka : AV} {kb : Option (List CV)} {kl : List (List CV)} (hk : Kd kind ka kb kl) (h : Ne.isLast kind t = false) (e : Nat) (acc : List Val) {b : List CV}
    (hone : den KN 240 [P0, .agg (tokA t), I wi] [rdr l deep] = some (.pan errD [b])) :
    Ends (exL KN 213 ulp (uH (t :: l) deep wi ka kb e acc)) fun o S => o = .pan errD ∧ (∃ b, S.bx 100000 = some b) ∧ S.bx 100001 = kb := by
  have e0 : (t :: l).map Tok.enc = [.int .i64 t.kind, .str t.text, .int .i64 t.n] :: l.map Tok.enc := rfl
  have hlt : decide ((0 : Int) < ((l.length + 1 : Nat) : Int)) = true := decide_eq_true (by omega)
  have htk : (l.map Tok.enc).take l.length = l.map Tok.enc := List.take_of_length_le (by simp)
  have h01 : (0 : Int) ≤ 1 := by decide
  have h1l : (1 : Int) ≤ ((l.length + 1 : Nat) : Int) := by omega
  have hlens : lens 3 ([.int .i64 t.kind, .str t.text, .int .i64 t.n] :: l.map Tok.enc) = true := lens_toks (t :: l)
  have heq := tok_eq t.kind 7 t.n 0 t.text [Ne.closeC kind]
  have hkd := kd_last hk t
  rw [h] at hkd
  unfold ulp
  conv in loopAt _ _ => whnf
  rw [exL_loop]
  rcases hkd with ⟨rfl, rfl, hf⟩ | ⟨rfl, rfl, hf⟩
  · simp only [go_sem, Nat.reduceLT, reduceCtorEq, Nat.reduceEqDiff, Nat.reduceBEq, Nat.reduceAdd, Nat.reduceLeDiff, regionN, N_own, N_P, N_keep, keep_u, ty_fieldOff_214_0, ty_szOf_90, ty_shapeT_90, ev_len_sl ty_descOf_90, ev_indexAddr ty_descOf_90, ty_szOf_47, ty_shapeT_47, ty_zeroCells_47, ev_slice_sl ty_descOf_90 ty_szOf_47, ty_isPtrT_243, e0, hlt, hlens, htk, h01, h1l, Int.le_refl, Int.toNat_zero, Int.toNat_one, hone, good_1, ends_some]
    exact ⟨_, rfl⟩
  · rw [← hf] at heq
    simp only [go_sem, Nat.reduceLT, reduceCtorEq, Nat.reduceEqDiff, Nat.reduceBEq, Nat.reduceAdd, Nat.reduceLeDiff, regionN, N_own, N_P, N_keep, keep_u, ty_fieldOff_214_0, ty_szOf_90, ty_shapeT_90, ev_len_sl ty_descOf_90, ev_indexAddr ty_descOf_90, ty_szOf_47, ty_shapeT_47, ty_zeroCells_47, ev_slice_sl ty_descOf_90 ty_szOf_47, ty_isPtrT_243, e0, hlt, hlens, htk, h01, h1l, Int.le_refl, Int.toNat_zero, Int.toNat_one, heq, hone, good_1, ends_some]
    exact ⟨_, rfl⟩
theorem enc_snoc (acc : List Val) (k : Int) (t : Tok) (vs : List Val) : encL (acc ++ [.mk k t vs]) = encL acc ++ [[.int .i64 k, .int .i64 t.kind, .str t.text, .int .i64 t.n, .sl (encL vs)]] := by
  rw [encL_app]; rfl
theorem opens_pos {t : Tok} (h : Ne.opens t ≠ 0) : 0 < Ne.opens t := by
  rcases Ne.opens_vals t with h1 | h1 | h1 | h1 | h1 <;> omega
theorem u_loop (deep : Int) (hd : deep < 1000) : ∀ (m : Nat) (l : List Tok), l.length ≤ m → ∀ (kind : Int) (left : Nat) (wi : Int) (ka : AV) (kb : Option (List CV)) (kl : List (List CV)), Kd kind ka kb kl → wi + left = deep → 0 ≤ wi →
    ∀ (e : Nat) (acc : List Val), acc.length + l.length ≤ 1000000 → (e = 49 ∨ acc = []) →
    Ends (exL KN 213 ulp (uH l deep wi ka kb e acc)) (ULoop l kind left deep wi ka kb acc) := by
  intro m
  induction m with
  | zero =>
    intro l hl kind left wi ka kb kl hk hw hw0 e acc hacc he
    obtain rfl : l = [] := List.eq_nil_of_length_eq_zero (by omega)
    exact u_nil hk e acc
  | succ m ih =>
    intro l hl kind left wi ka kb kl hk hw hw0 e acc hacc he
    cases l with
    | nil => exact u_nil hk e acc
    | cons t l =>
      rw [List.length_cons] at hl hacc
      have hu := Ne.until_cons kind left t l
      cases hb : Ne.isLast kind t with
      | true => exact u_last hk hb e acc
      | false =>
        rw [hb, if_neg (by simp)] at hu
        by_cases h0 : Ne.opens t = 0
        · rw [if_pos h0] at hu
          have hs := u_step hk hb e acc (acc ++ [.mk 1 t []]) he (by omega) (.inl ⟨rfl, rfl⟩) (enc_snoc acc 1 t []) (one_tok t l deep wi h0)
          rw [hs]
          have hlen2 : (acc ++ [Val.mk 1 t []]).length + l.length ≤ 1000000 := by rw [List.length_append, List.length_singleton]; omega
          have hll : l.length ≤ m := by omega
          have hi := ih l hll kind left wi ka kb kl hk hw hw0 49 (acc ++ [.mk 1 t []]) hlen2 (Or.inl rfl)
          refine ends_imp hi fun o S q => ?_
          unfold ULoop at q ⊢
          rw [hu]
          cases hv : Ne.until_ kind left l with
          | none => rw [hv] at q; exact q
          | some x =>
            rw [hv] at q
            obtain ⟨q1, q2, ⟨e', q3⟩, q4⟩ := q
            exact ⟨q1, q2, ⟨e', by rw [q3, List.append_assoc]; rfl⟩, q4⟩
        · rw [if_neg h0] at hu
          cases left with
          | zero =>
            refine ends_imp (u_stop hk hb e acc (one_deep t l deep wi h0 (by omega))) fun o S q => ?_
            unfold ULoop
            rw [hu]
            exact q
          | succ n =>
            have hpos := opens_pos h0
            have hll : l.length ≤ m := by omega
            have hlen0 : ([] : List Val).length + l.length ≤ 1000000 := by rw [List.length_nil]; omega
            have hw1 : wi + 1 + (n : Int) = deep := by omega
            have hi0 := ih l hll (Ne.opens t) n (wi + 1) _ _ _ (.inner (Ne.opens t) hpos) hw1 (by omega) 0 [] hlen0 (Or.inr rfl)
            have hin := u_den (left := n) (.inner (Ne.opens t) hpos) hi0
            unfold UDen at hin
            simp only at hu
            cases hv : Ne.until_ (Ne.opens t) n l with
            | none =>
              rw [hv] at hin hu
              obtain ⟨b, hin⟩ := hin
              obtain ⟨b', ho⟩ := one_pan t l deep wi _ _ h0 (by omega) ⟨hw0, hd⟩ hin
              refine ends_imp (u_stop hk hb e acc ho) fun o S q => ?_
              unfold ULoop
              rw [hu]
              exact q
            | some x =>
              obtain ⟨vs, rest⟩ := x
              rw [hv] at hin hu
              have ho := one_in t l rest vs deep wi h0 (by omega) ⟨hw0, hd⟩ hin
              have hlen := Ne.until_len hv
              have hs := u_step hk hb e acc (acc ++ [.mk (Ne.opens t) (if Ne.opens t = 5 then t else Ne.tok0) vs]) he (by omega) (.inr rfl) (enc_snoc acc (Ne.opens t) _ vs) ho
              rw [hs]
              simp only at hlen hu
              have hlen2 : (acc ++ [Val.mk (Ne.opens t) (if Ne.opens t = 5 then t else Ne.tok0) vs]).length + rest.length ≤ 1000000 := by rw [List.length_append, List.length_singleton]; omega
              have hll : rest.length ≤ m := by omega
              have hi := ih rest hll kind (n + 1) wi ka kb kl hk hw hw0 49 (acc ++ [.mk (Ne.opens t) (if Ne.opens t = 5 then t else Ne.tok0) vs]) hlen2 (Or.inl rfl)
              refine ends_imp hi fun o S q => ?_
              unfold ULoop at q ⊢
              rw [hu]
              cases hv2 : Ne.until_ kind (n + 1) rest with
              | none => rw [hv2] at q; exact q
              | some x =>
                rw [hv2] at q
                obtain ⟨q1, q2, ⟨e', q3⟩, q4⟩ := q
                exact ⟨q1, q2, ⟨e', by rw [q3, List.append_assoc]; rfl⟩, q4⟩
theorem until_all (l : List Tok) (hl : l.length ≤ 1000000) (deep : Nat) (hd : deep < 1000) : UDen l 0 deep deep 0 (.c .nilp) [] :=
  u_den .top (u_loop deep (by omega) l.length l (Nat.le_refl _) 0 deep 0 _ _ _ .top (by omega) (by omega) 0 [] (by rw [List.length_nil]; omega) (.inr rfl))
end Go.Abs.NR
namespace Go.Abs
open Go Go.Proofs Go.RowKit
theorem frozen_of_heap {w : World} {b : Nat} {cs : Array Value} {ty : TypeId} (h : w.heap[b]? = some (.cells cs ty (0, 0))) (o : Nat) : w.frozen? ⟨b, o, none⟩ = false := by
  unfold World.frozen?
  rw [h]
  simp
theorem heap_set_other (w : World) (a : Addr) (v : Value) {b : Nat} (h : b ≠ a.block) : (w.setCell a v).heap[b]? = w.heap[b]? := by
  simp only [World.setCell, Array.getElem?_modify]
  rw [if_neg (by omega)]
set_option maxRecDepth 100000 in
set_option maxHeartbeats 4000000 in
theorem catch_panicking (bp be : Nat) (older : List PanicEntry) (w : World) (x y : Value) (tp te : TypeId) (hne : bp ≠ be) (h1 : w.heap[bp]? = some (.cells #[x] tp (0, 0))) (h2 : w.heap[be]? = some (.cells #[y] te (0, 0))) :
    CallsD Tryz.prog 212 #[.pointer (some ⟨bp, 0, none⟩), .pointer (some ⟨be, 0, none⟩)] (.panicking ({ v := .iface 210 (.agg #[]), recovered := false } :: older)) w fun e u' w' =>
      e = .returned (.tuple #[]) ∧ u' = .panicking ({ v := .iface 210 (.agg #[]), recovered := true } :: older) ∧
        w' = ((w.alloc (.cells #[] 210)).setCell ⟨bp, 0, none⟩ (.slice none 0 0)).setCell ⟨be, 0, none⟩ (.int .i64 20) := by
  have hta : ∀ w : World, (Instr.typeAssert (.iface 210 (.agg #[])) 20 210 true).run Tryz.prog w = .ok (.tuple #[.agg #[], .bool true]) w := fun _ => by kernel_rfl
  have k1 : (w.alloc (.cells #[] 210)).heap[bp]? = some (.cells #[x] tp (0, 0)) := (heap_old w _ bp (Array.getElem?_eq_some_iff.1 h1).1).trans h1
  have k2 : (w.alloc (.cells #[] 210)).heap[be]? = some (.cells #[y] te (0, 0)) := (heap_old w _ be (Array.getElem?_eq_some_iff.1 h2).1).trans h2
  have k3 : ((w.alloc (.cells #[] 210)).setCell ⟨bp, 0, none⟩ (.slice none 0 0)).heap[be]? = some (.cells #[y] te (0, 0)) := (heap_set_other _ _ _ (by simpa using hne.symm)).trans k2
  have c1 : (w.alloc (.cells #[] 210)).cell? ⟨bp, 0, none⟩ = some x := cell_of_heap k1 0
  have f1 := frozen_of_heap k1 0
  have c3 : ((w.alloc (.cells #[] 210)).setCell ⟨bp, 0, none⟩ (.slice none 0 0)).cell? ⟨be, 0, none⟩ = some y := cell_of_heap k3 0
  have f3 := frozen_of_heap k3 0
  clear k1 k2 k3 h1 h2 hne
  refine callsD_of_wpS Tryz.func212 rfl fun c₀ cs hu => ?_
  apply wpS_seq
  apply wpS_region
  simp [wpOpsS, go_sem, recoverD, hu, Tryz.ntmps212, Exit.thenS]
  refine wpS_of_wp ?_
  go_wp2
  simp [bodyPostS, results, Tryz.results212]
theorem catch_idle (pv pe : Addr) (w : World) :
    CallsD Tryz.prog 212 #[.pointer (some pv), .pointer (some pe)] .returning w fun e u' w' => e = .returned (.tuple #[]) ∧ u' = .returning ∧ w' = w := by
  refine callsD_of_wpS Tryz.func212 rfl fun c₀ cs hu => ?_
  apply wpS_seq
  apply wpS_region
  simp [wpOpsS, go_sem, recoverD, hu, Tryz.ntmps212, Exit.thenS]
  refine wpS_of_wp ?_
  go_wp2
  cases c₀
  simp_all [bodyPostS, results, Tryz.results212]
abbrev slV : Obj := .cells #[.slice none 0 0] 22
abbrev inE : Obj := .cells #[.int .i64 0] 35
abbrev rdO (x : Value) (deep : Int) : Obj := .cells #[x, .int .i64 deep] 214
set_option maxRecDepth 100000 in
set_option maxHeartbeats 4000000 in
theorem parse_no (x : Value) (deep : Int) (w : World) (hd : deep < 1 ∨ 60 < deep) :
    Calls Tryz.prog 155 #[x, .int .i64 deep] w fun e w' => e = .returned (.tuple #[.slice none 0 0, .int .i64 1]) ∧
      w' = (w.alloc (.cells #[.slice none 0 0] 22)).alloc (.cells #[.int .i64 1] 35) := by
  have hmf : ∀ (fn : Fn) (first cap : Array Value) (w : World), (Instr.makeFunc fn first cap).run Tryz.prog w = .ok (.func fn first cap) w := fun _ _ _ _ => rfl
  go_enter_defers Tryz.func155, Tryz.ntmps155
  go_wp2
  all_goals simp [bodyPostD, Leaves, results, Tryz.results155, go_sem]
set_option maxRecDepth 100000 in
set_option maxHeartbeats 4000000 in
theorem parse_yes (pa : Option Addr) (pn pc : Nat) (deep : Int) (w : World) (hd : ¬ deep < 1) (hd2 : ¬ 60 < deep) (Qr : Option Addr → Nat → Nat → World → Prop) (Qp : World → Prop)
    (hu : Calls Tryz.prog 213 #[.pointer (some ⟨w.heap.size + 2, 0, none⟩), .pointer none, .int .i64 0] (((w.alloc slV).alloc inE).alloc (rdO (.slice pa pn pc) deep)) fun e w' =>
      w'.heap[w.heap.size]? = some slV ∧ w'.heap[w.heap.size + 1]? = some inE ∧ ((∃ va vn vc, e = .returned (.slice va vn vc) ∧ Qr va vn vc w') ∨ (e = .panicked [{ v := .iface 210 (.agg #[]), recovered := false }] ∧ Qp w'))) :
    Calls Tryz.prog 155 #[.slice pa pn pc, .int .i64 deep] w fun e w'' =>
      (∃ va vn vc w', Qr va vn vc w' ∧ e = .returned (.tuple #[.slice va vn vc, .int .i64 0]) ∧ w'' = (w'.setCell ⟨w.heap.size, 0, none⟩ (.slice va vn vc)).setCell ⟨w.heap.size + 1, 0, none⟩ (.int .i64 0)) ∨
      (∃ w', Qp w' ∧ e = .returned (.tuple #[.slice none 0 0, .int .i64 20]) ∧ w'' = ((w'.alloc (.cells #[] 210)).setCell ⟨w.heap.size, 0, none⟩ (.slice none 0 0)).setCell ⟨w.heap.size + 1, 0, none⟩ (.int .i64 20)) := by
  have hmf : ∀ (fn : Fn) (first cap : Array Value) (w : World), (Instr.makeFunc fn first cap).run Tryz.prog w = .ok (.func fn first cap) w := fun _ _ _ _ => rfl
  go_enter_defers Tryz.func155, Tryz.ntmps155
  go_wp2_with (go_at_call 213; refine hu.mono ?_)
  intro e w' k1 k2 hq
  have c1 : w'.cell? ⟨w.heap.size, 0, none⟩ = some (.slice none 0 0) := cell_of_heap k1 0
  have f1 := frozen_of_heap k1 0
  rcases hq with ⟨va, vn, vc, rfl, hq⟩ | ⟨rfl, hq⟩
  · have k3 : (w'.setCell ⟨w.heap.size, 0, none⟩ (.slice va vn vc)).heap[w.heap.size + 1]? = some inE := (heap_set_other _ _ _ (by simp)).trans k2
    have c3 : (w'.setCell ⟨w.heap.size, 0, none⟩ (.slice va vn vc)).cell? ⟨w.heap.size + 1, 0, none⟩ = some (.int .i64 0) := cell_of_heap k3 0
    have f3 := frozen_of_heap k3 0
    go_wp2
    refine leaves_cons (f := 212) (args := #[.pointer (some ⟨w.heap.size, 0, none⟩), .pointer (some ⟨w.heap.size + 1, 0, none⟩)]) (by simp) (by simp [go_sem]) ?_
    refine (catch_idle _ _ _).mono ?_
    rintro e u' w'' ⟨rfl, rfl, rfl⟩
    have e1 : ((w'.setCell ⟨w.heap.size, 0, none⟩ (.slice va vn vc)).setCell ⟨w.heap.size + 1, 0, none⟩ (.int .i64 0)).cell? ⟨w.heap.size, 0, none⟩ = some (.slice va vn vc) := by
      rw [World.cell?_setCell_other _ _ _ _ (by simp)]
      exact World.cell?_setCell_same _ _ _ c1
    have e2 : ((w'.setCell ⟨w.heap.size, 0, none⟩ (.slice va vn vc)).setCell ⟨w.heap.size + 1, 0, none⟩ (.int .i64 0)).cell? ⟨w.heap.size + 1, 0, none⟩ = some (.int .i64 0) := World.cell?_setCell_same _ _ _ c3
    refine ⟨.tuple #[.slice va vn vc, .int .i64 0], ?_, .inl ⟨va, vn, vc, w', hq, rfl, rfl⟩⟩
    simp [results, Tryz.results155, go_sem, e1, e2]
  · go_wp2
    refine leaves_cons (f := 212) (args := #[.pointer (some ⟨w.heap.size, 0, none⟩), .pointer (some ⟨w.heap.size + 1, 0, none⟩)]) (by simp) (by simp [go_sem]) ?_
    refine (catch_panicking _ _ [] _ _ _ _ _ (by simp) k1 k2).mono ?_
    rintro e u' w'' ⟨rfl, rfl, rfl⟩
    have g1 : (w'.alloc (.cells #[] 210)).heap[w.heap.size]? = some slV := (heap_old w' _ _ (Array.getElem?_eq_some_iff.1 k1).1).trans k1
    have g2 : (w'.alloc (.cells #[] 210)).heap[w.heap.size + 1]? = some inE := (heap_old w' _ _ (Array.getElem?_eq_some_iff.1 k2).1).trans k2
    have k3 : ((w'.alloc (.cells #[] 210)).setCell ⟨w.heap.size, 0, none⟩ (.slice none 0 0)).heap[w.heap.size + 1]? = some inE := (heap_set_other _ _ _ (by simp)).trans g2
    have d1 : (w'.alloc (.cells #[] 210)).cell? ⟨w.heap.size, 0, none⟩ = some (.slice none 0 0) := cell_of_heap g1 0
    have d3 : ((w'.alloc (.cells #[] 210)).setCell ⟨w.heap.size, 0, none⟩ (.slice none 0 0)).cell? ⟨w.heap.size + 1, 0, none⟩ = some (.int .i64 0) := cell_of_heap k3 0
    have e1 : (((w'.alloc (.cells #[] 210)).setCell ⟨w.heap.size, 0, none⟩ (.slice none 0 0)).setCell ⟨w.heap.size + 1, 0, none⟩ (.int .i64 20)).cell? ⟨w.heap.size, 0, none⟩ = some (.slice none 0 0) := by
      rw [World.cell?_setCell_other _ _ _ _ (by simp)]
      exact World.cell?_setCell_same _ _ _ d1
    have e2 : (((w'.alloc (.cells #[] 210)).setCell ⟨w.heap.size, 0, none⟩ (.slice none 0 0)).setCell ⟨w.heap.size + 1, 0, none⟩ (.int .i64 20)).cell? ⟨w.heap.size + 1, 0, none⟩ = some (.int .i64 20) := World.cell?_setCell_same _ _ _ d3
    refine ⟨.tuple #[.slice none 0 0, .int .i64 20], ?_, .inr ⟨w', hq, rfl, rfl⟩⟩
    simp [results, Tryz.results155, go_sem, e1, e2]
end Go.Abs
namespace Go.Abs
open Go Go.Proofs Go.RowKit
open NR (goodsN prN)
def goodBN (P : Program) (f : Nat) : Bool :=
  match P.funcs[f]? with
  | some fn => fn.name != "runtime.NumGoroutine" && (match fn.body with | some c => codeOK (fun _ => false) c | none => false)
  | none => false
theorem goodsN_ok : goodsN.all (goodBN Tryz.prog) = true := by kernel_rfl
theorem KN_prog : Prog NR.KN := by
  refine ⟨by kernel_rfl, fun g hg => ?_, fun f F args bxs x _ hF hx => ?_, fun f F args bxs r call _ hF => by cases hF⟩
  · have h1 : g ∈ goodsN := by simpa [NR.KN] using hg
    have h2 := List.all_eq_true.1 goodsN_ok g h1
    unfold goodBN at h2
    split at h2
    · rename_i fn hfn
      simp only [Bool.and_eq_true] at h2
      obtain ⟨h3, h4⟩ := h2
      split at h4
      · rename_i c hc
        exact ⟨fn, c, hfn, by simpa using h3, hc, h4⟩
      · cases h4
    · cases h2
  · have h2 : prN f = some F := hF
    unfold prN at h2
    split at h2
    · rename_i hf
      cases h2
      obtain rfl : f = 219 := by simpa using hf
      exact pPairs_ok hx
    · split at h2
      · rename_i hf
        cases h2
        obtain rfl : f = 272 := by simpa using hf
        exact pOpens_ok hx
      · cases h2
def decT : List PV → Option Tok
  | [.int .i64 k, .str s, .int .i64 n] => some ⟨k, s, n⟩
  | _ => none
def decTs : List (List PV) → Option (List Tok)
  | [] => some []
  | c :: l => match decT c, decTs l with
    | some t, some m => some (t :: m)
    | _, _ => none
theorem decT_enc {c : List PV} {t : Tok} (h : decT c = some t) : c = t.enc := by
  unfold decT at h
  split at h
  · cases h; rfl
  · cases h
theorem enc_dec : ∀ {c : List (List PV)} {l : List Tok}, decTs c = some l → c = l.map Tok.enc
  | [], l, h => by cases h; rfl
  | c :: cs, l, h => by
    unfold decTs at h
    split at h
    · rename_i t m h1 h2
      cases h
      rw [List.map_cons, ← decT_enc h1, ← enc_dec h2]
    · cases h
def parseR (deep : Int) (l : List Tok) : AV :=
  if deep < 1 ∨ 60 < deep then .tup [.c (.pv (.sl [])), .c (.pv (.int .i64 1))]
  else match Ne.until_ 0 deep.toNat l with
    | some x => .tup [.c (.pv (.sl (encL x.1))), .c (.pv (.int .i64 0))]
    | none => .tup [.c (.pv (.sl [])), .c (.pv (.int .i64 20))]
def pParse : Prim
  | [.c (.pv (.sl c)), .c (.pv (.int .i64 deep))], [] => (match decTs c with
    | some l => if l.length ≤ 1000000 then some (parseR deep l, []) else none
    | none => none)
  | [.c .nils, .c (.pv (.int .i64 deep))], [] => some (parseR deep [], [])
  | _, _ => none
section
variable {G G2 : Gh} {w w' w'' : World}
theorem parse_ext {x : Value} {deep : Int} (hw : WI G w) (hb0 : ∀ s, G.bb s = none) (hx : Ext (G.box LK (w.heap.size + 2)) (((w.alloc slV).alloc inE).alloc (rdO x deep)) G2 w') (hw2 : WI G2 w')
    (hs : w'.heap.size ≤ w''.heap.size) (ho : w''.os = w'.os) (hp : w''.output = w'.output) (ht : w''.tape = w'.tape) (hh : ∀ b, b < w'.heap.size → b ≠ w.heap.size → b ≠ w.heap.size + 1 → w''.heap[b]? = w'.heap[b]?) :
    Ext G w { G2 with bb := G.bb } w'' ∧ WI { G2 with bb := G.bb } w'' := by
  have hsz : (((w.alloc slV).alloc inE).alloc (rdO x deep)).heap.size = w.heap.size + 3 := by rw [alloc_size, alloc_size, alloc_size]
  have hold : ∀ b, b < w.heap.size → (((w.alloc slV).alloc inE).alloc (rdO x deep)).heap[b]? = w.heap[b]? := fun b hb => by
    rw [heap_old _ _ _ (by rw [alloc_size, alloc_size]; omega), heap_old _ _ _ (by rw [alloc_size]; omega), heap_old _ _ _ hb]
  have how : ∀ b, b ≠ w.heap.size + 2 → (G.box LK (w.heap.size + 2)).ow b = G.ow b := fun b hb => by
    show upd G.ow (w.heap.size + 2) _ b = _
    unfold upd; rw [if_neg hb]
  have hnI : ∀ b, w.heap.size ≤ b → b < w.heap.size + 2 → ∀ o, G2.I b o = none := fun b h1 h2 o => by
    have h3 := hx.old b (by rw [hsz]; omega) ((how b (by omega)).trans (hw.fresh b h1).2)
    exact (h3.2.2 o).trans ((hw.fresh b h1).1 o)
  have hold2 : ∀ b, b < w.heap.size → G.ow b = none → G2.ow b = none ∧ w''.heap[b]? = w.heap[b]? ∧ ∀ o, G2.I b o = G.I b o := fun b hb hn => by
    have h3 := hx.old b (by rw [hsz]; omega) ((how b (by omega)).trans hn)
    have := hx.size
    rw [hsz] at this
    exact ⟨h3.1, (hh b (by omega) (by omega) (by omega)).trans (h3.2.1.trans (hold b hb)), h3.2.2⟩
  have hsize := hx.size
  rw [hsz] at hsize
  refine ⟨⟨hx.I, hold2, by omega, ho.trans hx.os, hp.trans hx.output, ht.trans hx.tape, fun _ _ => rfl⟩, ⟨fun b o y h => ?_, fun b hb => hw2.fresh b (by omega), hw2.boxI, fun s b hb => absurd (show G.bb s = some b from hb) (by rw [hb0]; simp), hw.tab.map fun b hb hn => ⟨(hold2 b hb hn).1, (hold2 b hb hn).2.1⟩⟩⟩
  have h1 : G2.I b o = some y := h
  have hlt := I_lt hw2 h1
  have e : w''.heap[b]? = w'.heap[b]? := hh b hlt (fun e => by rw [e, hnI _ (Nat.le_refl _) (by omega)] at h1; cases h1) (fun e => by rw [e, hnI _ (by omega) (by omega)] at h1; cases h1)
  have := hw2.cell b o y h1
  unfold World.cell? at this ⊢
  rw [e]
  exact this
theorem box_WI {o : Obj} (hw : WI G w) {k : Nat} (hk : G.bb k = none) : WI (G.box k w.heap.size) (w.alloc o) := by
  refine ⟨fun b o y hI => ?_, fun b hb => ?_, fun b s hb o => ?_, fun s b hb => ?_, hw.tab.map fun c hc ho => ⟨?_, heap_old w _ c hc⟩⟩
  · rw [cell_alloc_old w _ (I_lt hw hI)]; exact hw.cell b o y hI
  · rw [alloc_size] at hb
    refine ⟨(hw.fresh b (by omega)).1, ?_⟩
    show upd G.ow w.heap.size _ b = none
    unfold upd; rw [if_neg (by omega)]; exact (hw.fresh b (by omega)).2
  · have hb' : upd G.ow w.heap.size (some (.box k)) b = some (.box s) := hb
    unfold upd at hb'
    split at hb'
    · rename_i he; subst he; exact (hw.fresh _ (Nat.le_refl _)).1 o
    · exact hw.boxI b s hb' o
  · have hb' : upd G.bb k (some w.heap.size) s = some b := hb
    show upd G.ow w.heap.size _ b = _
    unfold upd at hb' ⊢
    split at hb'
    · rename_i he; subst he; cases hb'; rw [if_pos rfl]
    · have h1 := hw.bbow s b hb'
      have h2 := ow_lt hw h1
      rw [if_neg (by omega)]; exact h1
  · show upd G.ow w.heap.size _ c = none
    unfold upd; rw [if_neg (by omega)]; exact ho
end
theorem set_heap (w : World) (a b : Addr) (v v' : Value) (k : Nat) (h1 : k ≠ a.block) (h2 : k ≠ b.block) : ((w.setCell a v).setCell b v').heap[k]? = w.heap[k]? := by
  rw [heap_set_other _ _ _ h2, heap_set_other _ _ _ h1]
theorem set_size (w : World) (a : Addr) (v : Value) : (w.setCell a v).heap.size = w.heap.size := by
  simp [World.setCell]
theorem parse_ok {l : List Tok} {deep : Int} {v : AV} (hlen : l.length ≤ 1000000) (hv : ∀ {G : Gh} {w : World} {x : Value}, RA G w .ret v x → RP G.I (.sl (l.map Tok.enc)) x) :
    Contract Tryz.prog 155 [v, .c (.pv (.int .i64 deep))] [] (.ret (parseR deep l) []) := by
  intro G w cargs hw hargs _ _ hbb
  have hb0 : ∀ s, G.bb s = none := fun s => by
    cases e : G.bb s with
    | none => rfl
    | some b => obtain ⟨i, hi, _⟩ := hbb s b e; simp at hi
  obtain ⟨x, y, rfl, hx, hy⟩ := args_two hargs
  cases hy.intv
  have hxp : RP G.I (.sl (l.map Tok.enc)) x := hv hx
  obtain ⟨pa, pc, rfl, _, _⟩ := hxp.slice_inv
  unfold parseR
  by_cases hd : deep < 1 ∨ 60 < deep
  · rw [if_pos hd]
    refine (parse_no _ deep w hd).mono ?_
    rintro e w' ⟨rfl, rfl⟩
    obtain ⟨g, hw'⟩ := below_gr (w' := (w.alloc (.cells #[.slice none 0 0] 22)).alloc (.cells #[.int .i64 1] 35)) hw (((Below.refl _ _).alloc (Nat.le_refl _) _).alloc (by simp) _)
    exact ⟨G, g.ext, hw', _, rfl, ⟨[_, _], rfl, .cons (.sl0 _ _) (.cons (.int _ _) .nil)⟩, rfl, fun i l h => by simp at h⟩
  · rw [if_neg hd]
    have hd1 : ¬ deep < 1 := fun h => hd (.inl h)
    have hd2 : ¬ 60 < deep := fun h => hd (.inr h)
    obtain ⟨d, rfl⟩ : ∃ d : Nat, deep = d := ⟨deep.toNat, by omega⟩
    rw [Int.toNat_natCast]
    have hu := NR.until_all l hlen d (by omega)
    unfold NR.UDen at hu
    obtain ⟨g1, hw1⟩ := below_gr (w' := (w.alloc slV).alloc inE) hw (((Below.refl _ _).alloc (Nat.le_refl _) _).alloc (by simp) _)
    have hn1 : ((w.alloc slV).alloc inE).heap.size = w.heap.size + 2 := by rw [alloc_size, alloc_size]
    have hw3 : WI (G.box LK (w.heap.size + 2)) (((w.alloc slV).alloc inE).alloc (rdO (.slice pa (l.map Tok.enc).length pc) d)) := by
      have := box_WI (o := rdO (.slice pa (l.map Tok.enc).length pc) d) hw1 (hb0 LK)
      rw [hn1] at this
      exact this
    have hnew : (((w.alloc slV).alloc inE).alloc (rdO (.slice pa (l.map Tok.enc).length pc) d)).heap[w.heap.size + 2]? = some (rdO (.slice pa (l.map Tok.enc).length pc) d) := by
      have := heap_alloc_new ((w.alloc slV).alloc inE) (rdO (.slice pa (l.map Tok.enc).length pc) d)
      rw [hn1] at this
      exact this
    have hbbk : (G.box LK (w.heap.size + 2)).bb LK = some (w.heap.size + 2) := by simp [Gh.box, upd]
    have hcall : ∀ r, den NR.KN 213 [.c (.loc 100000 0), .c .nilp, .c (.pv (.int .i64 0))] [NR.rdr l d] = some r →
        Calls Tryz.prog 213 #[.pointer (some ⟨w.heap.size + 2, 0, none⟩), .pointer none, .int .i64 0] (((w.alloc slV).alloc inE).alloc (rdO (.slice pa (l.map Tok.enc).length pc) d)) fun e w' =>
          ∃ G2, Ext (G.box LK (w.heap.size + 2)) (((w.alloc slV).alloc inE).alloc (rdO (.slice pa (l.map Tok.enc).length pc) d)) G2 w' ∧ WI G2 w' ∧ REnd 1 G2 w' e r := fun r hr => by
      refine den_ok KN_prog NR.good_u hr _ _ [.pointer (some ⟨w.heap.size + 2, 0, none⟩), .pointer none, .int .i64 0] hw3 ?_ ?_ ?_ ?_
      · exact .cons ⟨w.heap.size + 2, hbbk, rfl⟩ (.cons rfl (.cons (.int _ _) .nil))
      · intro v hv
        simp only [List.mem_cons, List.not_mem_nil, or_false] at hv
        rcases hv with rfl | rfl | rfl <;> rfl
      · intro i b hi
        cases i with
        | succ i => simp at hi
        | zero =>
          simp only [List.getElem?_cons_zero, Option.some.injEq] at hi
          subst hi
          refine ⟨w.heap.size + 2, _, _, hbbk, hnew, ⟨rfl, fun e => by simp at e⟩, fun k v hk => ?_⟩
          match k with
          | 0 =>
            simp only [List.getElem?_cons_zero, Option.some.injEq] at hk
            subst hk
            exact ⟨_, rfl, hxp⟩
          | 1 =>
            simp only [List.getElem?_cons_succ, List.getElem?_cons_zero, Option.some.injEq] at hk
            subst hk
            exact ⟨_, rfl, .int _ _⟩
          | k + 2 => simp at hk
      · intro s b hs
        have hs' : upd G.bb LK (some (w.heap.size + 2)) s = some b := hs
        unfold upd at hs'
        split at hs'
        · rename_i he; exact ⟨0, by simp, by omega⟩
        · rw [hb0] at hs'; cases hs'
    have hheap : ∀ {G2 : Gh} {w' : World}, Ext (G.box LK (w.heap.size + 2)) (((w.alloc slV).alloc inE).alloc (rdO (.slice pa (l.map Tok.enc).length pc) d)) G2 w' →
        w'.heap[w.heap.size]? = some slV ∧ w'.heap[w.heap.size + 1]? = some inE := fun {G2 w'} hx2 => by
      have how : ∀ b, w.heap.size ≤ b → b ≠ w.heap.size + 2 → (G.box LK (w.heap.size + 2)).ow b = none := fun b h1 h2 => by
        show upd G.ow (w.heap.size + 2) _ b = _
        unfold upd; rw [if_neg h2]; exact (hw.fresh b h1).2
      constructor
      · rw [(hx2.old w.heap.size (by rw [alloc_size, hn1]; omega) (how _ (Nat.le_refl _) (by omega))).2.1, heap_old _ _ _ (by rw [hn1]; omega), heap_old _ _ _ (by rw [alloc_size]; omega)]
        exact heap_alloc_new w _
      · rw [(hx2.old (w.heap.size + 1) (by rw [alloc_size, hn1]; omega) (how _ (by omega) (by omega))).2.1, heap_old _ _ _ (by rw [hn1]; omega)]
        have := heap_alloc_new (w.alloc slV) inE
        rw [alloc_size] at this
        exact this
    cases hv : Ne.until_ 0 d l with
    | some x =>
      rw [hv] at hu
      refine (parse_yes pa _ pc d w hd1 hd2 (fun va vn vc w' => ∃ G2, Ext (G.box LK (w.heap.size + 2)) (((w.alloc slV).alloc inE).alloc (rdO (.slice pa (l.map Tok.enc).length pc) d)) G2 w' ∧ WI G2 w' ∧ RP G2.I (.sl (encL x.1)) (.slice va vn vc)) (fun _ => False) ?_).mono ?_
      · refine (hcall _ hu).mono ?_
        rintro e w' ⟨G2, hx2, hw2, v, rfl, hr, _, _⟩
        have hr' : RP G2.I (.sl (encL x.1)) v := hr
        obtain ⟨va, vc, rfl, _, _⟩ := hr'.slice_inv
        exact ⟨(hheap hx2).1, (hheap hx2).2, .inl ⟨va, _, vc, rfl, G2, hx2, hw2, hr'⟩⟩
      · rintro e w'' (⟨va, vn, vc, w', ⟨G2, hx2, hw2, hr⟩, rfl, rfl⟩ | ⟨w', hf, _⟩)
        · obtain ⟨k1, k2⟩ := parse_ext (w'' := (w'.setCell ⟨w.heap.size, 0, none⟩ (.slice va vn vc)).setCell ⟨w.heap.size + 1, 0, none⟩ (.int .i64 0)) hw hb0 hx2 hw2 (by rw [set_size, set_size]; exact Nat.le_refl _) rfl rfl rfl (fun b _ h1 h2 => set_heap w' _ _ _ _ b h1 h2)
          exact ⟨_, k1, k2, _, rfl, ⟨[_, _], rfl, .cons hr (.cons (.int _ _) .nil)⟩, rfl, fun i l h => by simp at h⟩
        · exact hf.elim
    | none =>
      rw [hv] at hu
      obtain ⟨b1, hu⟩ := hu
      refine (parse_yes pa _ pc d w hd1 hd2 (fun _ _ _ _ => False) (fun w' => ∃ G2, Ext (G.box LK (w.heap.size + 2)) (((w.alloc slV).alloc inE).alloc (rdO (.slice pa (l.map Tok.enc).length pc) d)) G2 w' ∧ WI G2 w') ?_).mono ?_
      · refine (hcall _ hu).mono ?_
        rintro e w' ⟨G2, hx2, hw2, v, rfl, hr, _, _⟩
        have hr' : RP G2.I (.ifa 210 []) v := hr
        cases hr'
        exact ⟨(hheap hx2).1, (hheap hx2).2, .inr ⟨rfl, G2, hx2, hw2⟩⟩
      · rintro e w'' (⟨va, vn, vc, w', hf, _⟩ | ⟨w', ⟨G2, hx2, hw2⟩, rfl, rfl⟩)
        · exact hf.elim
        · obtain ⟨k1, k2⟩ := parse_ext (w'' := ((w'.alloc (.cells #[] 210)).setCell ⟨w.heap.size, 0, none⟩ (.slice none 0 0)).setCell ⟨w.heap.size + 1, 0, none⟩ (.int .i64 20)) hw hb0 hx2 hw2 (by rw [set_size, set_size, alloc_size]; omega) rfl rfl rfl (fun b hb h1 h2 => by rw [set_heap _ _ _ _ _ b h1 h2, heap_old _ _ _ hb])
          exact ⟨_, k1, k2, _, rfl, ⟨[_, _], rfl, .cons (.sl0 _ _) (.cons (.int _ _) .nil)⟩, rfl, fun i l h => by simp at h⟩
theorem pParse_ok {args : List AV} {bxs : List (List CV)} {x : AV × List (List CV)} (h : pParse args bxs = some x) : Contract Tryz.prog 155 args bxs (.ret x.1 x.2) := by
  unfold pParse at h
  split at h
  · rename_i c deep
    split at h
    case h_2 => cases h
    rename_i l hdec
    split at h
    case isFalse => cases h
    rename_i hlen
    cases h
    obtain rfl := enc_dec hdec
    exact parse_ok hlen (fun hx => hx)
  · cases h
    refine parse_ok (l := []) (by simp) (fun hx => ?_)
    cases hx
    exact .sl0 _ _
  · cases h
end Go.Abs
namespace Go.Abs
open Go Go.Proofs
set_option maxRecDepth 10000
def keep0 (f r : Nat) : List Nat × List Nat := if f == 291 && r == 18 then ([1, 45], []) else if f == 264 && r == 38 then ([175], []) else if f == 264 && r == 5 then ([0, 7, 8, 9], []) else ([], [])
def pr0 (f : Nat) : Option Prim := if f == 244 then some pIndexByte else none
noncomputable def K0 : Cfg := { P := Tryz.prog, pr := pr0, keep := keep0, ownRet := fun _ => false, good := [291, 295, 264, 283, 244].contains, hook := fun _ _ => false }
theorem K0_own (f : FuncId) : K0.ownRet f = false := rfl
theorem K0_hook (f i : Nat) : K0.hook f i = false := rfl
theorem region0 (f : FuncId) (id : Nat) (ops : Array Oper) (draw : Bool) (S : St) : exL K0 f (.region id ops draw) S = runRegion K0 (den K0) ops.toList draw S := exL_region f id ops draw S (K0_hook f id)
theorem K0_P : K0.P = Tryz.prog := rfl
theorem K0_keep (f r : Nat) : K0.keep f r = keep0 f r := rfl
theorem K0_keep18 : keep0 291 18 = ([1, 45], []) := by decide
theorem K0_keep5 : keep0 264 5 = ([0, 7, 8, 9], []) := by decide
theorem K0_good1 : K0.good 295 = true := rfl
theorem K0_good2 : K0.good 264 = true := rfl
theorem K0_good3 : K0.good 283 = true := rfl
theorem K0_good4 : K0.good 244 = true := rfl
theorem K0_str : descOf Tryz.prog 9 = some .str := by kernel_rfl
theorem K0_rune : descOf Tryz.prog 21 = some (.int .i32) := by kernel_rfl
theorem K0_byte : descOf Tryz.prog 5 = some (.int .u8) := by kernel_rfl
theorem den_run0 {f : FuncId} {fn : Func} {x : Code} {nt : Nat} {args : List AV} {bxs : List (List CV)} {r : Res} (hp : pr0 f = none) (hf : Tryz.prog.funcs[f]? = some fn) (hx : fn.body = some x) (hn : fn.ntmps = nt)
    (hl : args.length ≤ nt ∧ nt < LK) (h : (exL K0 f x (enterSt nt args bxs)).bind (fun r => leave K0 f fn bxs.length (some r)) = some r) : den K0 f args bxs = some r := by
  rw [den_eq (K := K0) hp rfl hf hx, hn, if_pos hl]
  exact h
theorem use0_den (n : Int) : den K0 295 [.c (.pv (.int .i64 n))] [] = some (.ret (.c (.pv (.bool (decide (8 < n))))) []) := by
  refine den_run0 rfl Tryz.func295 rfl Tryz.ntmps295 ⟨by simp, by simp [LK]⟩ ?_
  have hr : Tryz.f295.results = #[.tmp 2] := rfl
  simp only [exL_seq, exL_ret, runRegion, runOps, stepOp, guardA, absOp, takeOver, opd, avOf, cvOf, St.degAt, St.put, okPV, absBin, intBin, setBoxes, if_true, Bool.false_eq_true, if_false, Option.map_some, Option.bind_some, thenO, upd, List.toList_toArray, isOwn, steal, appArgs, mvB, inApps, AV.deg, CV.deg, AV.isIter, Nat.reduceLT, reduceCtorEq, Nat.reduceEqDiff, List.length_nil, List.length_cons, List.filterMap_cons, List.filterMap_nil, List.getElem?_cons_zero, List.getElem?_cons_succ, Option.getD_some, Nat.reduceBEq, AV.ren, CV.ren, enterSt, leave, resOf, resVars, resVar, outBoxes, lentOnly, TV.deg, TV.av, LK, List.all_nil, List.any_nil, List.contains_nil, Bool.and_true, Bool.or_true, Bool.or_false, Bool.not_false, Nat.reduceAdd, Nat.zero_add, List.toList_toArray, Option.some.injEq, ite_self, memOK, logOps, opKey, Key.clash, Key.sees, Key.writes, beq_self_eq_true, region0, K0_own, K0_P, hr]
theorem byte0_den (s : List UInt8) (c : Int) : den K0 244 [.c (.pv (.str s)), .c (.pv (.int .u8 c))] [] = some (.ret (.c (.pv (.int .i64 (Lib.indexByte s c.toNat.toUInt8)))) []) := by
  rw [den_prim (K := K0) (F := pIndexByte) rfl]
  rfl
theorem valid0_den (r : Int) : den K0 283 [.c (.pv (.int .i32 r))] [] = some (.ret (.c (.pv (.bool (Utf8.valid r)))) []) := by
  refine den_run0 rfl Tryz.func283 rfl Tryz.ntmps283 ⟨by simp, by simp [LK]⟩ ?_
  have hr : Tryz.f283.results = #[.tmp 2] := rfl
  have e : Utf8.valid r = ((decide (0 ≤ r) && decide (r < 55296)) || (decide (57343 < r) && decide (r ≤ 1114111))) := by
    unfold Utf8.valid
    have : decide (57344 ≤ r) = decide (57343 < r) := decide_eq_decide.2 (by omega)
    rw [← this]
  rw [e]
  cases b1 : decide (0 ≤ r) <;> cases b2 : decide (r < 55296) <;> cases b3 : decide (57343 < r) <;> cases b4 : decide (r ≤ 1114111) <;> simp only [exL_seq, exL_cond, exL_block, exL_ret, exL_skip, runRegion, runOps, stepOp, guardA, absOp, takeOver, opd, avOf, cvOf, St.degAt, St.put, okPV, okVal, absBin, intBin, setBoxes, if_true, Bool.false_eq_true, if_false, Option.map_some, Option.bind_some, thenO, outOf, upd, List.toList_toArray, isOwn, steal, appArgs, mvB, inApps, AV.deg, CV.deg, AV.isIter, some_beqN, Nat.reduceLT, reduceCtorEq, Nat.reduceEqDiff, List.length_nil, List.length_cons, List.filterMap_cons, List.filterMap_nil, List.getElem?_cons_zero, List.getElem?_cons_succ, Option.getD_some, Nat.reduceBEq, Bool.and_false, Bool.and_self, AV.ren, CV.ren, enterSt, leave, resOf, resVars, resVar, outBoxes, lentOnly, TV.deg, TV.av, LK, List.all_nil, List.any_nil, List.contains_nil, Bool.and_true, Bool.or_true, Bool.or_false, Bool.not_true, Bool.not_false, Nat.reduceAdd, Nat.zero_add, List.toList_toArray, Option.some.injEq, ite_self, memOK, logOps, opKey, Key.clash, Key.sees, Key.writes, beq_self_eq_true, Bool.false_beq, region0, K0_own, K0_P, hr, b1, b2, b3, b4]
abbrev endsL : List UInt8 := [10, 12, 13]
theorem err0_run : callN K0 40 264 [.c (.pv (.str endsL)), .c (.pv (.int .i32 65533))] [] = some (.ret (.c (.pv (.int .i64 (-1)))) []) := by kernel_rfl
theorem miss_high {c : UInt8} (h : 128 ≤ c.toNat) : ∀ l : List UInt8, (∀ b ∈ l, b.toNat < 128) → Lib.indexByte l c = -1
  | [], _ => rfl
  | b :: l, hl => by
    have hb : (b == c) = false := by
      rw [beq_eq_false_iff_ne]; intro e; have := hl b (by simp); rw [e] at this; omega
    rw [Lib.indexByte, hb, miss_high h l fun x hx => hl x (by simp [hx])]
    rfl
set_option maxHeartbeats 4000000 in
set_option maxRecDepth 100000 in
theorem rune0_den (r : Int) (h : 0 ≤ r ∧ r ≤ 2147483647) : den K0 264 [.c (.pv (.str endsL)), .c (.pv (.int .i32 r))] [] = some (.ret (.c (.pv (.int .i64 (if r < 128 then Lib.indexByte endsL r.toNat.toUInt8 else -1)))) []) := by
  have hr : Tryz.f264.results = #[.tmp 4] := rfl
  have h0 : decide (0 ≤ r) = true := decide_eq_true h.1
  by_cases h1 : r < 128
  · have d1 : decide (r < 128) = true := decide_eq_true h1
    have w1 : IntKind.u8.wrap r = r := IntWalk.u8_in _ (by omega)
    have hb := byte0_den endsL r
    refine den_run0 rfl Tryz.func264 rfl Tryz.ntmps264 ⟨by simp, by simp [LK]⟩ ?_
    simp only [exL_seq, exL_cond, exL_block, exL_ret, runRegion, runOps, stepOp, guardA, absOp, takeOver, opd, avOf, cvOf, St.degAt, St.put, okPV, okVal, okAV, absBin, intBin, setBoxes, if_true, Bool.false_eq_true, if_false, Option.map_some, Option.map_none, Option.bind_some, thenO, outOf, upd, List.toList_toArray, isOwn, steal, appArgs, mvB, inApps, AV.deg, CV.deg, AV.gv, AV.isIter, some_beqN, Nat.reduceLT, reduceCtorEq, Nat.reduceEqDiff, List.length_nil, List.length_cons, List.filterMap_cons, List.filterMap_nil, beq_iff_eq, List.getElem?_cons_zero, List.getElem?_cons_succ, Option.getD_some, Nat.reduceBEq, Bool.and_self, absCall, doCall, getBoxes, lend, back, idx, dedup, AV.ren, CV.ren, AV.ptrs, CV.ptrs, zipBox, AV.flat, CV.flat, enterSt, leave, resOf, resVars, resVar, outBoxes, lentOnly, TV.deg, TV.av, LK, absUn, List.map_cons, List.map_nil, List.all_cons, List.all_nil, List.any_nil, List.contains_nil, List.append_nil, List.flatMap_cons, List.flatMap_nil, List.zip_nil_left, List.zip_nil_right, List.isEmpty_nil, Bool.or_true, Bool.or_false, Bool.not_false, Nat.reduceAdd, Nat.zero_add, decide_true, List.toList_toArray, Option.some.injEq, ite_self, memOK, logOps, opKey, lentBoxes, Key.clash, Key.sees, Key.writes, beq_self_eq_true, region0, K0_own, K0_P, hr, h0, h1, w1, hb, K0_good4, ev_conv_int K0_rune K0_byte]
  · have d1 : decide (r < 128) = false := decide_eq_false h1
    rw [if_neg h1]
    by_cases h2 : r = 65533
    · subst h2
      exact den_iff.2 ⟨40, err0_run⟩
    · have d2 : (r == 65533) = false := by simpa using h2
      have hv := valid0_den r
      refine den_run0 rfl Tryz.func264 rfl Tryz.ntmps264 ⟨by simp, by simp [LK]⟩ ?_
      cases h3 : Utf8.valid r
      · rw [h3] at hv
        simp only [exL_seq, exL_cond, exL_block, exL_scope, exL_ret, runRegion, runOps, stepOp, guardA, absOp, takeOver, opd, avOf, cvOf, St.degAt, St.put, okPV, okVal, okAV, absBin, intBin, setBoxes, if_true, Bool.false_eq_true, if_false, Option.map_some, Option.map_none, Option.bind_some, thenO, outOf, upd, List.toList_toArray, isOwn, steal, appArgs, mvB, inApps, AV.deg, CV.deg, AV.gv, AV.isIter, some_beqN, Nat.reduceLT, reduceCtorEq, Nat.reduceEqDiff, List.length_nil, List.length_cons, List.filterMap_cons, List.filterMap_nil, List.getElem?_cons_zero, List.getElem?_cons_succ, Option.getD_some, Nat.reduceBEq, Bool.and_false, Bool.and_self, absCall, doCall, getBoxes, lend, back, idx, dedup, AV.ren, CV.ren, AV.ptrs, CV.ptrs, zipBox, AV.flat, CV.flat, enterSt, leave, resOf, resVars, resVar, outBoxes, lentOnly, TV.deg, TV.av, LK, absUn, List.map_cons, List.map_nil, List.all_cons, List.all_nil, List.any_nil, List.contains_nil, List.append_nil, List.flatMap_cons, List.flatMap_nil, List.zip_nil_right, List.isEmpty_nil, Bool.and_true, Bool.true_and, Bool.or_true, Bool.or_false, Bool.not_false, Nat.reduceAdd, Nat.zero_add, List.toList_toArray, Option.some.injEq, ite_self, memOK, logOps, opKey, lentBoxes, Key.clash, Key.sees, Key.writes, beq_self_eq_true, region0, K0_own, K0_P, hr, h0, d1, d2, hv, K0_good3]
      · rw [h3] at hv
        obtain ⟨e2, e4, elast⟩ := encode_facts r h3 (by omega)
        have hsz : (Utf8.encode r).size = (Utf8.encode r).data.toList.length := Lib.size_eq _
        have hlast : ∃ c : UInt8, (Utf8.encode r).data.toList[(Utf8.encode r).data.toList.length - 1]? = some c ∧ 128 ≤ c.toNat := by
          have hx : (Utf8.encode r).data.toList.length - 1 < (Utf8.encode r).data.toList.length := by omega
          refine ⟨_, List.getElem?_eq_getElem hx, ?_⟩
          have := elast (by rw [hsz]; exact hx)
          have e : (Utf8.encode r)[(Utf8.encode r).size - 1]'(by rw [hsz]; exact hx) = (Utf8.encode r).data.toList[(Utf8.encode r).data.toList.length - 1]'hx := by
            simp only [hsz]; rfl
          rw [e] at this
          exact this
        rw [hsz] at e2 e4
        clear elast hsz
        generalize ht : (Utf8.encode r).data.toList = t at e2 e4 hlast
        obtain ⟨c, hl, hc⟩ := hlast
        have hneg : decide ((-1 : Int) < 0) = true := by decide
        have hcb : (c.toNat : Int).toNat.toUInt8 = c := by simp
        have hm : ∀ l : List UInt8, (∀ b ∈ l, b.toNat < 128) → Lib.indexByte l c = -1 := fun l => miss_high hc l
        have hy : ∀ l : List UInt8, (∀ b ∈ l, b.toNat < 128) → den K0 244 [.c (.pv (.str l)), .c (.pv (.int .u8 c.toNat))] [] = some (.ret (.c (.pv (.int .i64 (-1)))) []) := fun l hl => by
          rw [byte0_den, hcb, hm l hl]
        have hne : ∀ b : UInt8, b.toNat < 128 → ((b.toNat : Int) != (c.toNat : Int)) = true := fun b hb => by rw [bne_iff_ne]; omega
        have w1 : IntKind.i64.wrap 1 = 1 := by decide
        have w2 : IntKind.i64.wrap 2 = 2 := by decide
        have w3 : IntKind.i64.wrap 3 = 3 := by decide
        have w4 : IntKind.i64.wrap 4 = 4 := by decide
        have y1 := hy [13] (by decide)
        have y2 := hy [] (by simp)
        have n1 : ((12 : Int) = (c.toNat : Int)) = False := eq_false (by omega)
        have n2 : ((13 : Int) = (c.toNat : Int)) = False := eq_false (by omega)
        simp only [exL_seq, exL_cond, exL_block, exL_scope, exL_ret, runRegion, runOps, stepOp, guardA, absOp, takeOver, opd, avOf, cvOf, St.degAt, St.put, okPV, okVal, okAV, absBin, intBin, setBoxes, if_true, Bool.false_eq_true, if_false, Option.map_some, Option.map_none, Option.bind_some, thenO, upd, List.toList_toArray, isOwn, steal, appArgs, mvB, inApps, AV.deg, CV.deg, AV.gv, AV.isIter, some_beqN, Nat.reduceLT, reduceCtorEq, Nat.reduceEqDiff, List.length_nil, List.length_cons, List.filterMap_cons, List.filterMap_nil, List.getElem?_cons_zero, List.getElem?_cons_succ, Option.getD_some, Nat.reduceBEq, Bool.and_false, Bool.and_self, absCall, doCall, getBoxes, lend, back, idx, dedup, AV.ren, CV.ren, AV.ptrs, CV.ptrs, zipBox, AV.flat, CV.flat, enterSt, leave, resOf, resVars, resVar, outBoxes, lentOnly, TV.deg, TV.av, LK, absUn, List.map_cons, List.map_nil, List.all_cons, List.all_nil, List.any_nil, List.contains_nil, List.append_nil, List.flatMap_cons, List.flatMap_nil, List.zip_nil_right, List.isEmpty_nil, Bool.and_true, Bool.true_and, Bool.or_true, Bool.or_false, Bool.not_true, Bool.not_false, Nat.reduceAdd, Nat.zero_add, List.toList_toArray, Option.some.injEq, ite_self, memOK, logOps, opKey, lentBoxes, Key.clash, Key.sees, Key.writes, beq_self_eq_true, region0, K0_own, K0_P, hr, h0, d1, d2, hv, K0_good3, ev_conv_rune K0_rune K0_str, ht, ev_len_str K0_str]
        rw [exL_loop]
        rcases t with _ | ⟨a, _ | ⟨b, _ | ⟨d, _ | ⟨e, _ | ⟨e', t⟩⟩⟩⟩⟩
        · exact absurd e2 (by rw [List.length_nil]; omega)
        · exact absurd e2 (by rw [List.length_cons, List.length_nil]; omega)
        ·
          obtain rfl : b = c := by simpa using hl
          simp [exL_seq, exL_cond, exL_block, exL_scope, exL_ret, exL_skip, runRegion, runOps, stepOp, guardA, absOp, takeOver, opd, avOf, cvOf, St.degAt, St.put, okPV, okAV, absBin, intBin, setBoxes, Bool.false_eq_true, Option.map_some, Option.map_none, Option.bind_some, thenO, outOf, upd, isOwn, AV.deg, CV.deg, AV.isIter, Nat.reduceLT, reduceIte, reduceCtorEq, Nat.reduceEqDiff, List.length_nil, List.length_cons, Option.getD_some, Bool.and_false, Bool.and_self, absCall, doCall, AV.flat, CV.flat, bound, List.map_cons, List.map_nil, List.all_cons, List.all_nil, List.any_nil, List.append_nil, List.take_succ_cons, List.take_nil, List.drop_succ_cons, List.drop_zero, List.isEmpty_nil, Bool.not_false, Nat.reduceAdd, Nat.zero_add, Option.getD_none, not_false_eq_true, decide_true, and_self, AV.live, CV.live, firstReg, head, keepSlots, keepBoxes, ite_self, memOK, logOps, opKey, Key.clash, Key.sees, Key.writes, region0, K0_own, K0_keep, K0_keep5, K0_P, K0_good4, ev_len_str K0_str, ev_index K0_str, ev_slice_str K0_str, w1, w2, y1, n1, reach, endsL]
        ·
          obtain rfl : d = c := by simpa using hl
          simp [exL_seq, exL_cond, exL_block, exL_scope, exL_ret, exL_skip, runRegion, runOps, stepOp, guardA, absOp, takeOver, opd, avOf, cvOf, St.degAt, St.put, okPV, okAV, absBin, intBin, setBoxes, Bool.false_eq_true, Option.map_some, Option.map_none, Option.bind_some, thenO, outOf, upd, isOwn, AV.deg, CV.deg, AV.isIter, Nat.reduceLT, reduceIte, reduceCtorEq, Nat.reduceEqDiff, List.length_nil, List.length_cons, Option.getD_some, Bool.and_false, Bool.and_self, absCall, doCall, AV.flat, CV.flat, bound, List.map_cons, List.map_nil, List.all_cons, List.all_nil, List.any_nil, List.append_nil, List.take_succ_cons, List.take_nil, List.drop_succ_cons, List.drop_nil, List.isEmpty_nil, Bool.not_false, Nat.reduceAdd, Nat.zero_add, Option.getD_none, not_false_eq_true, decide_true, and_self, AV.live, CV.live, firstReg, head, keepSlots, keepBoxes, ite_self, memOK, logOps, opKey, Key.clash, Key.sees, Key.writes, region0, K0_own, K0_keep, K0_keep5, K0_P, K0_good4, ev_len_str K0_str, ev_index K0_str, ev_slice_str K0_str, w2, w3, y2, n2, reach, endsL]
        ·
          obtain rfl : e = c := by simpa using hl
          simp [exL_seq, exL_cond, exL_ret, exL_exit, runRegion, runOps, stepOp, guardA, absOp, takeOver, opd, avOf, cvOf, St.degAt, St.put, okPV, absBin, intBin, setBoxes, Bool.false_eq_true, Option.map_some, Option.bind_some, thenO, outOf, upd, isOwn, AV.isIter, Nat.reduceLT, reduceIte, reduceCtorEq, Nat.reduceEqDiff, List.length_nil, List.length_cons, Option.getD_some, absCall, Nat.reduceAdd, Nat.zero_add, Option.getD_none, not_false_eq_true, decide_false, AV.live, CV.live, firstReg, head, keepSlots, keepBoxes, Int.lt_irrefl, ite_self, region0, K0_keep, K0_keep5, K0_P, ev_len_str K0_str, w3, endsL]
        · exact absurd e4 (by simp only [List.length_cons]; omega)
end Go.Abs
namespace Go.Abs
open Go Go.Proofs
set_option maxRecDepth 10000
theorem decode_width (s : ByteArray) (pos : Nat) (h : pos < s.size) : pos + (Utf8.decode s pos).2 ≤ s.size := by
  simp only [Utf8.decode]
  repeat' split
  all_goals simp_all
  all_goals omega
theorem decode_bytes (s : ByteArray) (pos : Nat) (h : pos < s.size) (ha : 128 ≤ (s[pos]'h).toNat) : ∀ j, pos ≤ j → j < pos + (Utf8.decode s pos).2 → 128 ≤ (s.get! j).toNat := by
  have hn : ¬ (s[pos]'h).toNat < 128 := by omega
  have h0 : 128 ≤ (s.get! pos).toNat := by have := get_at s pos h; rw [Nat.add_zero] at this; rw [this]; exact ha
  intro j h1 h2
  obtain ⟨k, rfl⟩ : ∃ k, j = pos + k := ⟨j - pos, by omega⟩
  have h3 : k < (Utf8.decode s pos).2 := by omega
  clear h1 h2
  simp only [Utf8.decode, get_at s pos h, hn, if_false] at h3
  have key : k = 0 ∨ k = 1 ∧ (s.get! (pos + 1)).toNat / 64 = 2 ∨ k = 2 ∧ (s.get! (pos + 2)).toNat / 64 = 2 ∨ k = 3 ∧ (s.get! (pos + 3)).toNat / 64 = 2 := by
    revert h3
    repeat' split
    all_goals simp_all
    all_goals omega
  rcases key with rfl | ⟨rfl, e⟩ | ⟨rfl, e⟩ | ⟨rfl, e⟩
  · exact h0
  all_goals omega
theorem decode_at (s : List UInt8) (pos : Nat) (h : pos < s.length) : ∃ (r wd : Nat), Utf8.decode ⟨s.toArray⟩ pos = (r, wd) ∧ 1 ≤ wd ∧ pos + wd ≤ s.length ∧ r ≤ 2147483647 ∧
    ((r < 128 ∧ wd = 1 ∧ ∃ b, s[pos]? = some b ∧ b.toNat = r) ∨ (128 ≤ r ∧ ∀ j b, pos ≤ j → j < pos + wd → s[j]? = some b → 128 ≤ b.toNat)) := by
  have hs : (⟨s.toArray⟩ : ByteArray).size = s.length := by simp [ByteArray.size]
  have hp : pos < (⟨s.toArray⟩ : ByteArray).size := by rw [hs]; exact h
  have hb : s[pos]? = some ((⟨s.toArray⟩ : ByteArray)[pos]'hp) := by
    rw [List.getElem?_eq_getElem h]; rfl
  have hw := decode_width ⟨s.toArray⟩ pos hp
  have hle := decode_le ⟨s.toArray⟩ pos
  rw [hs] at hw
  by_cases hc : ((⟨s.toArray⟩ : ByteArray)[pos]'hp).toNat < 128
  · have e := decode_ascii ⟨s.toArray⟩ pos hp hc
    refine ⟨_, _, e, Nat.le_refl _, by omega, by omega, .inl ⟨hc, rfl, _, hb, rfl⟩⟩
  · have e := decode_high ⟨s.toArray⟩ pos hp (by omega)
    refine ⟨_, _, rfl, e.2, hw, hle, .inr ⟨e.1, fun j b h1 h2 hj => ?_⟩⟩
    have h3 := decode_bytes ⟨s.toArray⟩ pos hp (by omega) j h1 h2
    have h4 : (⟨s.toArray⟩ : ByteArray).get! j = b := by
      have hlt : j < s.length := (List.getElem?_eq_some_iff.1 hj).1
      have := get_at ⟨s.toArray⟩ j (by rw [hs]; exact hlt)
      rw [Nat.add_zero] at this
      rw [this]
      rw [List.getElem?_eq_getElem hlt] at hj
      exact Option.some.inj hj
    rw [h4] at h3
    exact h3
theorem NoAny_more {s chars : List UInt8} {i j : Nat} (h : Lib.NoAny s chars i) (h2 : ∀ k b, i ≤ k → k < j → s[k]? = some b → chars.contains b = false) : Lib.NoAny s chars j := fun k b hk hb => by
  by_cases hki : k < i
  · exact h k b hki hb
  · exact h2 k b (by omega) hk hb
def findLoop0 (r : Nat) : Code → Option Code
  | .loop a => bif Nat.beq ((firstReg a).getD 0) r then some a else findLoop0 r a
  | .seq a b => (findLoop0 r a).orElse fun _ => findLoop0 r b
  | .cond _ a b => (findLoop0 r a).orElse fun _ => findLoop0 r b
  | .block _ a => findLoop0 r a
  | .scope a => findLoop0 r a
  | _ => none
def loopAt0 (fn : Func) (r : Nat) : Code := ((fn.body.bind (findLoop0 r))).getD .skip
abbrev anyH (s : List UInt8) (i : Nat) : St := { sl := upd (upd bot 45 (.c (.iter s i))) 1 (.c (.pv (.str endsL))), bx := nobox, nt := 55 }
theorem high_not {b : UInt8} (h : 128 ≤ b.toNat) : endsL.contains b = false := by
  cases hc : endsL.contains b
  · rfl
  · have : b ∈ endsL := by simpa using hc
    have : b = 10 ∨ b = 12 ∨ b = 13 := by simpa [endsL] using this
    rcases this with rfl | rfl | rfl <;> exact absurd h (by decide)
theorem any0_loop (s : List UInt8) (h8 : s.length ≤ 8) : ∀ (k i : Nat) (S : St), s.length - i ≤ k → i ≤ s.length → head ([1, 45], []) S = anyH s i → Lib.NoAny s endsL i →
    Ends (exL K0 291 (.loop (loopAt0 Tryz.f291 18)) S) fun o S => (o = .ret ∧ S.sl 4 = .c (.pv (.int .i64 (Lib.indexAny s endsL))) ∨ Lib.indexAny s endsL = -1 ∧ o = .exit 2) ∧ S.nt = 55 := by
  intro k
  induction k with
  | zero =>
    intro i S hk hi hS hno
    obtain rfl : i = s.length := by omega
    have e := Lib.indexAny_none hno
    conv in loopAt0 _ _ => whnf
    rw [exL_loop]
    simp only [firstReg, Option.orElse_some, Option.getD_some, K0_keep, K0_keep18, hS]
    simp only [exL_seq, exL_cond, exL_skip, exL_exit, runRegion, runOps, stepOp, guardA, absOp, opd, St.degAt, St.put, okAV, setBoxes, if_true, Bool.false_eq_true, if_false, Option.map_some, Option.bind_some, thenO, upd, absNext, some_bne, Nat.reduceLT, reduceCtorEq, Nat.reduceEqDiff, List.length_nil, List.length_cons, List.getElem?_cons_zero, Nat.reduceBEq, Bool.and_self, absExtract, TV.av, List.all_nil, List.any_nil, Bool.or_true, Bool.not_false, Nat.reduceAdd, Nat.zero_add, true_and, and_self, or_true, false_and, ite_self, memOK, logOps, opKey, Key.clash, Key.sees, Key.writes, Nat.lt_irrefl, bot_at, region0, ends_some, e]
  | succ k ih =>
    intro i S hk hi hS hno
    by_cases hlt : i < s.length
    case neg => exact ih i S (by omega) hi hS hno
    obtain ⟨r, wd, hd, hw1, hw2, hr, hcase⟩ := decode_at s i hlt
    have hit : iterNext s i = i + wd := by unfold iterNext; rw [hd]
    have hr0 : (0 : Int) ≤ (r : Int) ∧ (r : Int) ≤ 2147483647 := by omega
    have hru := rune0_den (r : Int) hr0
    obtain ⟨v, hv⟩ : ∃ v, (if (r : Int) < 128 then Lib.indexByte endsL (r : Int).toNat.toUInt8 else -1) = v := ⟨_, rfl⟩
    rw [hv] at hru
    have ih' := ih (i + wd)
    conv at ih' in loopAt0 _ _ => whnf
    conv in loopAt0 _ _ => whnf
    rw [exL_loop]
    simp only [firstReg, Option.orElse_some, Option.getD_some, K0_keep, K0_keep18, hS]
    cases hdec : decide (0 ≤ v)
    · have hno' : Lib.NoAny s endsL (i + wd) := by
        refine NoAny_more hno fun j b h1 h2 hj => ?_
        rcases hcase with ⟨hr1, rfl, b', hb', hbr⟩ | ⟨hr1, hall⟩
        · obtain rfl : j = i := by omega
          rw [hj] at hb'
          cases hb'
          rw [if_pos (by omega)] at hv
          have hback : ((r : Int)).toNat.toUInt8 = b := by rw [← hbr]; simp
          rw [hback] at hv
          rw [Lib.contains_iff_indexByte, hv, hdec]
        · exact high_not (hall j b h1 h2 hj)
      simp only [exL_seq, exL_cond, exL_block, exL_ret, exL_skip, exL_exit, runRegion, runOps, stepOp, guardA, absOp, takeOver, opd, avOf, cvOf, St.degAt, St.put, okPV, okAV, absBin, intBin, setBoxes, if_true, Bool.false_eq_true, if_false, Option.map_some, Option.map_none, Option.bind_some, thenO, outOf, upd, isOwn, steal, appArgs, mvB, inApps, AV.deg, CV.deg, AV.gv, AV.isIter, absNext, some_bne, some_beqN, Nat.reduceLT, Nat.reduceEqDiff, List.length_nil, List.length_cons, List.filterMap_cons, List.filterMap_nil, List.getElem?_cons_zero, List.getElem?_cons_succ, Nat.reduceBEq, Bool.and_self, absCall, doCall, getBoxes, lend, idx, dedup, AV.ren, CV.ren, AV.ptrs, CV.ptrs, zipBox, AV.flat, CV.flat, absExtract, TV.av, LK, List.map_cons, List.map_nil, List.all_cons, List.all_nil, List.any_nil, List.contains_nil, List.append_nil, List.flatMap_cons, List.flatMap_nil, List.zip_nil_right, List.isEmpty_nil, Bool.or_true, Bool.or_false, Bool.not_false, Nat.reduceAdd, Nat.zero_add, Option.some.injEq, ite_self, memOK, logOps, opKey, lentBoxes, Key.clash, Key.sees, Key.writes, bot_at, region0, K0_own, K0_good2, hlt, hd, hit, hru, hdec]
      refine ih' _ (by omega) hw2 ?_ hno'
      rfl
    · have hgo : Lib.indexAny s endsL = (i : Int) := by
        rcases hcase with ⟨hr1, rfl, b', hb', hbr⟩ | ⟨hr1, hall⟩
        · rw [if_pos (by omega)] at hv
          have hback : ((r : Int)).toNat.toUInt8 = b' := by rw [← hbr]; simp
          rw [hback] at hv
          exact Lib.indexAny_hit hno hb' (by rw [Lib.contains_iff_indexByte, hv, hdec])
        · rw [if_neg (by omega)] at hv
          rw [← hv] at hdec
          cases hdec
      simp only [exL_seq, exL_cond, exL_block, exL_ret, exL_skip, exL_exit, runRegion, runOps, stepOp, guardA, absOp, takeOver, opd, avOf, cvOf, St.degAt, St.put, okPV, okAV, absBin, intBin, setBoxes, if_true, Bool.false_eq_true, if_false, Option.map_some, Option.map_none, Option.bind_some, thenO, outOf, upd, isOwn, steal, appArgs, mvB, inApps, AV.deg, CV.deg, AV.gv, AV.isIter, absNext, some_bne, some_beqN, Nat.reduceLT, reduceCtorEq, Nat.reduceEqDiff, List.length_nil, List.length_cons, List.filterMap_cons, List.filterMap_nil, List.getElem?_cons_zero, List.getElem?_cons_succ, Nat.reduceBEq, Bool.and_self, absCall, doCall, getBoxes, lend, idx, dedup, AV.ren, CV.ren, AV.ptrs, CV.ptrs, zipBox, AV.flat, CV.flat, absExtract, TV.av, LK, List.map_cons, List.map_nil, List.all_cons, List.all_nil, List.any_nil, List.contains_nil, List.append_nil, List.flatMap_cons, List.flatMap_nil, List.zip_nil_right, List.isEmpty_nil, Bool.or_true, Bool.or_false, Bool.not_false, Nat.reduceAdd, Nat.zero_add, and_self, Option.some.injEq, false_and, ite_self, memOK, logOps, opKey, lentBoxes, Key.clash, Key.sees, Key.writes, bot_at, or_false, region0, K0_own, K0_good2, hlt, hd, hit, hru, hdec, ends_some, hgo]
theorem any0_den (s : List UInt8) (h8 : s.length ≤ 8) : den K0 291 [.c (.pv (.str s)), .c (.pv (.str endsL))] [] = some (.ret (.c (.pv (.int .i64 (Lib.indexAny s endsL)))) []) := by
  have hr : Tryz.f291.results = #[.tmp 4] := rfl
  have hu := use0_den (s.length : Int)
  have h8d : decide ((8 : Int) < (s.length : Int)) = false := decide_eq_false (by omega)
  rw [h8d] at hu
  have hloop := any0_loop s h8 s.length 0
  conv at hloop in loopAt0 _ _ => whnf
  refine den_run0 rfl Tryz.func291 rfl Tryz.ntmps291 ⟨by simp, by simp [LK]⟩ ?_
  have e0 : (endsL == []) = false := by decide
  have e1 : (((3 : Nat) : Int) == 1) = false := by decide
  simp only [exL_seq, exL_cond, exL_block, exL_ret, exL_skip, runRegion, runOps, stepOp, guardA, absOp, takeOver, opd, avOf, cvOf, St.degAt, St.put, okPV, okAV, absBin, intBin, strBin, setBoxes, if_true, Bool.false_eq_true, if_false, Option.map_some, Option.map_none, Option.bind_some, thenO, upd, List.toList_toArray, isOwn, steal, appArgs, mvB, inApps, AV.deg, CV.deg, AV.gv, AV.isIter, some_beqN, Nat.reduceLT, reduceCtorEq, Nat.reduceEqDiff, List.length_nil, List.length_cons, List.filterMap_cons, List.filterMap_nil, List.getElem?_cons_zero, List.getElem?_cons_succ, Option.getD_some, Nat.reduceBEq, Bool.and_false, Bool.and_self, absCall, doCall, getBoxes, lend, back, idx, dedup, AV.ren, CV.ren, AV.ptrs, CV.ptrs, zipBox, AV.flat, CV.flat, absStore, cellsOfAV, setAt, newBox, markB, bldTypes, absExtract, enterSt, leave, resOf, resVars, resVar, outBoxes, lentOnly, TV.deg, TV.av, LK, List.map_cons, List.map_nil, List.all_cons, List.all_nil, List.any_nil, List.contains_cons, List.contains_nil, List.append_nil, List.flatMap_cons, List.flatMap_nil, List.zip_nil_left, List.zip_nil_right, List.isEmpty_nil, Bool.or_true, Bool.or_false, Bool.not_false, Nat.reduceAdd, Nat.zero_add, true_and, List.toList_toArray, Option.some.injEq, ite_self, memOK, logOps, opKey, lentBoxes, Key.clash, Key.sees, Key.writes, beq_self_eq_true, region0, K0_own, K0_P, K0_good1, hr, hu, ev_len_str K0_str, ev_range K0_str, e0, e1]
  obtain ⟨o, S', e, hq, hn⟩ := hloop (anyH s 0) (by omega) (Nat.zero_le _) rfl (Lib.NoAny.zero _ _)
  rw [exL_loop] at e ⊢
  simp only [firstReg, Option.orElse_some, Option.getD_some, K0_keep, K0_keep18] at e ⊢
  rw [show head ([1, 45], []) (anyH s 0) = anyH s 0 from rfl] at e
  simp only [head, keepSlots, keepBoxes, upd, AV.live, CV.live, reduceIte, Nat.reduceEqDiff]
  erw [e]
  rcases hq with ⟨rfl, hv⟩ | ⟨hv, rfl⟩
  · simp only [Option.map_some, Option.bind_some, thenO, outOf, hv]
  · simp only [exL_seq, exL_ret, runRegion, runOps, stepOp, guardA, absOp, takeOver, opd, avOf, cvOf, St.degAt, St.put, setBoxes, if_true, Bool.false_eq_true, if_false, Option.map_some, Option.bind_some, thenO, outOf, upd, isOwn, steal, AV.deg, CV.deg, AV.isIter, Nat.reduceLT, List.length_nil, List.length_cons, List.all_nil, List.any_nil, Bool.or_true, Bool.not_false, Nat.zero_add, ite_self, memOK, logOps, opKey, Key.clash, Key.sees, Key.writes, region0, hv, hn]
end Go.Abs
namespace Go.Abs
open Go Go.Proofs Go.RowKit
def pIndexAny : Prim
  | [.c (.pv (.str s)), .c (.pv (.str p))], [] => if p = [10, 12, 13] ∧ s.length < 4294967281 then some (.c (.pv (.int .i64 (Lib.indexAny s p))), []) else none
  | _, _ => none
def goodB0 (P : Program) (f : Nat) : Bool :=
  match P.funcs[f]? with
  | some fn => fn.name != "runtime.NumGoroutine" && (match fn.body with | some c => codeOK (fun _ => false) c | none => false)
  | none => false
theorem goods0_ok : [291, 295, 264, 283, 244].all (goodB0 Tryz.prog) = true := by kernel_rfl
theorem K0_prog : Prog K0 := by
  refine ⟨by kernel_rfl, fun g hg => ?_, fun f F args bxs x _ hF hx => ?_, fun f F args bxs r call _ hF => by cases hF⟩
  · have h1 : g ∈ [291, 295, 264, 283, 244] := by simpa [K0] using hg
    have h2 := List.all_eq_true.1 goods0_ok g h1
    unfold goodB0 at h2
    split at h2
    · rename_i fn hfn
      simp only [Bool.and_eq_true] at h2
      obtain ⟨h3, h4⟩ := h2
      split at h4
      · rename_i c hc
        exact ⟨fn, c, hfn, by simpa using h3, hc, h4⟩
      · cases h4
    · cases h2
  · have h2 : pr0 f = some F := hF
    unfold pr0 at h2
    split at h2
    · rename_i hf
      cases h2
      have : f = 244 := by simpa using hf
      subst this
      exact pIndexByte_ok hx
    · cases h2
theorem h116 : (Tryz.prog.info? 200).map (fun i => (i.zero, i.size)) = some (some (.agg (Array.replicate 256 (.bool false))), 256) := by kernel_rfl
theorem pIndexAny_ok {args : List AV} {bxs : List (List CV)} {x : AV × List (List CV)} (h : pIndexAny args bxs = some x) : Contract Tryz.prog 291 args bxs (.ret x.1 x.2) := by
  unfold pIndexAny at h
  split at h
  case h_2 => cases h
  rename_i s p
  split at h
  case isFalse => cases h
  rename_i hs
  cases h
  obtain ⟨rfl, hs⟩ := hs
  by_cases h8 : s.length ≤ 8
  · exact den_ok K0_prog (by rfl) (any0_den s h8)
  · refine contract_data fun G w cargs hw hargs => ?_
    obtain ⟨x, y, rfl, hx, hy⟩ := args_two hargs
    cases hx.strv
    cases hy.strv
    have hsz : (⟨s.toArray⟩ : ByteArray).size = s.length := by simp [ByteArray.size]
    refine (Tryz.strings_IndexAny_long (zero_of_info h116).1 ⟨s.toArray⟩ ⟨([10, 12, 13] : List UInt8).toArray⟩ w (by decide) (by rw [hsz]; omega) (by rw [hsz]; exact hs) (by decide) ?_).mono ?_
    · intro j b hb
      have : b ∈ ([10, 12, 13] : List UInt8) := List.mem_of_getElem? hb
      have : b = 10 ∨ b = 12 ∨ b = 13 := by simpa using this
      rcases this with rfl | rfl | rfl <;> decide
    · rintro e w' ⟨rfl, rfl⟩
      exact ⟨_, rfl, .int _ _, ((Below.refl _ _).alloc (Nat.le_refl _) _).alloc (by simp) _⟩
end Go.Abs
