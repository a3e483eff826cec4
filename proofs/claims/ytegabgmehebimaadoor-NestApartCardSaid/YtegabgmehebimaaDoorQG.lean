/-
  SYMBOLIC RUNS: what the interpreter's steps come to once the types are known.
  SYMBOLIC RUNS OF LOOPS: a loop runs from its head's state; the loop that begins with a region.
  Tokens and values as the interpreter's data.
  strings.IndexAny of a text of at most eight bytes, as an interpreter runs it that asks strings.IndexRune.
  strings.IndexAny of a text of at most eight bytes, as an interpreter runs it: where the first byte stands that ends a line.
  strings.IndexAny, asked for the three bytes that end a line, of a text of whatever bytes: what it answers, and that it does.
-/
import Derived.Test.YtegabgmehebimaaDoorQC
import Derived.KernelRfl
import Derived.Test.YtegabgmehebimaaDoorQA
import Derived.Test.YtegabgmehebimaaDoorQE
import Derived.Test.YtegabgmehebimaaDoorQF
import Derived.Lib.IndexAny
import Derived.Lib.IndexBytes
import Derived.Laws.RangeAny
import Derived.Laws.Runes
set_option linter.unusedSimpArgs false
set_option linter.unusedVariables false
namespace Go.Abs
open Go

/-! ### What is asked of a type -/

def nTypes (P : Program) : Nat := P.types.size

/-- the kinds of types that operations look into -/
inductive Desc where
  | str
  | int (k : IntKind)
  | sl (e : TypeId) (u8 : Bool)

def descOf (P : Program) (t : TypeId) : Option Desc :=
  match P.underlying t with
  | some .string => some .str
  | some (.int k) => some (.int k)
  | some (.slice e) => some (.sl e (isU8 P e))
  | _ => none

def placesOf (P : Program) (t : TypeId) : Option (List (Nat × Nat)) :=
  match P.underlying t with
  | some (.struct fs) => fs.toList.mapM (fun f => (P.info? f.type).map fun i => (f.offset, i.size))
  | _ => none

/-- of a slice's type: its elements' type, and their cells; if it may be appended to -/
def appInfo (P : Program) (t : TypeId) : Option (TypeId × Nat) :=
  match P.underlying t with
  | some (.slice e) => (match P.info? e with
    | some i => if i.bytes ≤ 4096 ∧ 0 < i.size ∧ i.zero.any (fun z => z.cells.size == i.size) then some (e, i.size) else none
    | none => none)
  | _ => none

variable {P : Program} {t u e : TypeId}

theorem desc_str (h : descOf P t = some .str) : P.underlying t = some .string := by
  unfold descOf at h
  split at h <;> first | assumption | cases h

theorem desc_int {k : IntKind} (h : descOf P t = some (.int k)) : P.underlying t = some (.int k) := by
  unfold descOf at h
  split at h
  · cases h
  · cases h; assumption
  · cases h
  · cases h

theorem desc_sl {b : Bool} (h : descOf P t = some (.sl e b)) : P.underlying t = some (.slice e) ∧ isU8 P e = b := by
  unfold descOf at h
  split at h
  · cases h
  · cases h
  · cases h; exact ⟨by assumption, rfl⟩
  · cases h

theorem appInfo_inv {n : Nat} (h : appInfo P t = some (e, n)) : P.underlying t = some (.slice e) ∧ ∃ i, P.info? e = some i ∧ i.size = n ∧ (i.bytes ≤ 4096 ∧ 0 < i.size ∧ i.zero.any (fun z => z.cells.size == i.size) = true) := by
  unfold appInfo at h
  split at h
  case h_2 => cases h
  rename_i hu
  split at h
  case h_2 => cases h
  rename_i i hi
  split at h
  case isFalse => cases h
  rename_i hc
  cases h
  exact ⟨hu, i, hi, rfl, hc⟩

/-! ### Operations -/

/-- elements of a size -/
def lens (n : Nat) (c : List (List PV)) : Bool := c.all fun el => el.length == n

theorem ev_append {n : Nat} (h : appInfo P t = some (e, n)) {s x : AV} : absAppend P [t, u] s x =
    (match pushHead s, appNew P e u x with
     | some a, some b => if a.length + b.length < appLim ∧ lens n a = true ∧ lens n b = true ∧ (ownT s = none ∨ ownT s = some e ∨ a.isEmpty = true) then some (.c (.own e (a ++ b))) else none
     | _, _ => none) := by
  obtain ⟨hu, i, hi, rfl, h1, h2, h3⟩ := appInfo_inv h
  unfold absAppend
  simp only [hu, hi]
  cases s with
  | c v =>
    cases v with
    | own e' c =>
      simp only [content, pushHead]
      cases appNew P e u x with
      | none => rfl
      | some b => simp [h1, h2, h3, lens]
    | nils =>
      simp only [content, pushHead]
      cases appNew P e u x with
      | none => rfl
      | some b => simp [h1, h2, h3, lens]
    | pv p => simp [pushHead]
    | _ => simp [content, pushHead]
  | _ => simp [content, pushHead]

theorem ev_appNew_sl {b : Bool} {e' : TypeId} (h : descOf P u = some (.sl e' b)) {x : AV} : appNew P e u x = content x := by
  unfold appNew; simp only [(desc_sl h).1]

theorem ev_appNew_str (h : descOf P u = some .str) {x : AV} (h8 : isU8 P e = true) : appNew P e u x = (match x with | .c (.pv (.str s)) => some (s.map fun b => [.int .u8 b.toNat]) | _ => none) := by
  unfold appNew
  simp only [desc_str h]
  split <;> simp [h8]

theorem ev_len_str (h : descOf P t = some .str) {x : AV} : absLen P t x = (match x with | .c (.pv (.str s)) => some (.int .i64 s.length) | _ => none) := by
  unfold absLen; simp only [desc_str h]; rfl
theorem ev_len_sl {b : Bool} (h : descOf P t = some (.sl e b)) {x : AV} : absLen P t x = (match content x with | some c => some (.int .i64 c.length) | none => none) := by
  unfold absLen; simp only [(desc_sl h).1]; rfl

theorem ev_indexAddr {b : Bool} (h : descOf P t = some (.sl e b)) {x i : AV} : absIndexAddr P t x i =
    (match content x, i with
     | some c, .c (.pv (.int _ n)) => if 0 ≤ n then (match c[n.toNat]? with | some el => if szOf P e = some el.length then some (.c (.cptr el)) else none | none => none) else none
     | _, _ => none) := by
  unfold absIndexAddr; simp only [(desc_sl h).1]
  cases content x with
  | none => rfl
  | some c =>
    cases i with
    | c v => cases v <;> first | rfl | (rename_i p; cases p <;> rfl)
    | _ => rfl

theorem ev_index (h : descOf P t = some .str) {x i : AV} : absIndex P t x i =
    (match x, i with
     | .c (.pv (.str s)), .c (.pv (.int _ i)) => if 0 ≤ i then (match s[i.toNat]? with | some b => some (.c (.pv (.int .u8 b.toNat))) | none => none) else none
     | _, _ => none) := by
  unfold absIndex; simp only [desc_str h]; rfl

theorem ev_slice_str (h : descOf P t = some .str) {x : AV} {lo hi : Option AV} : absSlice P t x lo hi none =
    (match x with
     | .c (.pv (.str s)) =>
       (match bound s.length hi s.length with
        | some h => (match bound h lo 0 with | some l => some (.c (.pv (.str ((s.take h).drop l)))) | none => none)
        | none => none)
     | _ => none) := by
  unfold absSlice; simp only [desc_str h]; rfl

theorem ev_slice_sl {b : Bool} {n : Nat} (h : descOf P t = some (.sl e b)) (hn : szOf P e = some n) {x : AV} {lo hi : Option AV} : absSlice P t x lo hi none =
    (match content x with
     | some c =>
       (match bound c.length hi c.length with
        | some h => (match bound h lo 0 with
          | some l => if lens n c = true then some (.c (.pv (.sl ((c.take h).drop l)))) else none
          | none => none)
        | none => none)
     | none => none) := by
  unfold absSlice; simp only [(desc_sl h).1, hn]
  cases content x with
  | none => rfl
  | some c =>
    simp only [Option.any_some]
    rfl

theorem ev_build {parts : List (Nat × AV)} {z : List CV} {pl : List (Nat × Nat)} (hz : zeroCells P t = some z) (hp : placesOf P t = some pl) :
    absBuild P t parts = (match fillCells (fun i => pl[i]?) z parts with | some l => some (.agg l) | none => none) := by
  unfold placesOf at hp
  split at hp
  case h_2 => cases hp
  rename_i fs hu
  unfold absBuild
  simp only [hz, hu, hp]; rfl

theorem ev_buildSlice {b : Bool} {len n : Nat} {parts : List (Nat × AV)} {z : List CV} (h : descOf P t = some (.sl e b)) (hn : szOf P e = some n) (hz : zeroCells P e = some z) (hc : z.length = n ∧ 0 < n ∧ len * n ≤ 1048576) :
    absBuildSlice P t len parts = (match fillCells (fun i => some (i * n, n)) (reps z len) parts with
        | some l => (match pvs l with | some ps => some (.c (.own e (chunks n ps len))) | none => none)
        | none => none) := by
  unfold absBuildSlice
  simp only [(desc_sl h).1, hn, hz]
  rw [if_pos hc]
  rfl

theorem ev_conv_int {k k' : IntKind} (h : descOf P t = some (.int k)) (hu : descOf P u = some (.int k')) {x : AV} : absConv P t u x = (match x with | .c (.pv (.int _ n)) => some (.c (.pv (.int k' (k'.wrap n)))) | _ => none) := by
  unfold absConv; simp only [desc_int h, desc_int hu]; rfl
theorem ev_conv_rune {k : IntKind} (h : descOf P t = some (.int k)) (hu : descOf P u = some .str) {x : AV} : absConv P t u x = (match x with | .c (.pv (.int _ n)) => some (.c (.pv (.str (Utf8.encode n).data.toList))) | _ => none) := by
  unfold absConv; simp only [desc_int h, desc_str hu]; rfl
theorem ev_conv_str (h : descOf P t = some .str) (hu : descOf P u = some .str) {x : AV} : absConv P t u x = (match x with | .c (.pv (.str s)) => some (.c (.pv (.str s))) | _ => none) := by
  unfold absConv; simp only [desc_str h, desc_str hu]; rfl
theorem ev_conv_bytes (h : descOf P t = some .str) (hu : descOf P u = some (.sl e true)) {x : AV} : absConv P t u x = (match x with
     | .c (.pv (.str s)) => if s.length < strLim then some (.c (.pv (.sl (s.map fun b => [.int .u8 b.toNat])))) else none
     | _ => none) := by
  obtain ⟨h1, h2⟩ := desc_sl hu
  unfold absConv; simp only [desc_str h, h1]
  split <;> simp [h2]
theorem ev_conv_string (h : descOf P t = some (.sl e true)) (hu : descOf P u = some .str) {x : AV} : absConv P t u x = (match content x with
       | some c => (match bytesOf c with | some s => some (.c (.pv (.str s))) | none => none)
       | none => none) := by
  obtain ⟨h1, h2⟩ := desc_sl h
  unfold absConv; simp only [desc_str hu, h1, h2, if_true]; rfl

theorem ev_range (h : descOf P t = some .str) {x : AV} : absRange P t x = (match x with | .c (.pv (.str s)) => some (.c (.iter s 0)) | _ => none) := by
  unfold absRange; simp only [desc_str h]; rfl

theorem some_bne (a b : Nat) : (some a != some b) = !(a == b) := rfl
theorem nobox_at (s : Nat) : nobox s = none := rfl
theorem bot_at (t : Nat) : bot t = .c .top := rfl

/-- a run ends, and so -/
def Ends (r : Option (Out × St)) (Q : Out → St → Prop) : Prop := ∃ o S, r = some (o, S) ∧ Q o S
theorem ends_some {o : Out} {S : St} {Q : Out → St → Prop} : Ends (some (o, S)) Q = Q o S := by
  apply propext
  exact ⟨fun ⟨_, _, e, h⟩ => by cases e; exact h, fun h => ⟨_, _, rfl, h⟩⟩

theorem reach_if {α : Type} {ops : List Oper} {n j i : Nat} {a b : α} (h : reach ops n j i = true) : (if reach ops n j i = true then a else b) = a := if_pos h
theorem reach_and {ops : List Oper} {n j i : Nat} {b : Bool} (h : reach ops n j i = true) : (reach ops n j i && b) = b := by rw [h]; rfl
end Go.Abs

namespace Go.Abs
open Go

theorem CV.live_live (bs : List Nat) (v : CV) : (v.live bs).live bs = v.live bs := by
  cases v with
  | loc s o =>
    by_cases h : bs.contains s = true
    · have e : CV.live bs (.loc s o) = .loc s o := if_pos h
      rw [e, e]
    · have e : CV.live bs (.loc s o) = .top := if_neg h
      rw [e]; rfl
  | fn f c =>
    by_cases h : c.all (fun x => bs.contains x.1) = true
    · have e : CV.live bs (.fn f c) = .fn f c := if_pos h
      rw [e, e]
    · have e : CV.live bs (.fn f c) = .top := if_neg h
      rw [e]; rfl
  | _ => rfl

theorem CV.liveIn_liveIn (bs : List Nat) (v : CV) : (v.liveIn bs).liveIn bs = v.liveIn bs := by
  cases v with
  | loc s o =>
    by_cases h : bs.contains s = true
    · have e : CV.liveIn bs (.loc s o) = .loc s o := if_pos h
      rw [e, e]
    · have e : CV.liveIn bs (.loc s o) = .top := if_neg h
      rw [e]; rfl
  | fn f c =>
    by_cases h : c.all (fun x => bs.contains x.1) = true
    · have e : CV.liveIn bs (.fn f c) = .fn f c := if_pos h
      rw [e, e]
    · have e : CV.liveIn bs (.fn f c) = .top := if_neg h
      rw [e]; rfl
  | _ => rfl

theorem AV.live_live (bs : List Nat) (v : AV) : (v.live bs).live bs = v.live bs := by
  cases v with
  | c v => simp only [AV.live, CV.live_live]
  | agg l => simp [AV.live, CV.liveIn_liveIn, Function.comp_def]
  | tup l => rfl

theorem head_head (kp : List Nat × List Nat) (S : St) : head kp (head kp S) = head kp S := by
  refine St.ext' rfl ?_ ?_
  · funext s
    show keepBoxes kp.2 (keepBoxes kp.2 S.bx kp.2) kp.2 s = keepBoxes kp.2 S.bx kp.2 s
    rw [keepBoxes_get, keepBoxes_get]
    split
    · cases S.bx s with
      | none => rfl
      | some l => simp [CV.live_live, Function.comp_def]
    · rfl
  · intro t
    show keepSlots kp.2 (keepSlots kp.2 S.sl kp.1) kp.1 t = keepSlots kp.2 S.sl kp.1 t
    rw [keepSlots_get, keepSlots_get]
    split
    · exact AV.live_live _ _
    · rfl

/-- the loop whose first region has a number -/
def findLoop (r : Nat) : Code → Option Code
  | .loop a => bif Nat.beq ((firstReg a).getD 0) r then some a else findLoop r a
  | .seq a b => (findLoop r a).orElse fun _ => findLoop r b
  | .cond _ a b => (findLoop r a).orElse fun _ => findLoop r b
  | .block _ a => findLoop r a
  | .scope a => findLoop r a
  | _ => none
def loopAt (fn : Func) (r : Nat) : Code := ((fn.body.bind (findLoop r))).getD .skip


theorem ends_imp {r : Option (Out × St)} {Q Q' : Out → St → Prop} (h : Ends r Q) (f : ∀ o S, Q o S → Q' o S) : Ends r Q' := by
  obtain ⟨o, S, e, q⟩ := h
  exact ⟨o, S, e, f o S q⟩
end Go.Abs

namespace Go.Abs

def Tok.cells (t : Tok) : List CV := [.pv (.int .i64 t.kind), .pv (.str t.text), .pv (.int .i64 t.n)]
def Tok.enc (t : Tok) : List PV := [.int .i64 t.kind, .str t.text, .int .i64 t.n]

mutual
def Val.enc : Val → List PV
  | .mk k t l => [.int .i64 k, .int .i64 t.kind, .str t.text, .int .i64 t.n, .sl (encL l)]
def encL : List Val → List (List PV)
  | [] => []
  | v :: l => v.enc :: encL l
end
theorem encL_map : ∀ l : List Val, encL l = l.map Val.enc
  | [] => rfl
  | v :: l => by rw [encL, encL_map l]; rfl
theorem encL_app (a b : List Val) : encL (a ++ b) = encL a ++ encL b := by simp [encL_map]
theorem encL_len (a : List Val) : (encL a).length = a.length := by simp [encL_map]
theorem encL_get (a : List Val) (i : Nat) (v : Val) (h : a[i]? = some v) : (encL a)[(i : Int).toNat]? = some v.enc := by simp [encL_map, h]
theorem enc_len (v : Val) : v.enc.length = 5 := by obtain ⟨k, t, l⟩ := v; rfl
end Go.Abs

namespace Go.Abs
open Go Go.Proofs
set_option maxRecDepth 10000

def keep0 (f r : Nat) : List Nat × List Nat := if f == 87 && r == 18 then ([1, 45], []) else if f == 96 && r == 38 then ([175], []) else if f == 96 && r == 5 then ([0, 7, 8, 9], []) else ([], [])
def pr0 (f : Nat) : Option Prim := if f == 66 then some pIndexByte else none
noncomputable def K0 : Cfg := { P := Tryd.prog, pr := pr0, keep := keep0, ownRet := fun _ => false, good := [87, 97, 96, 103, 66].contains, hook := fun _ _ => false }

theorem K0_own (f : FuncId) : K0.ownRet f = false := rfl
theorem K0_hook (f i : Nat) : K0.hook f i = false := rfl
theorem region0 (f : FuncId) (id : Nat) (ops : Array Oper) (draw : Bool) (S : St) : exL K0 f (.region id ops draw) S = runRegion K0 (den K0) ops.toList draw S := exL_region f id ops draw S (K0_hook f id)
theorem K0_P : K0.P = Tryd.prog := rfl
theorem K0_keep (f r : Nat) : K0.keep f r = keep0 f r := rfl
theorem K0_keep18 : keep0 87 18 = ([1, 45], []) := by decide
theorem K0_keep38 : keep0 96 38 = ([175], []) := by decide
theorem K0_keep5 : keep0 96 5 = ([0, 7, 8, 9], []) := by decide
theorem K0_good1 : K0.good 97 = true := rfl
theorem K0_good2 : K0.good 96 = true := rfl
theorem K0_good3 : K0.good 103 = true := rfl
theorem K0_good4 : K0.good 66 = true := rfl
theorem K0_str : descOf Tryd.prog 9 = some .str := by kernel_rfl
theorem K0_rune : descOf Tryd.prog 21 = some (.int .i32) := by kernel_rfl
theorem K0_byte : descOf Tryd.prog 5 = some (.int .u8) := by kernel_rfl

theorem den_run0 {f : FuncId} {fn : Func} {x : Code} {nt : Nat} {args : List AV} {bxs : List (List CV)} {r : Res} (hp : pr0 f = none) (hf : Tryd.prog.funcs[f]? = some fn) (hx : fn.body = some x) (hn : fn.ntmps = nt)
    (hl : args.length ≤ nt ∧ nt < LK) (h : (exL K0 f x (enterSt nt args bxs)).bind (fun r => leave K0 f fn bxs.length (some r)) = some r) : den K0 f args bxs = some r := by
  rw [den_eq (K := K0) hp hf hx, hn, if_pos hl]
  exact h

theorem use0_den (n : Int) : den K0 97 [.c (.pv (.int .i64 n))] [] = some (.ret (.c (.pv (.bool (decide (8 < n))))) []) := by
  refine den_run0 rfl Tryd.func97 rfl Tryd.ntmps97 ⟨by simp, by simp [LK]⟩ ?_
  have hr : Tryd.f97.results = #[.tmp 2] := rfl
  simp only [exL_seq, exL_cond, exL_block, exL_scope, exL_ret, exL_skip, exL_exit, runRegion, runOps, stepOp, guardA, absOp, takeOver, opd, avOf, cvOf, St.degAt, St.put, okPV, okVal, okAV, absBin, intBin, strBin, boolBin, setBoxes, if_true, Bool.false_eq_true, if_false, Option.map_some, Option.map_none, Option.bind_some, Option.bind_none, thenO, outOf, upd, List.toList_toArray, isOwn, steal, appArgs, inApps, AV.deg, CV.deg, AV.gv, AV.isIter, absNext, some_bne, Nat.reduceLT, reduceIte, reduceCtorEq, Nat.reduceEqDiff, List.length_nil, List.length_cons, apply_ite (Option.map (outOf _)), List.filterMap_cons, List.filterMap_nil, beq_iff_eq, List.getElem?_cons_zero, List.getElem?_cons_succ, Option.getD_some, Nat.reduceBEq, Bool.false_and, Bool.and_false, Bool.and_self, absCall, doCall, getBoxes, lend, back, idx, dedup, AV.ren, CV.ren, TV.ren, AV.ptrs, CV.ptrs, zipBox, AV.flat, CV.flat, absLoad, absStore, cellsOfAV, setAt, newBox, markB, bldTypes, absFieldAddr, absField, absExtract, absAssert, noAssert, absMkIface, ifcOf, CV.pv?, content, pushHead, ownT, fillCells, reps, pvs, chunks, enterSt, leave, resOf, resVars, resVar, outBoxes, lentOnly, TV.deg, TV.av, LK, CV.plain, CV.noBld, nilBin, absUn, bound, List.map_cons, List.map_nil, List.all_cons, List.all_nil, List.any_cons, List.any_nil, List.contains_cons, List.contains_nil, List.elem_cons, List.elem_nil, List.cons_append, List.nil_append, List.append_nil, List.flatMap_cons, List.flatMap_nil, List.zip_cons_cons, List.zip_nil_left, List.zip_nil_right, List.take_succ_cons, List.take_zero, List.take_nil, List.drop_succ_cons, List.drop_zero, List.drop_nil, List.isEmpty_nil, List.isEmpty_cons, Bool.and_true, Bool.true_and, Bool.or_true, Bool.true_or, Bool.or_false, Bool.false_or, Bool.not_true, Bool.not_false, Nat.reduceAdd, Nat.reduceSub, Nat.reduceLeDiff, Nat.add_zero, Nat.zero_add, Nat.reduceMul, Option.isNone_none, Option.isNone_some, Option.getD_none, true_and, and_true, not_true_eq_false, not_false_eq_true, decide_true, decide_false, List.toList_toArray, Nat.le_refl, and_self, Bool.not_eq_true, Nat.sub_self, or_true, true_or, Option.some.injEq, List.length_map, List.nil_eq, and_false, false_and, AV.live, CV.live, CV.liveIn, firstReg, Option.orElse_some, Option.orElse_none, head, keepSlots, keepBoxes, Int.lt_irrefl, List.length_append, ite_self, memOK, logOps, opKey, lentBoxes, Key.clash, Key.sees, Key.writes, Nat.lt_irrefl, gt_iff_lt, nobox_at, bot_at, false_or, or_false, beq_self_eq_true, Bool.true_beq, Bool.false_beq, region0, K0_own, K0_P, hr]

theorem byte0_den (s : List UInt8) (c : Int) : den K0 66 [.c (.pv (.str s)), .c (.pv (.int .u8 c))] [] = some (.ret (.c (.pv (.int .i64 (Lib.indexByte s c.toNat.toUInt8)))) []) := by
  rw [den_prim (K := K0) (F := pIndexByte) rfl]
  rfl

theorem valid0_den (r : Int) : den K0 103 [.c (.pv (.int .i32 r))] [] = some (.ret (.c (.pv (.bool (Utf8.valid r)))) []) := by
  refine den_run0 rfl Tryd.func103 rfl Tryd.ntmps103 ⟨by simp, by simp [LK]⟩ ?_
  have hr : Tryd.f103.results = #[.tmp 2] := rfl
  have e : Utf8.valid r = ((decide (0 ≤ r) && decide (r < 55296)) || (decide (57343 < r) && decide (r ≤ 1114111))) := by
    unfold Utf8.valid
    have : decide (57344 ≤ r) = decide (57343 < r) := decide_eq_decide.2 (by omega)
    rw [← this]
  rw [e]
  cases b1 : decide (0 ≤ r) <;> cases b2 : decide (r < 55296) <;> cases b3 : decide (57343 < r) <;> cases b4 : decide (r ≤ 1114111) <;> simp only [exL_seq, exL_cond, exL_block, exL_scope, exL_ret, exL_skip, exL_exit, runRegion, runOps, stepOp, guardA, absOp, takeOver, opd, avOf, cvOf, St.degAt, St.put, okPV, okVal, okAV, absBin, intBin, strBin, boolBin, setBoxes, if_true, Bool.false_eq_true, if_false, Option.map_some, Option.map_none, Option.bind_some, Option.bind_none, thenO, outOf, upd, List.toList_toArray, isOwn, steal, appArgs, inApps, AV.deg, CV.deg, AV.gv, AV.isIter, absNext, some_bne, Nat.reduceLT, reduceIte, reduceCtorEq, Nat.reduceEqDiff, List.length_nil, List.length_cons, apply_ite (Option.map (outOf _)), List.filterMap_cons, List.filterMap_nil, beq_iff_eq, List.getElem?_cons_zero, List.getElem?_cons_succ, Option.getD_some, Nat.reduceBEq, Bool.false_and, Bool.and_false, Bool.and_self, absCall, doCall, getBoxes, lend, back, idx, dedup, AV.ren, CV.ren, TV.ren, AV.ptrs, CV.ptrs, zipBox, AV.flat, CV.flat, absLoad, absStore, cellsOfAV, setAt, newBox, markB, bldTypes, absFieldAddr, absField, absExtract, absAssert, noAssert, absMkIface, ifcOf, CV.pv?, content, pushHead, ownT, fillCells, reps, pvs, chunks, enterSt, leave, resOf, resVars, resVar, outBoxes, lentOnly, TV.deg, TV.av, LK, CV.plain, CV.noBld, nilBin, absUn, bound, List.map_cons, List.map_nil, List.all_cons, List.all_nil, List.any_cons, List.any_nil, List.contains_cons, List.contains_nil, List.elem_cons, List.elem_nil, List.cons_append, List.nil_append, List.append_nil, List.flatMap_cons, List.flatMap_nil, List.zip_cons_cons, List.zip_nil_left, List.zip_nil_right, List.take_succ_cons, List.take_zero, List.take_nil, List.drop_succ_cons, List.drop_zero, List.drop_nil, List.isEmpty_nil, List.isEmpty_cons, Bool.and_true, Bool.true_and, Bool.or_true, Bool.true_or, Bool.or_false, Bool.false_or, Bool.not_true, Bool.not_false, Nat.reduceAdd, Nat.reduceSub, Nat.reduceLeDiff, Nat.add_zero, Nat.zero_add, Nat.reduceMul, Option.isNone_none, Option.isNone_some, Option.getD_none, true_and, and_true, not_true_eq_false, not_false_eq_true, decide_true, decide_false, List.toList_toArray, Nat.le_refl, and_self, Bool.not_eq_true, Nat.sub_self, or_true, true_or, Option.some.injEq, List.length_map, List.nil_eq, and_false, false_and, AV.live, CV.live, CV.liveIn, firstReg, Option.orElse_some, Option.orElse_none, head, keepSlots, keepBoxes, Int.lt_irrefl, List.length_append, ite_self, memOK, logOps, opKey, lentBoxes, Key.clash, Key.sees, Key.writes, Nat.lt_irrefl, gt_iff_lt, nobox_at, bot_at, false_or, or_false, beq_self_eq_true, Bool.true_beq, Bool.false_beq, region0, K0_own, K0_P, hr, b1, b2, b3, b4]

abbrev endsL : List UInt8 := [10, 12, 13]

theorem err0_run : callN K0 40 96 [.c (.pv (.str endsL)), .c (.pv (.int .i32 65533))] [] = some (.ret (.c (.pv (.int .i64 (-1)))) []) := by kernel_rfl

theorem miss_high {c : UInt8} (h : 128 ≤ c.toNat) : ∀ l : List UInt8, (∀ b ∈ l, b.toNat < 128) → Lib.indexByte l c = -1
  | [], _ => rfl
  | b :: l, hl => by
    have hb : (b == c) = false := by
      rw [beq_eq_false_iff_ne]; intro e; have := hl b (by simp); rw [e] at this; omega
    rw [Lib.indexByte, hb, miss_high h l fun x hx => hl x (by simp [hx])]
    rfl

set_option maxHeartbeats 4000000 in
set_option maxRecDepth 100000 in
theorem rune0_den (r : Int) (h : 0 ≤ r ∧ r ≤ 2147483647) : den K0 96 [.c (.pv (.str endsL)), .c (.pv (.int .i32 r))] [] = some (.ret (.c (.pv (.int .i64 (if r < 128 then Lib.indexByte endsL r.toNat.toUInt8 else -1)))) []) := by
  have hr : Tryd.f96.results = #[.tmp 4] := rfl
  have h0 : decide (0 ≤ r) = true := decide_eq_true h.1
  by_cases h1 : r < 128
  · have d1 : decide (r < 128) = true := decide_eq_true h1
    have w1 : IntKind.u8.wrap r = r := IntWalk.u8_in _ (by omega)
    have hb := byte0_den endsL r
    refine den_run0 rfl Tryd.func96 rfl Tryd.ntmps96 ⟨by simp, by simp [LK]⟩ ?_
    simp only [exL_seq, exL_cond, exL_block, exL_scope, exL_ret, exL_skip, exL_exit, runRegion, runOps, stepOp, guardA, absOp, takeOver, opd, avOf, cvOf, St.degAt, St.put, okPV, okVal, okAV, absBin, intBin, strBin, boolBin, setBoxes, if_true, Bool.false_eq_true, if_false, Option.map_some, Option.map_none, Option.bind_some, Option.bind_none, thenO, outOf, upd, List.toList_toArray, isOwn, steal, appArgs, inApps, AV.deg, CV.deg, AV.gv, AV.isIter, absNext, some_bne, Nat.reduceLT, reduceIte, reduceCtorEq, Nat.reduceEqDiff, List.length_nil, List.length_cons, apply_ite (Option.map (outOf _)), List.filterMap_cons, List.filterMap_nil, beq_iff_eq, List.getElem?_cons_zero, List.getElem?_cons_succ, Option.getD_some, Nat.reduceBEq, Bool.false_and, Bool.and_false, Bool.and_self, absCall, doCall, getBoxes, lend, back, idx, dedup, AV.ren, CV.ren, TV.ren, AV.ptrs, CV.ptrs, zipBox, AV.flat, CV.flat, absLoad, absStore, cellsOfAV, setAt, newBox, markB, bldTypes, absFieldAddr, absField, absExtract, absAssert, noAssert, absMkIface, ifcOf, CV.pv?, content, pushHead, ownT, fillCells, reps, pvs, chunks, enterSt, leave, resOf, resVars, resVar, outBoxes, lentOnly, TV.deg, TV.av, LK, CV.plain, CV.noBld, nilBin, absUn, bound, List.map_cons, List.map_nil, List.all_cons, List.all_nil, List.any_cons, List.any_nil, List.contains_cons, List.contains_nil, List.elem_cons, List.elem_nil, List.cons_append, List.nil_append, List.append_nil, List.flatMap_cons, List.flatMap_nil, List.zip_cons_cons, List.zip_nil_left, List.zip_nil_right, List.take_succ_cons, List.take_zero, List.take_nil, List.drop_succ_cons, List.drop_zero, List.drop_nil, List.isEmpty_nil, List.isEmpty_cons, Bool.and_true, Bool.true_and, Bool.or_true, Bool.true_or, Bool.or_false, Bool.false_or, Bool.not_true, Bool.not_false, Nat.reduceAdd, Nat.reduceSub, Nat.reduceLeDiff, Nat.add_zero, Nat.zero_add, Nat.reduceMul, Option.isNone_none, Option.isNone_some, Option.getD_none, true_and, and_true, not_true_eq_false, not_false_eq_true, decide_true, decide_false, List.toList_toArray, Nat.le_refl, and_self, Bool.not_eq_true, Nat.sub_self, or_true, true_or, Option.some.injEq, List.length_map, List.nil_eq, and_false, false_and, AV.live, CV.live, CV.liveIn, firstReg, Option.orElse_some, Option.orElse_none, head, keepSlots, keepBoxes, Int.lt_irrefl, List.length_append, ite_self, memOK, logOps, opKey, lentBoxes, Key.clash, Key.sees, Key.writes, Nat.lt_irrefl, gt_iff_lt, nobox_at, bot_at, false_or, or_false, beq_self_eq_true, Bool.true_beq, Bool.false_beq, region0, K0_own, K0_P, hr, h0, h1, d1, w1, hb, K0_good4, ev_conv_int K0_rune K0_byte]
  · have d1 : decide (r < 128) = false := decide_eq_false h1
    rw [if_neg h1]
    by_cases h2 : r = 65533
    · subst h2
      exact den_iff.2 ⟨40, err0_run⟩
    · have d2 : (r == 65533) = false := by simpa using h2
      have hv := valid0_den r
      refine den_run0 rfl Tryd.func96 rfl Tryd.ntmps96 ⟨by simp, by simp [LK]⟩ ?_
      cases h3 : Utf8.valid r
      · rw [h3] at hv
        simp only [exL_seq, exL_cond, exL_block, exL_scope, exL_ret, exL_skip, exL_exit, runRegion, runOps, stepOp, guardA, absOp, takeOver, opd, avOf, cvOf, St.degAt, St.put, okPV, okVal, okAV, absBin, intBin, strBin, boolBin, setBoxes, if_true, Bool.false_eq_true, if_false, Option.map_some, Option.map_none, Option.bind_some, Option.bind_none, thenO, outOf, upd, List.toList_toArray, isOwn, steal, appArgs, inApps, AV.deg, CV.deg, AV.gv, AV.isIter, absNext, some_bne, Nat.reduceLT, reduceIte, reduceCtorEq, Nat.reduceEqDiff, List.length_nil, List.length_cons, apply_ite (Option.map (outOf _)), List.filterMap_cons, List.filterMap_nil, beq_iff_eq, List.getElem?_cons_zero, List.getElem?_cons_succ, Option.getD_some, Nat.reduceBEq, Bool.false_and, Bool.and_false, Bool.and_self, absCall, doCall, getBoxes, lend, back, idx, dedup, AV.ren, CV.ren, TV.ren, AV.ptrs, CV.ptrs, zipBox, AV.flat, CV.flat, absLoad, absStore, cellsOfAV, setAt, newBox, markB, bldTypes, absFieldAddr, absField, absExtract, absAssert, noAssert, absMkIface, ifcOf, CV.pv?, content, pushHead, ownT, fillCells, reps, pvs, chunks, enterSt, leave, resOf, resVars, resVar, outBoxes, lentOnly, TV.deg, TV.av, LK, CV.plain, CV.noBld, nilBin, absUn, bound, List.map_cons, List.map_nil, List.all_cons, List.all_nil, List.any_cons, List.any_nil, List.contains_cons, List.contains_nil, List.elem_cons, List.elem_nil, List.cons_append, List.nil_append, List.append_nil, List.flatMap_cons, List.flatMap_nil, List.zip_cons_cons, List.zip_nil_left, List.zip_nil_right, List.take_succ_cons, List.take_zero, List.take_nil, List.drop_succ_cons, List.drop_zero, List.drop_nil, List.isEmpty_nil, List.isEmpty_cons, Bool.and_true, Bool.true_and, Bool.or_true, Bool.true_or, Bool.or_false, Bool.false_or, Bool.not_true, Bool.not_false, Nat.reduceAdd, Nat.reduceSub, Nat.reduceLeDiff, Nat.add_zero, Nat.zero_add, Nat.reduceMul, Option.isNone_none, Option.isNone_some, Option.getD_none, true_and, and_true, not_true_eq_false, not_false_eq_true, decide_true, decide_false, List.toList_toArray, Nat.le_refl, and_self, Bool.not_eq_true, Nat.sub_self, or_true, true_or, Option.some.injEq, List.length_map, List.nil_eq, and_false, false_and, AV.live, CV.live, CV.liveIn, firstReg, Option.orElse_some, Option.orElse_none, head, keepSlots, keepBoxes, Int.lt_irrefl, List.length_append, ite_self, memOK, logOps, opKey, lentBoxes, Key.clash, Key.sees, Key.writes, Nat.lt_irrefl, gt_iff_lt, nobox_at, bot_at, false_or, or_false, beq_self_eq_true, Bool.true_beq, Bool.false_beq, region0, K0_own, K0_P, hr, h0, d1, d2, hv, K0_good3]
      · rw [h3] at hv
        obtain ⟨e2, e4, elast⟩ := encode_facts r h3 (by omega)
        have hsz : (Utf8.encode r).size = (Utf8.encode r).data.toList.length := Lib.size_eq _
        have hlast : ∃ c : UInt8, (Utf8.encode r).data.toList[(Utf8.encode r).data.toList.length - 1]? = some c ∧ 128 ≤ c.toNat := by
          have hx : (Utf8.encode r).data.toList.length - 1 < (Utf8.encode r).data.toList.length := by omega
          refine ⟨_, List.getElem?_eq_getElem hx, ?_⟩
          have := elast (by rw [hsz]; exact hx)
          have e : (Utf8.encode r)[(Utf8.encode r).size - 1]'(by rw [hsz]; exact hx) = (Utf8.encode r).data.toList[(Utf8.encode r).data.toList.length - 1]'hx := by
            simp only [hsz]; rfl
          rw [e] at this
          exact this
        rw [hsz] at e2 e4
        clear elast hsz
        generalize ht : (Utf8.encode r).data.toList = t at e2 e4 hlast
        obtain ⟨c, hl, hc⟩ := hlast
        have hneg : decide ((-1 : Int) < 0) = true := by decide
        have hcb : (c.toNat : Int).toNat.toUInt8 = c := by simp
        have hm : ∀ l : List UInt8, (∀ b ∈ l, b.toNat < 128) → Lib.indexByte l c = -1 := fun l => miss_high hc l
        have hy : ∀ l : List UInt8, (∀ b ∈ l, b.toNat < 128) → den K0 66 [.c (.pv (.str l)), .c (.pv (.int .u8 c.toNat))] [] = some (.ret (.c (.pv (.int .i64 (-1)))) []) := fun l hl => by
          rw [byte0_den, hcb, hm l hl]
        have hne : ∀ b : UInt8, b.toNat < 128 → ((b.toNat : Int) != (c.toNat : Int)) = true := fun b hb => by rw [bne_iff_ne]; omega
        have w1 : IntKind.i64.wrap 1 = 1 := by decide
        have w2 : IntKind.i64.wrap 2 = 2 := by decide
        have w3 : IntKind.i64.wrap 3 = 3 := by decide
        have w4 : IntKind.i64.wrap 4 = 4 := by decide
        have y1 := hy [13] (by decide)
        have y2 := hy [] (by simp)
        have n1 : ((12 : Int) = (c.toNat : Int)) = False := eq_false (by omega)
        have n2 : ((13 : Int) = (c.toNat : Int)) = False := eq_false (by omega)
        simp only [exL_seq, exL_cond, exL_block, exL_scope, exL_ret, exL_skip, exL_exit, runRegion, runOps, stepOp, guardA, absOp, takeOver, opd, avOf, cvOf, St.degAt, St.put, okPV, okVal, okAV, absBin, intBin, strBin, boolBin, setBoxes, if_true, Bool.false_eq_true, if_false, Option.map_some, Option.map_none, Option.bind_some, Option.bind_none, thenO, outOf, upd, List.toList_toArray, isOwn, steal, appArgs, inApps, AV.deg, CV.deg, AV.gv, AV.isIter, absNext, some_bne, Nat.reduceLT, reduceIte, reduceCtorEq, Nat.reduceEqDiff, List.length_nil, List.length_cons, apply_ite (Option.map (outOf _)), List.filterMap_cons, List.filterMap_nil, beq_iff_eq, List.getElem?_cons_zero, List.getElem?_cons_succ, Option.getD_some, Nat.reduceBEq, Bool.false_and, Bool.and_false, Bool.and_self, absCall, doCall, getBoxes, lend, back, idx, dedup, AV.ren, CV.ren, TV.ren, AV.ptrs, CV.ptrs, zipBox, AV.flat, CV.flat, absLoad, absStore, cellsOfAV, setAt, newBox, markB, bldTypes, absFieldAddr, absField, absExtract, absAssert, noAssert, absMkIface, ifcOf, CV.pv?, content, pushHead, ownT, fillCells, reps, pvs, chunks, enterSt, leave, resOf, resVars, resVar, outBoxes, lentOnly, TV.deg, TV.av, LK, CV.plain, CV.noBld, nilBin, absUn, bound, List.map_cons, List.map_nil, List.all_cons, List.all_nil, List.any_cons, List.any_nil, List.contains_cons, List.contains_nil, List.elem_cons, List.elem_nil, List.cons_append, List.nil_append, List.append_nil, List.flatMap_cons, List.flatMap_nil, List.zip_cons_cons, List.zip_nil_left, List.zip_nil_right, List.take_succ_cons, List.take_zero, List.take_nil, List.drop_succ_cons, List.drop_zero, List.drop_nil, List.isEmpty_nil, List.isEmpty_cons, Bool.and_true, Bool.true_and, Bool.or_true, Bool.true_or, Bool.or_false, Bool.false_or, Bool.not_true, Bool.not_false, Nat.reduceAdd, Nat.reduceSub, Nat.reduceLeDiff, Nat.add_zero, Nat.zero_add, Nat.reduceMul, Option.isNone_none, Option.isNone_some, Option.getD_none, true_and, and_true, not_true_eq_false, not_false_eq_true, decide_true, decide_false, List.toList_toArray, Nat.le_refl, and_self, Bool.not_eq_true, Nat.sub_self, or_true, true_or, Option.some.injEq, List.length_map, List.nil_eq, and_false, false_and, AV.live, CV.live, CV.liveIn, firstReg, Option.orElse_some, Option.orElse_none, head, keepSlots, keepBoxes, Int.lt_irrefl, List.length_append, ite_self, memOK, logOps, opKey, lentBoxes, Key.clash, Key.sees, Key.writes, Nat.lt_irrefl, gt_iff_lt, nobox_at, bot_at, false_or, or_false, beq_self_eq_true, Bool.true_beq, Bool.false_beq, region0, K0_own, K0_P, hr, h0, d1, d2, hv, K0_good3, ev_conv_rune K0_rune K0_str, ht, ev_len_str K0_str]
        rw [exL_loop]
        rcases t with _ | ⟨a, _ | ⟨b, _ | ⟨d, _ | ⟨e, _ | ⟨e', t⟩⟩⟩⟩⟩
        · exact absurd e2 (by rw [List.length_nil]; omega)
        · exact absurd e2 (by rw [List.length_cons, List.length_nil]; omega)
        ·
          obtain rfl : b = c := by simpa using hl
          simp [exL_seq, exL_cond, exL_block, exL_scope, exL_ret, exL_skip, exL_exit, runRegion, runOps, stepOp, guardA, absOp, takeOver, opd, avOf, cvOf, St.degAt, St.put, okPV, okVal, okAV, absBin, intBin, strBin, boolBin, setBoxes, if_true, Bool.false_eq_true, if_false, Option.map_some, Option.map_none, Option.bind_some, Option.bind_none, thenO, outOf, upd, List.toList_toArray, isOwn, steal, appArgs, inApps, AV.deg, CV.deg, AV.gv, AV.isIter, absNext, some_bne, Nat.reduceLT, reduceIte, reduceCtorEq, Nat.reduceEqDiff, List.length_nil, List.length_cons, apply_ite (Option.map (outOf _)), List.filterMap_cons, List.filterMap_nil, beq_iff_eq, List.getElem?_cons_zero, List.getElem?_cons_succ, Option.getD_some, Nat.reduceBEq, Bool.false_and, Bool.and_false, Bool.and_self, absCall, doCall, getBoxes, lend, back, idx, dedup, AV.ren, CV.ren, TV.ren, AV.ptrs, CV.ptrs, zipBox, AV.flat, CV.flat, absLoad, absStore, cellsOfAV, setAt, newBox, markB, bldTypes, absFieldAddr, absField, absExtract, absAssert, noAssert, absMkIface, ifcOf, CV.pv?, content, pushHead, ownT, fillCells, reps, pvs, chunks, enterSt, leave, resOf, resVars, resVar, outBoxes, lentOnly, TV.deg, TV.av, LK, CV.plain, CV.noBld, nilBin, absUn, bound, List.map_cons, List.map_nil, List.all_cons, List.all_nil, List.any_cons, List.any_nil, List.contains_cons, List.contains_nil, List.elem_cons, List.elem_nil, List.cons_append, List.nil_append, List.append_nil, List.flatMap_cons, List.flatMap_nil, List.zip_cons_cons, List.zip_nil_left, List.zip_nil_right, List.take_succ_cons, List.take_zero, List.take_nil, List.drop_succ_cons, List.drop_zero, List.drop_nil, List.isEmpty_nil, List.isEmpty_cons, Bool.and_true, Bool.true_and, Bool.or_true, Bool.true_or, Bool.or_false, Bool.false_or, Bool.not_true, Bool.not_false, Nat.reduceAdd, Nat.reduceSub, Nat.reduceLeDiff, Nat.add_zero, Nat.zero_add, Nat.reduceMul, Option.isNone_none, Option.isNone_some, Option.getD_none, true_and, and_true, not_true_eq_false, not_false_eq_true, decide_true, decide_false, List.toList_toArray, Nat.le_refl, and_self, Bool.not_eq_true, Nat.sub_self, or_true, true_or, Option.some.injEq, List.length_map, List.nil_eq, and_false, false_and, AV.live, CV.live, CV.liveIn, firstReg, Option.orElse_some, Option.orElse_none, head, keepSlots, keepBoxes, Int.lt_irrefl, List.length_append, ite_self, memOK, logOps, opKey, lentBoxes, Key.clash, Key.sees, Key.writes, Nat.lt_irrefl, gt_iff_lt, nobox_at, bot_at, false_or, or_false, beq_self_eq_true, Bool.true_beq, Bool.false_beq, region0, K0_own, K0_keep, K0_keep5, K0_P, hr, K0_good4, ev_len_str K0_str, ev_index K0_str, ev_slice_str K0_str, w1, w2, w3, w4, y1, y2, n1, n2, hneg, reach, endsL]
        ·
          obtain rfl : d = c := by simpa using hl
          simp [exL_seq, exL_cond, exL_block, exL_scope, exL_ret, exL_skip, exL_exit, runRegion, runOps, stepOp, guardA, absOp, takeOver, opd, avOf, cvOf, St.degAt, St.put, okPV, okVal, okAV, absBin, intBin, strBin, boolBin, setBoxes, if_true, Bool.false_eq_true, if_false, Option.map_some, Option.map_none, Option.bind_some, Option.bind_none, thenO, outOf, upd, List.toList_toArray, isOwn, steal, appArgs, inApps, AV.deg, CV.deg, AV.gv, AV.isIter, absNext, some_bne, Nat.reduceLT, reduceIte, reduceCtorEq, Nat.reduceEqDiff, List.length_nil, List.length_cons, apply_ite (Option.map (outOf _)), List.filterMap_cons, List.filterMap_nil, beq_iff_eq, List.getElem?_cons_zero, List.getElem?_cons_succ, Option.getD_some, Nat.reduceBEq, Bool.false_and, Bool.and_false, Bool.and_self, absCall, doCall, getBoxes, lend, back, idx, dedup, AV.ren, CV.ren, TV.ren, AV.ptrs, CV.ptrs, zipBox, AV.flat, CV.flat, absLoad, absStore, cellsOfAV, setAt, newBox, markB, bldTypes, absFieldAddr, absField, absExtract, absAssert, noAssert, absMkIface, ifcOf, CV.pv?, content, pushHead, ownT, fillCells, reps, pvs, chunks, enterSt, leave, resOf, resVars, resVar, outBoxes, lentOnly, TV.deg, TV.av, LK, CV.plain, CV.noBld, nilBin, absUn, bound, List.map_cons, List.map_nil, List.all_cons, List.all_nil, List.any_cons, List.any_nil, List.contains_cons, List.contains_nil, List.elem_cons, List.elem_nil, List.cons_append, List.nil_append, List.append_nil, List.flatMap_cons, List.flatMap_nil, List.zip_cons_cons, List.zip_nil_left, List.zip_nil_right, List.take_succ_cons, List.take_zero, List.take_nil, List.drop_succ_cons, List.drop_zero, List.drop_nil, List.isEmpty_nil, List.isEmpty_cons, Bool.and_true, Bool.true_and, Bool.or_true, Bool.true_or, Bool.or_false, Bool.false_or, Bool.not_true, Bool.not_false, Nat.reduceAdd, Nat.reduceSub, Nat.reduceLeDiff, Nat.add_zero, Nat.zero_add, Nat.reduceMul, Option.isNone_none, Option.isNone_some, Option.getD_none, true_and, and_true, not_true_eq_false, not_false_eq_true, decide_true, decide_false, List.toList_toArray, Nat.le_refl, and_self, Bool.not_eq_true, Nat.sub_self, or_true, true_or, Option.some.injEq, List.length_map, List.nil_eq, and_false, false_and, AV.live, CV.live, CV.liveIn, firstReg, Option.orElse_some, Option.orElse_none, head, keepSlots, keepBoxes, Int.lt_irrefl, List.length_append, ite_self, memOK, logOps, opKey, lentBoxes, Key.clash, Key.sees, Key.writes, Nat.lt_irrefl, gt_iff_lt, nobox_at, bot_at, false_or, or_false, beq_self_eq_true, Bool.true_beq, Bool.false_beq, region0, K0_own, K0_keep, K0_keep5, K0_P, hr, K0_good4, ev_len_str K0_str, ev_index K0_str, ev_slice_str K0_str, w1, w2, w3, w4, y1, y2, n1, n2, hneg, reach, endsL]
        ·
          obtain rfl : e = c := by simpa using hl
          simp [exL_seq, exL_cond, exL_block, exL_scope, exL_ret, exL_skip, exL_exit, runRegion, runOps, stepOp, guardA, absOp, takeOver, opd, avOf, cvOf, St.degAt, St.put, okPV, okVal, okAV, absBin, intBin, strBin, boolBin, setBoxes, if_true, Bool.false_eq_true, if_false, Option.map_some, Option.map_none, Option.bind_some, Option.bind_none, thenO, outOf, upd, List.toList_toArray, isOwn, steal, appArgs, inApps, AV.deg, CV.deg, AV.gv, AV.isIter, absNext, some_bne, Nat.reduceLT, reduceIte, reduceCtorEq, Nat.reduceEqDiff, List.length_nil, List.length_cons, apply_ite (Option.map (outOf _)), List.filterMap_cons, List.filterMap_nil, beq_iff_eq, List.getElem?_cons_zero, List.getElem?_cons_succ, Option.getD_some, Nat.reduceBEq, Bool.false_and, Bool.and_false, Bool.and_self, absCall, doCall, getBoxes, lend, back, idx, dedup, AV.ren, CV.ren, TV.ren, AV.ptrs, CV.ptrs, zipBox, AV.flat, CV.flat, absLoad, absStore, cellsOfAV, setAt, newBox, markB, bldTypes, absFieldAddr, absField, absExtract, absAssert, noAssert, absMkIface, ifcOf, CV.pv?, content, pushHead, ownT, fillCells, reps, pvs, chunks, enterSt, leave, resOf, resVars, resVar, outBoxes, lentOnly, TV.deg, TV.av, LK, CV.plain, CV.noBld, nilBin, absUn, bound, List.map_cons, List.map_nil, List.all_cons, List.all_nil, List.any_cons, List.any_nil, List.contains_cons, List.contains_nil, List.elem_cons, List.elem_nil, List.cons_append, List.nil_append, List.append_nil, List.flatMap_cons, List.flatMap_nil, List.zip_cons_cons, List.zip_nil_left, List.zip_nil_right, List.take_succ_cons, List.take_zero, List.take_nil, List.drop_succ_cons, List.drop_zero, List.drop_nil, List.isEmpty_nil, List.isEmpty_cons, Bool.and_true, Bool.true_and, Bool.or_true, Bool.true_or, Bool.or_false, Bool.false_or, Bool.not_true, Bool.not_false, Nat.reduceAdd, Nat.reduceSub, Nat.reduceLeDiff, Nat.add_zero, Nat.zero_add, Nat.reduceMul, Option.isNone_none, Option.isNone_some, Option.getD_none, true_and, and_true, not_true_eq_false, not_false_eq_true, decide_true, decide_false, List.toList_toArray, Nat.le_refl, and_self, Bool.not_eq_true, Nat.sub_self, or_true, true_or, Option.some.injEq, List.length_map, List.nil_eq, and_false, false_and, AV.live, CV.live, CV.liveIn, firstReg, Option.orElse_some, Option.orElse_none, head, keepSlots, keepBoxes, Int.lt_irrefl, List.length_append, ite_self, memOK, logOps, opKey, lentBoxes, Key.clash, Key.sees, Key.writes, Nat.lt_irrefl, gt_iff_lt, nobox_at, bot_at, false_or, or_false, beq_self_eq_true, Bool.true_beq, Bool.false_beq, region0, K0_own, K0_keep, K0_keep5, K0_P, hr, K0_good4, ev_len_str K0_str, ev_index K0_str, ev_slice_str K0_str, w1, w2, w3, w4, y1, y2, n1, n2, hneg, reach, endsL]
        · exact absurd e4 (by simp only [List.length_cons]; omega)
end Go.Abs

namespace Go.Abs
open Go Go.Proofs
set_option maxRecDepth 10000

/-! ### what an iterator meets -/

theorem decode_width (s : ByteArray) (pos : Nat) (h : pos < s.size) : pos + (Utf8.decode s pos).2 ≤ s.size := by
  simp only [Utf8.decode]
  repeat' split
  all_goals simp_all
  all_goals omega
theorem decode_bytes (s : ByteArray) (pos : Nat) (h : pos < s.size) (ha : 128 ≤ (s[pos]'h).toNat) : ∀ j, pos ≤ j → j < pos + (Utf8.decode s pos).2 → 128 ≤ (s.get! j).toNat := by
  have hn : ¬ (s[pos]'h).toNat < 128 := by omega
  have h0 : 128 ≤ (s.get! pos).toNat := by have := get_at s pos h; rw [Nat.add_zero] at this; rw [this]; exact ha
  intro j h1 h2
  obtain ⟨k, rfl⟩ : ∃ k, j = pos + k := ⟨j - pos, by omega⟩
  have h3 : k < (Utf8.decode s pos).2 := by omega
  clear h1 h2
  simp only [Utf8.decode, get_at s pos h, hn, if_false] at h3
  have key : k = 0 ∨ k = 1 ∧ (s.get! (pos + 1)).toNat / 64 = 2 ∨ k = 2 ∧ (s.get! (pos + 2)).toNat / 64 = 2 ∨ k = 3 ∧ (s.get! (pos + 3)).toNat / 64 = 2 := by
    revert h3
    repeat' split
    all_goals simp_all
    all_goals omega
  rcases key with rfl | ⟨rfl, e⟩ | ⟨rfl, e⟩ | ⟨rfl, e⟩
  · exact h0
  all_goals omega

/-- what is read at a place of a text -/
theorem decode_at (s : List UInt8) (pos : Nat) (h : pos < s.length) : ∃ (r wd : Nat), Utf8.decode ⟨s.toArray⟩ pos = (r, wd) ∧ 1 ≤ wd ∧ pos + wd ≤ s.length ∧ r ≤ 2147483647 ∧
    ((r < 128 ∧ wd = 1 ∧ ∃ b, s[pos]? = some b ∧ b.toNat = r) ∨ (128 ≤ r ∧ ∀ j b, pos ≤ j → j < pos + wd → s[j]? = some b → 128 ≤ b.toNat)) := by
  have hs : (⟨s.toArray⟩ : ByteArray).size = s.length := by simp [ByteArray.size]
  have hp : pos < (⟨s.toArray⟩ : ByteArray).size := by rw [hs]; exact h
  have hb : s[pos]? = some ((⟨s.toArray⟩ : ByteArray)[pos]'hp) := by
    rw [List.getElem?_eq_getElem h]; rfl
  have hw := decode_width ⟨s.toArray⟩ pos hp
  have hle := decode_le ⟨s.toArray⟩ pos
  rw [hs] at hw
  by_cases hc : ((⟨s.toArray⟩ : ByteArray)[pos]'hp).toNat < 128
  · have e := decode_ascii ⟨s.toArray⟩ pos hp hc
    refine ⟨_, _, e, Nat.le_refl _, by omega, by omega, .inl ⟨hc, rfl, _, hb, rfl⟩⟩
  · have e := decode_high ⟨s.toArray⟩ pos hp (by omega)
    refine ⟨_, _, rfl, e.2, hw, hle, .inr ⟨e.1, fun j b h1 h2 hj => ?_⟩⟩
    have h3 := decode_bytes ⟨s.toArray⟩ pos hp (by omega) j h1 h2
    have h4 : (⟨s.toArray⟩ : ByteArray).get! j = b := by
      have hlt : j < s.length := (List.getElem?_eq_some_iff.1 hj).1
      have := get_at ⟨s.toArray⟩ j (by rw [hs]; exact hlt)
      rw [Nat.add_zero] at this
      rw [this]
      rw [List.getElem?_eq_getElem hlt] at hj
      exact Option.some.inj hj
    rw [h4] at h3
    exact h3

theorem NoAny_more {s chars : List UInt8} {i j : Nat} (h : Lib.NoAny s chars i) (h2 : ∀ k b, i ≤ k → k < j → s[k]? = some b → chars.contains b = false) : Lib.NoAny s chars j := fun k b hk hb => by
  by_cases hki : k < i
  · exact h k b hki hb
  · exact h2 k b (by omega) hk hb
/-! ### the short road -/

/-- the loop whose first region has a number -/
def findLoop0 (r : Nat) : Code → Option Code
  | .loop a => bif Nat.beq ((firstReg a).getD 0) r then some a else findLoop0 r a
  | .seq a b => (findLoop0 r a).orElse fun _ => findLoop0 r b
  | .cond _ a b => (findLoop0 r a).orElse fun _ => findLoop0 r b
  | .block _ a => findLoop0 r a
  | .scope a => findLoop0 r a
  | _ => none
def loopAt0 (fn : Func) (r : Nat) : Code := ((fn.body.bind (findLoop0 r))).getD .skip

abbrev anyH (s : List UInt8) (i : Nat) : St := { sl := upd (upd bot 45 (.c (.iter s i))) 1 (.c (.pv (.str endsL))), bx := nobox, nt := 55 }

theorem high_not {b : UInt8} (h : 128 ≤ b.toNat) : endsL.contains b = false := by
  cases hc : endsL.contains b
  · rfl
  · have : b ∈ endsL := by simpa using hc
    have : b = 10 ∨ b = 12 ∨ b = 13 := by simpa [endsL] using this
    rcases this with rfl | rfl | rfl <;> exact absurd h (by decide)

theorem any0_loop (s : List UInt8) (h8 : s.length ≤ 8) : ∀ (k i : Nat) (S : St), s.length - i ≤ k → i ≤ s.length → head ([1, 45], []) S = anyH s i → Lib.NoAny s endsL i →
    Ends (exL K0 87 (.loop (loopAt0 Tryd.f87 18)) S) fun o S => (o = .ret ∧ S.sl 4 = .c (.pv (.int .i64 (Lib.indexAny s endsL))) ∨ Lib.indexAny s endsL = -1 ∧ o = .exit 2) ∧ S.nt = 55 := by
  intro k
  induction k with
  | zero =>
    intro i S hk hi hS hno
    obtain rfl : i = s.length := by omega
    have e := Lib.indexAny_none hno
    conv in loopAt0 _ _ => whnf
    rw [exL_loop]
    simp only [firstReg, Option.orElse_some, Option.getD_some, K0_keep, K0_keep18, hS]
    simp only [exL_seq, exL_cond, exL_block, exL_scope, exL_ret, exL_skip, exL_exit, runRegion, runOps, stepOp, guardA, absOp, takeOver, opd, avOf, cvOf, St.degAt, St.put, okPV, okVal, okAV, absBin, intBin, strBin, boolBin, setBoxes, if_true, Bool.false_eq_true, if_false, Option.map_some, Option.map_none, Option.bind_some, Option.bind_none, thenO, outOf, upd, List.toList_toArray, isOwn, steal, appArgs, inApps, AV.deg, CV.deg, AV.gv, AV.isIter, absNext, some_bne, Nat.reduceLT, reduceIte, reduceCtorEq, Nat.reduceEqDiff, List.length_nil, List.length_cons, apply_ite (Option.map (outOf _)), List.filterMap_cons, List.filterMap_nil, beq_iff_eq, List.getElem?_cons_zero, List.getElem?_cons_succ, Option.getD_some, Nat.reduceBEq, Bool.false_and, Bool.and_false, Bool.and_self, absCall, doCall, getBoxes, lend, back, idx, dedup, AV.ren, CV.ren, TV.ren, AV.ptrs, CV.ptrs, zipBox, AV.flat, CV.flat, absLoad, absStore, cellsOfAV, setAt, newBox, markB, bldTypes, absFieldAddr, absField, absExtract, absAssert, noAssert, absMkIface, ifcOf, CV.pv?, content, pushHead, ownT, fillCells, reps, pvs, chunks, enterSt, leave, resOf, resVars, resVar, outBoxes, lentOnly, TV.deg, TV.av, LK, CV.plain, CV.noBld, nilBin, absUn, bound, List.map_cons, List.map_nil, List.all_cons, List.all_nil, List.any_cons, List.any_nil, List.contains_cons, List.contains_nil, List.elem_cons, List.elem_nil, List.cons_append, List.nil_append, List.append_nil, List.flatMap_cons, List.flatMap_nil, List.zip_cons_cons, List.zip_nil_left, List.zip_nil_right, List.take_succ_cons, List.take_zero, List.take_nil, List.drop_succ_cons, List.drop_zero, List.drop_nil, List.isEmpty_nil, List.isEmpty_cons, Bool.and_true, Bool.true_and, Bool.or_true, Bool.true_or, Bool.or_false, Bool.false_or, Bool.not_true, Bool.not_false, Nat.reduceAdd, Nat.reduceSub, Nat.reduceLeDiff, Nat.add_zero, Nat.zero_add, Nat.reduceMul, Option.isNone_none, Option.isNone_some, Option.getD_none, true_and, and_true, not_true_eq_false, not_false_eq_true, decide_true, decide_false, List.toList_toArray, Nat.le_refl, and_self, Bool.not_eq_true, Nat.sub_self, or_true, true_or, Option.some.injEq, List.length_map, List.nil_eq, and_false, false_and, AV.live, CV.live, CV.liveIn, firstReg, Option.orElse_some, Option.orElse_none, head, keepSlots, keepBoxes, Int.lt_irrefl, List.length_append, ite_self, memOK, logOps, opKey, lentBoxes, Key.clash, Key.sees, Key.writes, Nat.lt_irrefl, gt_iff_lt, nobox_at, bot_at, false_or, or_false, beq_self_eq_true, Bool.true_beq, Bool.false_beq, region0, K0_own, K0_keep, K0_P, ends_some, e]
  | succ k ih =>
    intro i S hk hi hS hno
    by_cases hlt : i < s.length
    case neg => exact ih i S (by omega) hi hS hno
    obtain ⟨r, wd, hd, hw1, hw2, hr, hcase⟩ := decode_at s i hlt
    have hit : iterNext s i = i + wd := by unfold iterNext; rw [hd]
    have hr0 : (0 : Int) ≤ (r : Int) ∧ (r : Int) ≤ 2147483647 := by omega
    have hru := rune0_den (r : Int) hr0
    obtain ⟨v, hv⟩ : ∃ v, (if (r : Int) < 128 then Lib.indexByte endsL (r : Int).toNat.toUInt8 else -1) = v := ⟨_, rfl⟩
    rw [hv] at hru
    have ih' := ih (i + wd)
    conv at ih' in loopAt0 _ _ => whnf
    conv in loopAt0 _ _ => whnf
    rw [exL_loop]
    simp only [firstReg, Option.orElse_some, Option.getD_some, K0_keep, K0_keep18, hS]
    cases hdec : decide (0 ≤ v)
    · have hno' : Lib.NoAny s endsL (i + wd) := by
        refine NoAny_more hno fun j b h1 h2 hj => ?_
        rcases hcase with ⟨hr1, rfl, b', hb', hbr⟩ | ⟨hr1, hall⟩
        · obtain rfl : j = i := by omega
          rw [hj] at hb'
          cases hb'
          rw [if_pos (by omega)] at hv
          have hback : ((r : Int)).toNat.toUInt8 = b := by rw [← hbr]; simp
          rw [hback] at hv
          rw [Lib.contains_iff_indexByte, hv, hdec]
        · exact high_not (hall j b h1 h2 hj)
      simp only [exL_seq, exL_cond, exL_block, exL_scope, exL_ret, exL_skip, exL_exit, runRegion, runOps, stepOp, guardA, absOp, takeOver, opd, avOf, cvOf, St.degAt, St.put, okPV, okVal, okAV, absBin, intBin, strBin, boolBin, setBoxes, if_true, Bool.false_eq_true, if_false, Option.map_some, Option.map_none, Option.bind_some, Option.bind_none, thenO, outOf, upd, List.toList_toArray, isOwn, steal, appArgs, inApps, AV.deg, CV.deg, AV.gv, AV.isIter, absNext, some_bne, Nat.reduceLT, reduceIte, reduceCtorEq, Nat.reduceEqDiff, List.length_nil, List.length_cons, apply_ite (Option.map (outOf _)), List.filterMap_cons, List.filterMap_nil, beq_iff_eq, List.getElem?_cons_zero, List.getElem?_cons_succ, Option.getD_some, Nat.reduceBEq, Bool.false_and, Bool.and_false, Bool.and_self, absCall, doCall, getBoxes, lend, back, idx, dedup, AV.ren, CV.ren, TV.ren, AV.ptrs, CV.ptrs, zipBox, AV.flat, CV.flat, absLoad, absStore, cellsOfAV, setAt, newBox, markB, bldTypes, absFieldAddr, absField, absExtract, absAssert, noAssert, absMkIface, ifcOf, CV.pv?, content, pushHead, ownT, fillCells, reps, pvs, chunks, enterSt, leave, resOf, resVars, resVar, outBoxes, lentOnly, TV.deg, TV.av, LK, CV.plain, CV.noBld, nilBin, absUn, bound, List.map_cons, List.map_nil, List.all_cons, List.all_nil, List.any_cons, List.any_nil, List.contains_cons, List.contains_nil, List.elem_cons, List.elem_nil, List.cons_append, List.nil_append, List.append_nil, List.flatMap_cons, List.flatMap_nil, List.zip_cons_cons, List.zip_nil_left, List.zip_nil_right, List.take_succ_cons, List.take_zero, List.take_nil, List.drop_succ_cons, List.drop_zero, List.drop_nil, List.isEmpty_nil, List.isEmpty_cons, Bool.and_true, Bool.true_and, Bool.or_true, Bool.true_or, Bool.or_false, Bool.false_or, Bool.not_true, Bool.not_false, Nat.reduceAdd, Nat.reduceSub, Nat.reduceLeDiff, Nat.add_zero, Nat.zero_add, Nat.reduceMul, Option.isNone_none, Option.isNone_some, Option.getD_none, true_and, and_true, not_true_eq_false, not_false_eq_true, decide_true, decide_false, List.toList_toArray, Nat.le_refl, and_self, Bool.not_eq_true, Nat.sub_self, or_true, true_or, Option.some.injEq, List.length_map, List.nil_eq, and_false, false_and, AV.live, CV.live, CV.liveIn, firstReg, Option.orElse_some, Option.orElse_none, head, keepSlots, keepBoxes, Int.lt_irrefl, List.length_append, ite_self, memOK, logOps, opKey, lentBoxes, Key.clash, Key.sees, Key.writes, Nat.lt_irrefl, gt_iff_lt, nobox_at, bot_at, false_or, or_false, beq_self_eq_true, Bool.true_beq, Bool.false_beq, region0, K0_own, K0_keep, K0_P, K0_good2, hlt, hd, hit, hru, hdec]
      refine ih' _ (by omega) hw2 ?_ hno'
      rfl
    · have hgo : Lib.indexAny s endsL = (i : Int) := by
        rcases hcase with ⟨hr1, rfl, b', hb', hbr⟩ | ⟨hr1, hall⟩
        · rw [if_pos (by omega)] at hv
          have hback : ((r : Int)).toNat.toUInt8 = b' := by rw [← hbr]; simp
          rw [hback] at hv
          exact Lib.indexAny_hit hno hb' (by rw [Lib.contains_iff_indexByte, hv, hdec])
        · rw [if_neg (by omega)] at hv
          rw [← hv] at hdec
          cases hdec
      simp only [exL_seq, exL_cond, exL_block, exL_scope, exL_ret, exL_skip, exL_exit, runRegion, runOps, stepOp, guardA, absOp, takeOver, opd, avOf, cvOf, St.degAt, St.put, okPV, okVal, okAV, absBin, intBin, strBin, boolBin, setBoxes, if_true, Bool.false_eq_true, if_false, Option.map_some, Option.map_none, Option.bind_some, Option.bind_none, thenO, outOf, upd, List.toList_toArray, isOwn, steal, appArgs, inApps, AV.deg, CV.deg, AV.gv, AV.isIter, absNext, some_bne, Nat.reduceLT, reduceIte, reduceCtorEq, Nat.reduceEqDiff, List.length_nil, List.length_cons, apply_ite (Option.map (outOf _)), List.filterMap_cons, List.filterMap_nil, beq_iff_eq, List.getElem?_cons_zero, List.getElem?_cons_succ, Option.getD_some, Nat.reduceBEq, Bool.false_and, Bool.and_false, Bool.and_self, absCall, doCall, getBoxes, lend, back, idx, dedup, AV.ren, CV.ren, TV.ren, AV.ptrs, CV.ptrs, zipBox, AV.flat, CV.flat, absLoad, absStore, cellsOfAV, setAt, newBox, markB, bldTypes, absFieldAddr, absField, absExtract, absAssert, noAssert, absMkIface, ifcOf, CV.pv?, content, pushHead, ownT, fillCells, reps, pvs, chunks, enterSt, leave, resOf, resVars, resVar, outBoxes, lentOnly, TV.deg, TV.av, LK, CV.plain, CV.noBld, nilBin, absUn, bound, List.map_cons, List.map_nil, List.all_cons, List.all_nil, List.any_cons, List.any_nil, List.contains_cons, List.contains_nil, List.elem_cons, List.elem_nil, List.cons_append, List.nil_append, List.append_nil, List.flatMap_cons, List.flatMap_nil, List.zip_cons_cons, List.zip_nil_left, List.zip_nil_right, List.take_succ_cons, List.take_zero, List.take_nil, List.drop_succ_cons, List.drop_zero, List.drop_nil, List.isEmpty_nil, List.isEmpty_cons, Bool.and_true, Bool.true_and, Bool.or_true, Bool.true_or, Bool.or_false, Bool.false_or, Bool.not_true, Bool.not_false, Nat.reduceAdd, Nat.reduceSub, Nat.reduceLeDiff, Nat.add_zero, Nat.zero_add, Nat.reduceMul, Option.isNone_none, Option.isNone_some, Option.getD_none, true_and, and_true, not_true_eq_false, not_false_eq_true, decide_true, decide_false, List.toList_toArray, Nat.le_refl, and_self, Bool.not_eq_true, Nat.sub_self, or_true, true_or, Option.some.injEq, List.length_map, List.nil_eq, and_false, false_and, AV.live, CV.live, CV.liveIn, firstReg, Option.orElse_some, Option.orElse_none, head, keepSlots, keepBoxes, Int.lt_irrefl, List.length_append, ite_self, memOK, logOps, opKey, lentBoxes, Key.clash, Key.sees, Key.writes, Nat.lt_irrefl, gt_iff_lt, nobox_at, bot_at, false_or, or_false, beq_self_eq_true, Bool.true_beq, Bool.false_beq, region0, K0_own, K0_keep, K0_P, K0_good2, hlt, hd, hit, hru, hdec, ends_some, hgo]

theorem any0_den (s : List UInt8) (h8 : s.length ≤ 8) : den K0 87 [.c (.pv (.str s)), .c (.pv (.str endsL))] [] = some (.ret (.c (.pv (.int .i64 (Lib.indexAny s endsL)))) []) := by
  have hr : Tryd.f87.results = #[.tmp 4] := rfl
  have hu := use0_den (s.length : Int)
  have h8d : decide ((8 : Int) < (s.length : Int)) = false := decide_eq_false (by omega)
  rw [h8d] at hu
  have hloop := any0_loop s h8 s.length 0
  conv at hloop in loopAt0 _ _ => whnf
  refine den_run0 rfl Tryd.func87 rfl Tryd.ntmps87 ⟨by simp, by simp [LK]⟩ ?_
  have e0 : (endsL == []) = false := by decide
  have e1 : (((3 : Nat) : Int) == 1) = false := by decide
  simp only [exL_seq, exL_cond, exL_block, exL_scope, exL_ret, exL_skip, exL_exit, runRegion, runOps, stepOp, guardA, absOp, takeOver, opd, avOf, cvOf, St.degAt, St.put, okPV, okVal, okAV, absBin, intBin, strBin, boolBin, setBoxes, if_true, Bool.false_eq_true, if_false, Option.map_some, Option.map_none, Option.bind_some, Option.bind_none, thenO, outOf, upd, List.toList_toArray, isOwn, steal, appArgs, inApps, AV.deg, CV.deg, AV.gv, AV.isIter, absNext, some_bne, Nat.reduceLT, reduceIte, reduceCtorEq, Nat.reduceEqDiff, List.length_nil, List.length_cons, apply_ite (Option.map (outOf _)), List.filterMap_cons, List.filterMap_nil, beq_iff_eq, List.getElem?_cons_zero, List.getElem?_cons_succ, Option.getD_some, Nat.reduceBEq, Bool.false_and, Bool.and_false, Bool.and_self, absCall, doCall, getBoxes, lend, back, idx, dedup, AV.ren, CV.ren, TV.ren, AV.ptrs, CV.ptrs, zipBox, AV.flat, CV.flat, absLoad, absStore, cellsOfAV, setAt, newBox, markB, bldTypes, absFieldAddr, absField, absExtract, absAssert, noAssert, absMkIface, ifcOf, CV.pv?, content, pushHead, ownT, fillCells, reps, pvs, chunks, enterSt, leave, resOf, resVars, resVar, outBoxes, lentOnly, TV.deg, TV.av, LK, CV.plain, CV.noBld, nilBin, absUn, bound, List.map_cons, List.map_nil, List.all_cons, List.all_nil, List.any_cons, List.any_nil, List.contains_cons, List.contains_nil, List.elem_cons, List.elem_nil, List.cons_append, List.nil_append, List.append_nil, List.flatMap_cons, List.flatMap_nil, List.zip_cons_cons, List.zip_nil_left, List.zip_nil_right, List.take_succ_cons, List.take_zero, List.take_nil, List.drop_succ_cons, List.drop_zero, List.drop_nil, List.isEmpty_nil, List.isEmpty_cons, Bool.and_true, Bool.true_and, Bool.or_true, Bool.true_or, Bool.or_false, Bool.false_or, Bool.not_true, Bool.not_false, Nat.reduceAdd, Nat.reduceSub, Nat.reduceLeDiff, Nat.add_zero, Nat.zero_add, Nat.reduceMul, Option.isNone_none, Option.isNone_some, Option.getD_none, true_and, and_true, not_true_eq_false, not_false_eq_true, decide_true, decide_false, List.toList_toArray, Nat.le_refl, and_self, Bool.not_eq_true, Nat.sub_self, or_true, true_or, Option.some.injEq, List.length_map, List.nil_eq, and_false, false_and, AV.live, CV.live, CV.liveIn, firstReg, Option.orElse_some, Option.orElse_none, head, keepSlots, keepBoxes, Int.lt_irrefl, List.length_append, ite_self, memOK, logOps, opKey, lentBoxes, Key.clash, Key.sees, Key.writes, Nat.lt_irrefl, gt_iff_lt, nobox_at, bot_at, false_or, or_false, beq_self_eq_true, Bool.true_beq, Bool.false_beq, region0, K0_own, K0_keep, K0_P, K0_good1, hr, hu, ev_len_str K0_str, ev_range K0_str, e0, e1]
  obtain ⟨o, S', e, hq, hn⟩ := hloop (anyH s 0) (by omega) (Nat.zero_le _) rfl (Lib.NoAny.zero _ _)
  rw [exL_loop] at e ⊢
  simp only [firstReg, Option.orElse_some, Option.getD_some, K0_keep, K0_keep18] at e ⊢
  rw [show head ([1, 45], []) (anyH s 0) = anyH s 0 from rfl] at e
  simp only [head, keepSlots, keepBoxes, upd, AV.live, CV.live, reduceIte, Nat.reduceEqDiff]
  erw [e]
  rcases hq with ⟨rfl, hv⟩ | ⟨hv, rfl⟩
  · simp only [exL_seq, exL_cond, exL_block, exL_scope, exL_ret, exL_skip, exL_exit, runRegion, runOps, stepOp, guardA, absOp, takeOver, opd, avOf, cvOf, St.degAt, St.put, okPV, okVal, okAV, absBin, intBin, strBin, boolBin, setBoxes, if_true, Bool.false_eq_true, if_false, Option.map_some, Option.map_none, Option.bind_some, Option.bind_none, thenO, outOf, upd, List.toList_toArray, isOwn, steal, appArgs, inApps, AV.deg, CV.deg, AV.gv, AV.isIter, absNext, some_bne, Nat.reduceLT, reduceIte, reduceCtorEq, Nat.reduceEqDiff, List.length_nil, List.length_cons, apply_ite (Option.map (outOf _)), List.filterMap_cons, List.filterMap_nil, beq_iff_eq, List.getElem?_cons_zero, List.getElem?_cons_succ, Option.getD_some, Nat.reduceBEq, Bool.false_and, Bool.and_false, Bool.and_self, absCall, doCall, getBoxes, lend, back, idx, dedup, AV.ren, CV.ren, TV.ren, AV.ptrs, CV.ptrs, zipBox, AV.flat, CV.flat, absLoad, absStore, cellsOfAV, setAt, newBox, markB, bldTypes, absFieldAddr, absField, absExtract, absAssert, noAssert, absMkIface, ifcOf, CV.pv?, content, pushHead, ownT, fillCells, reps, pvs, chunks, enterSt, leave, resOf, resVars, resVar, outBoxes, lentOnly, TV.deg, TV.av, LK, CV.plain, CV.noBld, nilBin, absUn, bound, List.map_cons, List.map_nil, List.all_cons, List.all_nil, List.any_cons, List.any_nil, List.contains_cons, List.contains_nil, List.elem_cons, List.elem_nil, List.cons_append, List.nil_append, List.append_nil, List.flatMap_cons, List.flatMap_nil, List.zip_cons_cons, List.zip_nil_left, List.zip_nil_right, List.take_succ_cons, List.take_zero, List.take_nil, List.drop_succ_cons, List.drop_zero, List.drop_nil, List.isEmpty_nil, List.isEmpty_cons, Bool.and_true, Bool.true_and, Bool.or_true, Bool.true_or, Bool.or_false, Bool.false_or, Bool.not_true, Bool.not_false, Nat.reduceAdd, Nat.reduceSub, Nat.reduceLeDiff, Nat.add_zero, Nat.zero_add, Nat.reduceMul, Option.isNone_none, Option.isNone_some, Option.getD_none, true_and, and_true, not_true_eq_false, not_false_eq_true, decide_true, decide_false, List.toList_toArray, Nat.le_refl, and_self, Bool.not_eq_true, Nat.sub_self, or_true, true_or, Option.some.injEq, List.length_map, List.nil_eq, and_false, false_and, AV.live, CV.live, CV.liveIn, firstReg, Option.orElse_some, Option.orElse_none, head, keepSlots, keepBoxes, Int.lt_irrefl, List.length_append, ite_self, memOK, logOps, opKey, lentBoxes, Key.clash, Key.sees, Key.writes, Nat.lt_irrefl, gt_iff_lt, nobox_at, bot_at, false_or, or_false, beq_self_eq_true, Bool.true_beq, Bool.false_beq, region0, K0_own, K0_keep, K0_P, hr, hv]
  · simp only [exL_seq, exL_cond, exL_block, exL_scope, exL_ret, exL_skip, exL_exit, runRegion, runOps, stepOp, guardA, absOp, takeOver, opd, avOf, cvOf, St.degAt, St.put, okPV, okVal, okAV, absBin, intBin, strBin, boolBin, setBoxes, if_true, Bool.false_eq_true, if_false, Option.map_some, Option.map_none, Option.bind_some, Option.bind_none, thenO, outOf, upd, List.toList_toArray, isOwn, steal, appArgs, inApps, AV.deg, CV.deg, AV.gv, AV.isIter, absNext, some_bne, Nat.reduceLT, reduceIte, reduceCtorEq, Nat.reduceEqDiff, List.length_nil, List.length_cons, apply_ite (Option.map (outOf _)), List.filterMap_cons, List.filterMap_nil, beq_iff_eq, List.getElem?_cons_zero, List.getElem?_cons_succ, Option.getD_some, Nat.reduceBEq, Bool.false_and, Bool.and_false, Bool.and_self, absCall, doCall, getBoxes, lend, back, idx, dedup, AV.ren, CV.ren, TV.ren, AV.ptrs, CV.ptrs, zipBox, AV.flat, CV.flat, absLoad, absStore, cellsOfAV, setAt, newBox, markB, bldTypes, absFieldAddr, absField, absExtract, absAssert, noAssert, absMkIface, ifcOf, CV.pv?, content, pushHead, ownT, fillCells, reps, pvs, chunks, enterSt, leave, resOf, resVars, resVar, outBoxes, lentOnly, TV.deg, TV.av, LK, CV.plain, CV.noBld, nilBin, absUn, bound, List.map_cons, List.map_nil, List.all_cons, List.all_nil, List.any_cons, List.any_nil, List.contains_cons, List.contains_nil, List.elem_cons, List.elem_nil, List.cons_append, List.nil_append, List.append_nil, List.flatMap_cons, List.flatMap_nil, List.zip_cons_cons, List.zip_nil_left, List.zip_nil_right, List.take_succ_cons, List.take_zero, List.take_nil, List.drop_succ_cons, List.drop_zero, List.drop_nil, List.isEmpty_nil, List.isEmpty_cons, Bool.and_true, Bool.true_and, Bool.or_true, Bool.true_or, Bool.or_false, Bool.false_or, Bool.not_true, Bool.not_false, Nat.reduceAdd, Nat.reduceSub, Nat.reduceLeDiff, Nat.add_zero, Nat.zero_add, Nat.reduceMul, Option.isNone_none, Option.isNone_some, Option.getD_none, true_and, and_true, not_true_eq_false, not_false_eq_true, decide_true, decide_false, List.toList_toArray, Nat.le_refl, and_self, Bool.not_eq_true, Nat.sub_self, or_true, true_or, Option.some.injEq, List.length_map, List.nil_eq, and_false, false_and, AV.live, CV.live, CV.liveIn, firstReg, Option.orElse_some, Option.orElse_none, head, keepSlots, keepBoxes, Int.lt_irrefl, List.length_append, ite_self, memOK, logOps, opKey, lentBoxes, Key.clash, Key.sees, Key.writes, Nat.lt_irrefl, gt_iff_lt, nobox_at, bot_at, false_or, or_false, beq_self_eq_true, Bool.true_beq, Bool.false_beq, region0, K0_own, K0_keep, K0_P, hr, hv, hn]
end Go.Abs

namespace Go.Abs
open Go Go.Proofs Go.RowKit

def pIndexAny : Prim
  | [.c (.pv (.str s)), .c (.pv (.str p))], [] => if p = [10, 12, 13] ∧ s.length < 4294967281 then some (.c (.pv (.int .i64 (Lib.indexAny s p))), []) else none
  | _, _ => none

def goodB0 (P : Program) (f : Nat) : Bool :=
  match P.funcs[f]? with
  | some fn => fn.name != "runtime.NumGoroutine" && (match fn.body with | some c => codeOK (fun _ => false) c | none => false)
  | none => false
theorem goods0_ok : [87, 97, 96, 103, 66].all (goodB0 Tryd.prog) = true := by kernel_rfl

theorem K0_prog : Prog K0 := by
  refine ⟨by kernel_rfl, fun g hg => ?_, fun f F args bxs x _ hF hx => ?_⟩
  · have h1 : g ∈ [87, 97, 96, 103, 66] := by simpa [K0] using hg
    have h2 := List.all_eq_true.1 goods0_ok g h1
    unfold goodB0 at h2
    split at h2
    · rename_i fn hfn
      simp only [Bool.and_eq_true] at h2
      obtain ⟨h3, h4⟩ := h2
      split at h4
      · rename_i c hc
        exact ⟨fn, c, hfn, by simpa using h3, hc, h4⟩
      · cases h4
    · cases h2
  · have h2 : pr0 f = some F := hF
    unfold pr0 at h2
    split at h2
    · rename_i hf
      cases h2
      have : f = 66 := by simpa using hf
      subst this
      exact pIndexByte_ok hx
    · cases h2

theorem h116 : (Tryd.prog.info? 111).map (fun i => (i.zero, i.size)) = some (some (.agg (Array.replicate 256 (.bool false))), 256) := by kernel_rfl

theorem pIndexAny_ok {args : List AV} {bxs : List (List CV)} {x : AV × List (List CV)} (h : pIndexAny args bxs = some x) : Contract Tryd.prog 87 args bxs (.ret x.1 x.2) := by
  unfold pIndexAny at h
  split at h
  case h_2 => cases h
  rename_i s p
  split at h
  case isFalse => cases h
  rename_i hs
  cases h
  obtain ⟨rfl, hs⟩ := hs
  by_cases h8 : s.length ≤ 8
  · exact den_ok K0_prog (by rfl) (any0_den s h8)
  · refine contract_data fun G w cargs hw hargs => ?_
    obtain ⟨x, y, rfl, hx, hy⟩ := args_two hargs
    cases hx.strv
    cases hy.strv
    have hsz : (⟨s.toArray⟩ : ByteArray).size = s.length := by simp [ByteArray.size]
    refine (Tryd.strings_IndexAny_long (zero_of_info h116).1 ⟨s.toArray⟩ ⟨([10, 12, 13] : List UInt8).toArray⟩ w (by decide) (by rw [hsz]; omega) (by rw [hsz]; exact hs) (by decide) ?_).mono ?_
    · intro j b hb
      have : b ∈ ([10, 12, 13] : List UInt8) := List.mem_of_getElem? hb
      have : b = 10 ∨ b = 12 ∨ b = 13 := by simpa using this
      rcases this with rfl | rfl | rfl <;> decide
    · rintro e w' ⟨rfl, rfl⟩
      exact ⟨_, rfl, .int _ _, ((Below.refl _ _).alloc (Nat.le_refl _) _).alloc (by simp) _⟩
end Go.Abs
