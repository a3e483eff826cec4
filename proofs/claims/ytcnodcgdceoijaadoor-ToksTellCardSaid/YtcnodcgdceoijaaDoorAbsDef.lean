/-
  THE ABSTRACT INTERPRETER: definitions. Heap-free values, a frame of slots and named boxes; slices by their content; a call copies the boxes in and out. No statement stands here.
-/
import Derived.Tactics
import Derived.Orders
set_option linter.unusedSimpArgs false
set_option linter.unusedVariables false
namespace Go.Abs
open Go

/-- The library's own tables, that a row lays ('block, values'); and blocks whose first cell holds some int. -/
def tabs : List (Nat × List Value) := [(1, (List.range 20).map fun i => .int .u64 ((10 ^ i : Nat) : Int))]
def ints : List Nat := [0]

/-- types of boxes that begin with a strings.Builder, and are no longer -/
def bldTypes : List TypeId := [62
  , 64
  ]

/-- Data without memory: a slice is the list of its elements, an element the list of its cells. -/
inductive PV where
  | bool (b : Bool)
  | int (k : IntKind) (n : Int)
  | str (s : List UInt8)
  | sl (c : List (List PV))
  | ifc (t : TypeId) (p : PV)
  | ifa (t : TypeId) (l : List PV)
  | nilifc
  deriving Inhabited

/-- What one cell holds. 'own': a slice that may be appended to (its cell is its only owner); 'loc': a pointer into a named box of this frame; 'cptr': a pointer to cells that never turn; 'bld': the nil pointer at the head of a strings.Builder that has not been written. -/
inductive CV where
  | top
  | pv (p : PV)
  | own (e : TypeId) (c : List (List PV))
  | nils
  | loc (s off : Nat)
  | nilp
  | cptr (l : List PV)
  | fn (f : FuncId) (caps : List (Nat × Nat))
  | bld
  /-- an iterator over a string, that its slot alone owns, and its place -/
  | iter (s : List UInt8) (pos : Nat)
  deriving Inhabited

inductive TV where
  | c (v : CV)
  | agg (l : List CV)
  deriving Inhabited

inductive AV where
  | c (v : CV)
  | agg (l : List CV)
  | tup (l : List TV)
  deriving Inhabited

def TV.av : TV → AV
  | .c v => .c v
  | .agg l => .agg l

structure St where
  sl : Nat → AV
  bx : Nat → Option (List CV)
  nt : Nat

def upd {α : Type} (f : Nat → α) (k : Nat) (v : α) : Nat → α := fun t => if t = k then v else f t

def bot : Nat → AV := fun _ => .c .top
def nobox : Nat → Option (List CV) := fun _ => none

/-- Names from here on: boxes that a caller has lent. -/
def LK : Nat := 100000

def CV.deg : CV → CV
  | .own _ c => .pv (.sl c)
  | .bld => .nilp
  | .iter _ _ => .top
  | v => v
def AV.deg : AV → AV
  | .c v => .c v.deg
  | v => v

/-- where the next round of an iterator begins -/
def iterNext (s : List UInt8) (pos : Nat) : Nat := pos + (Utf8.decode (ByteArray.mk s.toArray) pos).2
def AV.isIter : AV → Bool
  | .c (.iter _ _) => true
  | _ => false
/-- a slot that an operation has turned: it gives up the right to append; an iterator goes on -/
def AV.gv : AV → AV
  | .c (.iter s pos) => .c (.iter s (iterNext s pos))
  | v => v.deg

/-- Not appendable: may stand in an aggregate. -/
def CV.plain : CV → Bool
  | .own _ _ => false
  | .iter _ _ => false
  | _ => true

/-- No pointer into a box. -/
def CV.flat : CV → Bool
  | .loc _ _ => false
  | .fn _ caps => caps.isEmpty
  | .iter _ _ => false
  | _ => true
def TV.flat : TV → Bool
  | .c v => v.flat
  | .agg l => l.all CV.flat
def AV.flat : AV → Bool
  | .c v => v.flat
  | .agg l => l.all CV.flat
  | .tup l => l.all TV.flat

def CV.pv? : CV → Option PV
  | .pv p => some p
  | .nils => some (.sl [])
  | .own _ c => some (.sl c)
  | _ => none

def cvOf : Value → CV
  | .bool b => .pv (.bool b)
  | .int k n => .pv (.int k n)
  | .string s => .pv (.str s.data.toList)
  | .slice none 0 0 => .nils
  | .pointer none => .nilp
  | .nilIface => .pv .nilifc
  | _ => .top

def avOf : Value → AV
  | .agg cs => if cs.toList.all Value.oneCell' then .agg (cs.toList.map cvOf) else .c .top
  | .tuple cs => if cs.isEmpty then .tup [] else .c .top
  | v => .c (cvOf v)

def opd (sl : Nat → AV) : Operand → AV
  | .tmp t => sl t
  | .const v => avOf v
  | .func f => .c (.fn f [])
  | .global _ => .c .top

/-- What the interpreter is run with. -/
structure Cfg where
  P : Program
  /-- functions that are not interpreted: their answers -/
  pr : FuncId → Option (List AV → List (List CV) → Option (AV × List (List CV)))
  /-- of a function and a loop (its first region's number): the slots and boxes that live at its head -/
  keep : FuncId → Nat → List Nat × List Nat
  /-- functions whose result keeps its right to be appended to -/
  ownRet : FuncId → Bool
  good : FuncId → Bool
  /-- of a function and a region: is it 'x.f = append(x.f, y[i])', with an order that is drawn? -/
  hook : FuncId → Nat → Bool

inductive Res where
  | ret (v : AV) (bx : List (List CV))
  | pan (v : CV) (bx : List (List CV))

/-- What an operation does: its value; slots that give up a slice; boxes written. -/
inductive Delta where
  | val (v : AV) (deg : Option Nat) (bx : List (Nat × List CV))
  | pan (v : CV) (bx : List (Nat × List CV))

abbrev CallF := FuncId → List AV → List (List CV) → Option Res

def isOwn : AV → Bool
  | .c (.own _ _) => true
  | .c (.iter _ _) => true
  | _ => false

/-- the slots that are the first operand of an append among some operations -/
def appArgs (ops : List Oper) : List Nat := ops.filterMap fun o =>
  match o.op with
  | .call c => (match c.callee, c.args.toList with
    | .builtin .append, (.tmp t) :: _ => some t
    | _, _ => none)
  | _ => none

def pvs : List CV → Option (List PV)
  | [] => some []
  | v :: l =>
    match v.pv?, pvs l with
    | some p, some m => some (p :: m)
    | _, _ => none

/-- Two structs all of whose fields are one cell each, of bool, integers, strings. -/
def fieldsEq (P : Program) : List Field → Nat → List PV → List PV → Option Bool
  | [], _, [], [] => some true
  | f :: fs, k, a :: l, b :: m =>
    if f.offset == k && f.name != "_" then
      match P.underlying f.type, a, b with
      | some .bool, .bool x, .bool y => (fieldsEq P fs (k + 1) l m).map fun r => (x == y) && r
      | some (.int _), .int i x, .int j y => if i = j then (fieldsEq P fs (k + 1) l m).map fun r => (x == y) && r else none
      | some .string, .str x, .str y => (fieldsEq P fs (k + 1) l m).map fun r => (x == y) && r
      | _, _, _ => none
    else none
  | _, _, _, _ => none
def structEq (P : Program) (t : TypeId) (l m : List PV) : Option Bool :=
  match P.underlying t with
  | some (.struct fs) => if P.eqGuardType P.depth t || P.stoodInHeld t then none else fieldsEq P fs.toList 0 l m
  | _ => none

def intBin (op : BinOp) (k : IntKind) (a b : Int) : Option PV :=
  match op with
  | .add => some (.int k (k.wrap (a + b)))
  | .sub => some (.int k (k.wrap (a - b)))
  | .mul => some (.int k (k.wrap (a * b)))
  | .quo => if b = 0 then none else some (.int k (k.wrap (a.tdiv b)))
  | .rem => if b = 0 then none else some (.int k (a.tmod b))
  | .eql => some (.bool (a == b))
  | .neq => some (.bool (a != b))
  | .lss => some (.bool (decide (a < b)))
  | .leq => some (.bool (decide (a ≤ b)))
  | .gtr => some (.bool (decide (b < a)))
  | .geq => some (.bool (decide (b ≤ a)))
  | _ => none

def strLim : Nat := 4611686018427387904

def strBin (op : BinOp) (a b : List UInt8) : Option PV :=
  match op with
  | .add => if a.length + b.length < strLim then some (.str (a ++ b)) else none
  | .eql => some (.bool (a == b))
  | .neq => some (.bool (a != b))
  | .lss => some (.bool (Op.bytesLess a b))
  | .leq => some (.bool (Op.bytesLess a b || a == b))
  | .gtr => some (.bool (!(Op.bytesLess a b || a == b)))
  | .geq => some (.bool (!Op.bytesLess a b))
  | _ => none

def isBoolT (P : Program) (t : TypeId) : Bool := match P.underlying t with | some .bool => true | _ => false
def isPtrT (P : Program) (t : TypeId) : Bool := match P.underlying t with | some (.pointer _) => true | _ => false

def boolBin (op : BinOp) (a b : Bool) : Option PV :=
  match op with
  | .eql => some (.bool (a == b))
  | .neq => some (.bool (!(a == b)))
  | _ => none

def nilBin (op : BinOp) (same : Bool) : Option PV :=
  match op with
  | .eql => some (.bool same)
  | .neq => some (.bool (!same))
  | _ => none

def absBin (P : Program) (op : BinOp) (t : TypeId) : AV → AV → Option PV
  | .c (.pv (.int k a)), .c (.pv (.int k' b)) => if k = k' then intBin op k a b else none
  | .c (.pv (.str a)), .c (.pv (.str b)) => strBin op a b
  | .c (.pv (.bool a)), .c (.pv (.bool b)) => if isBoolT P t then boolBin op a b else none
  | .c .nilp, .c .nilp => if isPtrT P t then nilBin op true else none
  | .c (.loc _ _), .c .nilp => if isPtrT P t then nilBin op false else none
  | .c .nilp, .c (.loc _ _) => if isPtrT P t then nilBin op false else none
  | .agg l, .agg m =>
    match op with
    | .eql | .neq =>
      (match pvs l, pvs m with
       | some a, some b => (match structEq P t a b with | some r => nilBin op r | none => none)
       | _, _ => none)
    | _ => none
  | _, _ => none

def absUn (op : UnOp) : AV → Option PV
  | .c (.pv (.bool b)) => match op with | .not => some (.bool (!b)) | _ => none
  | .c (.pv (.int k n)) => match op with | .neg => some (.int k (k.wrap (0 - n))) | _ => none
  | _ => none

/-- the content of a slice of whatever standing -/
def content : AV → Option (List (List PV))
  | .c (.pv (.sl c)) => some c
  | .c (.own _ c) => some c
  | .c .nils => some []
  | _ => none

def isU8 (P : Program) (t : TypeId) : Bool := match P.underlying t with | some (.int .u8) => true | _ => false

def bytesOf : List (List PV) → Option (List UInt8)
  | [] => some []
  | [.int .u8 n] :: l => (bytesOf l).map (UInt8.ofNat n.toNat :: ·)
  | _ => none

def absConv (P : Program) (src dst : TypeId) (x : AV) : Option AV :=
  match P.underlying src, P.underlying dst with
  | some (.int _), some (.int k) => (match x with | .c (.pv (.int _ n)) => some (.c (.pv (.int k (k.wrap n)))) | _ => none)
  | some (.int _), some .string => (match x with | .c (.pv (.int _ n)) => some (.c (.pv (.str (Utf8.encode n).data.toList))) | _ => none)
  | some .string, some .string => (match x with | .c (.pv (.str s)) => some (.c (.pv (.str s))) | _ => none)
  | some .string, some (.slice e) =>
    (match x with
     | .c (.pv (.str s)) => if isU8 P e && decide (s.length < strLim) then some (.c (.pv (.sl (s.map fun b => [.int .u8 b.toNat])))) else none
     | _ => none)
  | some (.slice e), some .string =>
    if isU8 P e then
      (match content x with
       | some c => (match bytesOf c with | some s => some (.c (.pv (.str s))) | none => none)
       | none => none)
    else none
  | _, _ => none

def absIndex (P : Program) (t : TypeId) : AV → AV → Option AV
  | .c (.pv (.str s)), .c (.pv (.int _ i)) =>
    match P.underlying t with
    | some .string => if 0 ≤ i then (match s[i.toNat]? with | some b => some (.c (.pv (.int .u8 b.toNat))) | none => none) else none
    | _ => none
  | _, _ => none

/-- how many cells a type's value has -/
def szOf (P : Program) (t : TypeId) : Option Nat := (P.info? t).map (·.size)

def bound (y : Nat) : Option AV → Nat → Option Nat
  | none, d => some d
  | some (.c (.pv (.int _ i))), _ => if 0 ≤ i ∧ i ≤ y then some i.toNat else none
  | _, _ => none

def absSlice (P : Program) (t : TypeId) (x : AV) (lo hi mx : Option AV) : Option AV :=
  match mx, P.underlying t with
  | none, some .string =>
    (match x with
     | .c (.pv (.str s)) =>
       (match bound s.length hi s.length with
        | some h => (match bound h lo 0 with | some l => some (.c (.pv (.str ((s.take h).drop l)))) | none => none)
        | none => none)
     | _ => none)
  | none, some (.slice e) =>
    (match content x with
     | some c =>
       (match bound c.length hi c.length with
        | some h => (match bound h lo 0 with
          | some l => if (szOf P e).any (fun n => c.all (fun el => el.length == n)) then some (.c (.pv (.sl ((c.take h).drop l)))) else none
          | none => none)
        | none => none)
     | none => none)
  | _, _ => none

def absIndexAddr (P : Program) (t : TypeId) (x i : AV) : Option AV :=
  match P.underlying t, content x, i with
  | some (.slice e), some c, .c (.pv (.int _ n)) =>
    if 0 ≤ n then
      match c[n.toNat]? with
      | some el => if szOf P e = some el.length then some (.c (.cptr el)) else none
      | none => none
    else none
  | _, _, _ => none

def fieldOff (P : Program) (t : TypeId) (f : Nat) : Option (Nat × TypeId) :=
  match P.underlying t with
  | some (.struct fs) => (fs[f]?).map fun x => (x.offset, x.type)
  | _ => none

def absFieldAddr (P : Program) (t : TypeId) (x : AV) (f : Nat) : Option AV :=
  match fieldOff P t f with
  | some (o, ft) =>
    match szOf P ft with
    | some (_ + 1) => (match x with
      | .c (.loc s off) => some (.c (.loc s (off + o)))
      | .c (.cptr l) => some (.c (.cptr (l.drop o)))
      | _ => none)
    | _ => none
  | none => none

/-- is a type's value one cell (some none), or so many in a row? -/
def shapeT (P : Program) (t : TypeId) : Option (Option Nat) :=
  match P.underlying t, szOf P t with
  | some (.struct _), some n | some (.array _ _), some n => some (some n)
  | some _, some _ => some none
  | _, _ => none

def absField (P : Program) (t : TypeId) (x : AV) (f : Nat) : Option AV :=
  match fieldOff P t f, x with
  | some (o, ft), .agg l =>
    match shapeT P ft with
    | some (some n) => if o + n ≤ l.length then some (.agg ((l.drop o).take n)) else none
    | some none => (match l[o]? with | some v => if v.plain then some (.c v) else none | none => none)
    | none => none
  | _, _ => none

def absExtract : AV → Nat → Option AV
  | .tup l, i => (l[i]?).map TV.av
  | _, _ => none

def zeroCells (P : Program) (t : TypeId) : Option (List CV) :=
  match P.info? t with
  | some i => match i.zero with
    | some z => if z.cells.toList.all Value.oneCell' then some (z.cells.toList.map cvOf) else none
    | none => none
  | none => none

def zeroAV (P : Program) (t : TypeId) : Option AV :=
  match P.info? t with
  | some i => match i.zero with
    | some z => some (avOf z)
    | none => none
  | none => none

def CV.noBld : CV → Bool
  | .bld => false
  | _ => true

/-- a new box's cells: a strings.Builder at the head is marked -/
def markB (t : TypeId) (l : List CV) : List CV :=
  if bldTypes.contains t then (match l with | .nilp :: r => .bld :: r | l => l) else l

/-- the cells of a value that goes into memory or an aggregate, appendable or not -/
def cellsOfAV : AV → Option (List CV)
  | .c .top => none
  | .c .bld => none
  | .c (.iter _ _) => none
  | .c v => some [v]
  | .agg l => if l.all CV.plain && l.all CV.noBld then some l else none
  | .tup _ => none

def setAt (l : List CV) (off : Nat) (vs : List CV) : List CV := l.take off ++ vs ++ l.drop (off + vs.length)

def fillCells (place : Nat → Option (Nat × Nat)) : List CV → List (Nat × AV) → Option (List CV)
  | cells, [] => some cells
  | cells, (i, x) :: rest =>
    match place i, cellsOfAV x.deg with
    | some (off, size), some vs =>
      if vs.length = size ∧ off + vs.length ≤ cells.length then fillCells place (setAt cells off vs) rest else none
    | _, _ => none

def absBuild (P : Program) (t : TypeId) (parts : List (Nat × AV)) : Option AV :=
  match zeroCells P t, P.underlying t with
  | some z, some (.struct fs) =>
    (match fs.toList.mapM (fun f => (P.info? f.type).map fun i => (f.offset, i.size)) with
     | some places => (match fillCells (fun i => places[i]?) z parts with
       | some l => some (.agg l)
       | none => none)
     | none => none)
  | _, _ => none

/-- a list cut into pieces of a size -/
def chunks (n : Nat) (l : List PV) : Nat → List (List PV)
  | 0 => []
  | k + 1 => l.take n :: chunks n (l.drop n) k

def reps (z : List CV) : Nat → List CV
  | 0 => []
  | n + 1 => z ++ reps z n

def absBuildSlice (P : Program) (t : TypeId) (len : Nat) (parts : List (Nat × AV)) : Option AV :=
  match P.underlying t with
  | some (.slice e) =>
    match szOf P e, zeroCells P e with
    | some n, some z =>
      if z.length = n ∧ 0 < n ∧ len * n ≤ 1048576 then
        match fillCells (fun i => some (i * n, n)) (reps z len) parts with
        | some l => (match pvs l with | some ps => some (.c (.own e (chunks n ps len))) | none => none)
        | none => none
      else none
    | _, _ => none
  | _ => none

def allInts (k : IntKind) : List AV → Option (List Int)
  | [] => some []
  | .c (.pv (.int k' n)) :: l => if k = k' then (allInts k l).map (n :: ·) else none
  | _ => none

def absMax : List AV → Option PV
  | .c (.pv (.int k n)) :: l => match allInts k l with | some m => some (.int k (m.foldl (fun x y => if y > x then y else x) n)) | none => none
  | _ => none
def absMin : List AV → Option PV
  | .c (.pv (.int k n)) :: l => match allInts k l with | some m => some (.int k (m.foldl (fun x y => if y < x then y else x) n)) | none => none
  | _ => none

def absLen (P : Program) (t : TypeId) (x : AV) : Option PV :=
  match P.underlying t with
  | some .string => (match x with | .c (.pv (.str s)) => some (.int .i64 s.length) | _ => none)
  | some (.slice _) => (match content x with | some c => some (.int .i64 c.length) | none => none)
  | _ => none

def appLim : Nat := 4294967296

def ownT : AV → Option TypeId
  | .c (.own e _) => some e
  | _ => none

/-- the elements that an append lays behind -/
def appNew (P : Program) (e : TypeId) (t : TypeId) (x : AV) : Option (List (List PV)) :=
  match P.underlying t with
  | some (.slice _) => content x
  | some .string => (match x with | .c (.pv (.str s)) => if isU8 P e then some (s.map fun b => [.int .u8 b.toNat]) else none | _ => none)
  | _ => none

def absAppend (P : Program) (ts : List TypeId) (s x : AV) : Option AV :=
  match ts with
  | [t, u] =>
    match P.underlying t with
    | some (.slice e) =>
      (match s, content s, appNew P e u x, P.info? e with
       | .c (.pv _), _, _, _ => none
       | _, some a, some b, some i =>
         if a.length + b.length < appLim ∧ i.bytes ≤ 4096 ∧ 0 < i.size ∧ i.zero.any (fun z => z.cells.size == i.size)
            ∧ a.all (fun el => el.length == i.size) ∧ b.all (fun el => el.length == i.size)
            ∧ (ownT s = none ∨ ownT s = some e ∨ a.isEmpty = true)
         then some (.c (.own e (a ++ b))) else none
       | _, _, _, _ => none)
    | _ => none
  | _ => none

def concreteT (P : Program) (t : TypeId) : Bool :=
  match P.underlying t with
  | none | some (.interface _) => false
  | _ => true

def ifcOf (t : TypeId) : AV → Option AV
  | .c v => match v.pv? with | some p => some (.c (.pv (.ifc t p))) | none => none
  | .agg l => match pvs l with | some ps => some (.c (.pv (.ifa t ps))) | none => none
  | .tup _ => none

def absMkIface (P : Program) (t : TypeId) (x : AV) : Option AV := if concreteT P t then ifcOf t x else none

def tvZero (P : Program) (t : TypeId) : Option TV :=
  match zeroAV P t with
  | some (.c .top) => none
  | some (.c v) => some (.c v)
  | some (.agg l) => some (.agg l)
  | _ => none

def noAssert (P : Program) (asserted : TypeId) (ok : Bool) : Option AV :=
  if ok then (match tvZero P asserted with | some z => some (.tup [z, .c (.pv (.bool false))]) | none => none) else none

def absAssert (P : Program) (asserted : TypeId) (ok : Bool) (x : AV) : Option AV :=
  if concreteT P asserted then
    match x with
    | .c (.pv (.ifc t p)) =>
      if t = asserted then (if ok then some (.tup [.c (.pv p), .c (.pv (.bool true))]) else some (.c (.pv p)))
      else noAssert P asserted ok
    | .c (.pv (.ifa t l)) =>
      if t = asserted then (if ok then some (.tup [.agg (l.map CV.pv), .c (.pv (.bool true))]) else some (.agg (l.map CV.pv)))
      else noAssert P asserted ok
    | .c (.pv .nilifc) => noAssert P asserted ok
    | _ => none
  else none

/-! ### Calls -/

def CV.ptrs : CV → List Nat
  | .loc s _ => [s]
  | .fn _ caps => caps.map (·.1)
  | _ => []
def AV.ptrs : AV → List Nat
  | .c v => v.ptrs
  | .agg l => l.flatMap CV.ptrs
  | .tup _ => []

def capsTo (g : Nat → Option Nat) : List (Nat × Nat) → Option (List (Nat × Nat))
  | [] => some []
  | (s, o) :: l =>
    match g s, capsTo g l with
    | some k, some m => some ((k, o) :: m)
    | _, _ => none

/-- pointers under other names; one that has none is lost -/
def CV.ren (g : Nat → Option Nat) : CV → CV
  | .loc s off => match g s with | some k => .loc k off | none => .top
  | .fn f caps => match capsTo g caps with | some m => .fn f m | none => .top
  | .iter _ _ => .top
  | v => v
def TV.ren (g : Nat → Option Nat) : TV → TV
  | .c v => .c (v.ren g)
  | .agg l => .agg (l.map (CV.ren g))
def AV.ren (g : Nat → Option Nat) : AV → AV
  | .c v => .c (v.ren g)
  | .agg l => .agg (l.map (CV.ren g))
  | .tup l => .tup (l.map (TV.ren g))

/-- the place of a name in a list -/
def idx (s : Nat) : List Nat → Option Nat
  | [] => none
  | a :: l => if a = s then some 0 else (idx s l).map (· + 1)

def lend (L : List Nat) (s : Nat) : Option Nat := (idx s L).map (LK + ·)
def back (L : List Nat) (k : Nat) : Option Nat := if LK ≤ k then L[k - LK]? else none

def getBoxes (bx : Nat → Option (List CV)) : List Nat → Option (List (List CV))
  | [] => some []
  | s :: l =>
    match bx s, getBoxes bx l with
    | some c, some m => some (c :: m)
    | _, _ => none

/-- each name once -/
def dedup : List Nat → List Nat
  | [] => []
  | a :: l => if (dedup l).contains a then dedup l else a :: dedup l

def zipBox (L : List Nat) (cs : List (List CV)) : List (Nat × List CV) := L.zip (cs.map fun c => c.map (CV.ren (back L)))

def doCall (call : CallF) (own : Bool) (bx : Nat → Option (List CV)) (g : FuncId) (args : List AV) : Option Delta :=
  if args.all AV.flat then
    match call g (args.map AV.deg) [] with
    | some (.ret v []) => if v.flat then some (.val (if own then v else v.deg) none []) else none
    | some (.pan v []) => if v.flat then some (.pan v []) else none
    | _ => none
  else
    let L := dedup (args.flatMap AV.ptrs)
    match getBoxes bx L with
    | none => none
    | some cs =>
      match call g (args.map fun a => (a.deg).ren (lend L)) (cs.map fun c => c.map (CV.ren (lend L))) with
      | some (.ret v cs') =>
        if cs'.length = L.length then some (.val ((if own then v else v.deg).ren (back L)) none (zipBox L cs')) else none
      | some (.pan v cs') => if cs'.length = L.length then some (.pan (v.ren (back L)) (zipBox L cs')) else none
      | none => none

/-! ### One operation -/

def inApps (apps : List Nat) : Option Nat → Bool
  | some d => apps.contains d
  | none => false

def steal (apps : List Nat) (always : Bool) (dst : Option Nat) : Operand → Option Nat
  | .tmp u => if always || inApps apps dst then some u else none
  | _ => none

def okVal (v : AV) : Option Delta := some (.val v none [])
def okPV (r : Option PV) : Option Delta := match r with | some p => some (.val (.c (.pv p)) none []) | none => none
def okAV (r : Option AV) : Option Delta := match r with | some v => some (.val v none []) | none => none

/-- a value that is taken over from a slot: the right to append goes with it, or stays -/
def takeOver (apps : List Nat) (always : Bool) (dst : Option Nat) (x : Operand) (v : AV) : Option Delta :=
  if v.isIter then none else
  if isOwn v then
    match steal apps always dst x with
    | some u => if dst = some u then none else some (.val v (some u) [])
    | none => some (.val v.deg none [])
  else some (.val v none [])

def absLoad (P : Program) (apps : List Nat) (bx : Nat → Option (List CV)) (dst : Option Nat) (t : TypeId) (a : AV) : Option Delta :=
  match shapeT P t, a with
  | some (some n), .c (.loc s off) =>
    (match bx s with
     | some cells => if off + n ≤ cells.length then some (.val (.agg (((cells.drop off).take n).map CV.deg)) none []) else none
     | none => none)
  | some none, .c (.loc s off) =>
    (match bx s with
     | some cells =>
       (match cells[off]? with
        | none => none
        | some v =>
          if (!v.plain) && (!(AV.c v).isIter) && inApps apps dst then
            some (.val (.c v) none [(s, setAt cells off [v.deg])])
          else some (.val (.c v.deg) none []))
     | none => none)
  | some (some n), .c (.cptr l) => if n ≤ l.length then some (.val (.agg ((l.take n).map CV.pv)) none []) else none
  | some none, .c (.cptr l) => (match l[0]? with | some p => some (.val (.c (.pv p)) none []) | none => none)
  | _, _ => none

def absStore (P : Program) (bx : Nat → Option (List CV)) (t : TypeId) (a : AV) (x : Operand) (v : AV) : Option Delta :=
  match a with
  | .c (.loc s off) =>
    match bx s, cellsOfAV v with
    | some cells, some vs =>
      if szOf P t = some vs.length ∧ off + vs.length ≤ cells.length then
        (if isOwn v then
          match x with
          | .tmp u => some (.val (.tup []) (some u) [(s, setAt cells off vs)])
          | _ => none
        else some (.val (.tup []) none [(s, setAt cells off vs)]))
      else none
    | _, _ => none
  | _ => none

def newBox (bx : Nat → Option (List CV)) (dst : Option Nat) (cells : List CV) : Option Delta :=
  match dst with
  | some d => if d < LK ∧ (bx d).isNone then some (.val (.c (.loc d 0)) none [(d, cells)]) else none
  | none => none

def absRange (P : Program) (t : TypeId) : AV → Option AV
  | .c (.pv (.str s)) => (match P.underlying t with | some .string => some (.c (.iter s 0)) | _ => none)
  | _ => none

/-- one more round of an iterator: its slot goes on -/
def absNext (dst : Option Nat) (str : Bool) (x : Operand) (v : AV) : Option Delta :=
  match x, v with
  | .tmp u, .c (.iter s pos) =>
    if str && dst != some u then
      if pos < s.length then some (.val (.tup [.c (.pv (.bool true)), .c (.pv (.int .i64 pos)), .c (.pv (.int .i32 (Utf8.decode (ByteArray.mk s.toArray) pos).1))]) (some u) [])
      else some (.val (.tup [.c (.pv (.bool false))]) none [])
    else none
  | _, _ => none

def locs : List AV → Option (List (Nat × Nat))
  | [] => some []
  | .c (.loc s o) :: l => (locs l).map ((s, o) :: ·)
  | _ => none

def absCall (K : Cfg) (call : CallF) (bx : Nat → Option (List CV)) (ρ : Operand → AV) (c : Call) : Option Delta :=
  match c.callee with
  | .builtin b =>
    match b with
    | .len => (match c.args.toList, c.argTypes.toList with | [x], [t] => okPV (absLen K.P t (ρ x)) | _, _ => none)
    | .max => okPV (absMax (c.args.toList.map ρ))
    | .min => okPV (absMin (c.args.toList.map ρ))
    | .append =>
      (match c.args.toList with
       | [s, x] =>
         (match absAppend K.P c.argTypes.toList (ρ s) (ρ x) with
          | some v => (match s, isOwn (ρ s) with
            | .tmp u, true => some (.val v (some u) [])
            | .tmp _, false => some (.val v none [])
            | .const _, _ => some (.val v none [])
            | _, _ => none)
          | none => none)
       | _ => none)
    | _ => none
  | .value f =>
    match ρ f with
    | .c (.fn g caps) =>
      if K.good g then doCall call (K.ownRet g) bx g (c.args.toList.map ρ ++ caps.map fun x => .c (.loc x.1 x.2)) else none
    | _ => none
  | .invoke _ _ => none

def absOp (K : Cfg) (call : CallF) (apps : List Nat) (bx : Nat → Option (List CV)) (ρ : Operand → AV) (o : Oper) : Option Delta :=
  match o.op with
  | .move x => takeOver apps false o.dst x (ρ x)
  | .assign x => takeOver apps true o.dst x (ρ x)
  | .pick c a b => (match ρ c with | .c (.pv (.bool t)) => okVal (if t then (ρ a).deg else (ρ b).deg) | _ => none)
  | .alloc t => (match zeroCells K.P t with | some l => newBox bx o.dst (markB t l) | none => none)
  | .box t x => (match cellsOfAV (ρ x).deg with | some l => newBox bx o.dst l | none => none)
  | .build t parts => okAV (absBuild K.P t (parts.toList.map fun p => (p.1, ρ p.2)))
  | .buildSlice t len parts => okAV (absBuildSlice K.P t len (parts.toList.map fun p => (p.1, ρ p.2)))
  | .load t a => absLoad K.P apps bx o.dst t (ρ a)
  | .store t a x => absStore K.P bx t (ρ a) x (ρ x)
  | .nilCheck x => (match ρ x with | .c (.loc s o) => okVal (.c (.loc s o)) | .c (.cptr l) => okVal (.c (.cptr l)) | .c (.fn f c) => okVal (.c (.fn f c)) | _ => none)
  | .binOp op t x y _ => okPV (absBin K.P op t (ρ x) (ρ y))
  | .unOp op _ x => okPV (absUn op (ρ x))
  | .convert s d x => okAV (absConv K.P s d (ρ x))
  | .makeInterface t x => okAV (absMkIface K.P t (ρ x))
  | .makeFunc (.func f) first caps => if first.isEmpty then (match locs (caps.toList.map ρ) with | some l => okVal (.c (.fn f l)) | none => none) else none
  | .slice t x lo hi mx => okAV (absSlice K.P t (ρ x) (lo.map ρ) (hi.map ρ) (mx.map ρ))
  | .fieldAddr t x f => okAV (absFieldAddr K.P t (ρ x) f)
  | .field t x f => okAV (absField K.P t (ρ x) f)
  | .indexAddr t x i => okAV (absIndexAddr K.P t (ρ x) (ρ i))
  | .index t x i => okAV (absIndex K.P t (ρ x) (ρ i))
  | .typeAssert x _ a ok => okAV (absAssert K.P a ok (ρ x))
  | .extract x i => okAV (absExtract (ρ x) i)
  | .range t x => okAV (absRange K.P t (ρ x))
  | .next x str => absNext o.dst str x (ρ x)
  | .call c => absCall K call bx ρ c
  | .panic x => (match ρ x with | .c (.pv (.ifc t p)) => some (.pan (.pv (.ifc t p)) []) | .c (.pv (.ifa t l)) => some (.pan (.pv (.ifa t l)) []) | _ => none)
  | _ => none

/-- which boxes an operation touches: 'rd' one is read (its slices without the right to append), 'tk' one gives up the right to append to a slice, 'wr' one is written, 'lend' some are lent to a call -/
inductive Key where
  | none
  | rd (s : Nat)
  | tk (s : Nat)
  | wr (s : Nat)
  | lend (l : List Nat)
  | all

def lentBoxes (args : List AV) (caps : List (Nat × Nat)) : List Nat := args.flatMap AV.ptrs ++ caps.map (·.1)

def opKey (apps : List Nat) (bx : Nat → Option (List CV)) (ρ : Operand → AV) (o : Oper) : Key :=
  match o.op with
  | .load _ a => (match ρ a with
    | .c (.loc s _) => if inApps apps o.dst then .tk s else .rd s
    | _ => .none)
  | .store _ a _ => (match ρ a with | .c (.loc s _) => .wr s | _ => .all)
  | .alloc _ | .box _ _ => (match o.dst with | some d => .wr d | Option.none => .all)
  | .call c => (match c.callee with
    | .value f => (match ρ f with
      | .c (.fn _ caps) => if caps.isEmpty && (c.args.toList.map ρ).all AV.flat then .none else .lend (lentBoxes (c.args.toList.map ρ) caps)
      | _ => .all)
    | _ => .none)
  | _ => .none

def setBoxes : (Nat → Option (List CV)) → List (Nat × List CV) → (Nat → Option (List CV))
  | f, [] => f
  | f, (s, c) :: l => setBoxes (upd f s (some c)) l

def St.degAt (S : St) : Option Nat → St
  | none => S
  | some u => { S with sl := upd S.sl u (S.sl u).gv }

def St.put (S : St) (d : Option Nat) (v : AV) : Option St :=
  match d with
  | none => some S
  | some d => if d < S.nt then some { S with sl := upd S.sl d v } else none

/-- its guard: some true, some false, or not known -/
def guardA (ops : List Oper) (S : St) (o : Oper) : Option Bool :=
  match o.guard with
  | none => some true
  | some (j, want) =>
    match (ops[j]?).bind (·.dst) with
    | none => some false
    | some d =>
      match S.sl d with
      | .c (.pv (.bool b)) => some (b == want)
      | .tup _ => some false
      | _ => none

inductive Out where
  | norm
  | exit (id : Nat)
  | ret
  | pan (v : CV)

/-- one operation of a region, its guard asked -/
def stepOp (K : Cfg) (call : CallF) (ops : List Oper) (o : Oper) (S : St) : Option (Out × St) :=
  match guardA ops S o with
  | none => none
  | some false => (S.put o.dst (.tup [])).map (Out.norm, ·)
  | some true =>
    match absOp K call (appArgs ops) S.bx (opd S.sl) o with
    | none => none
    | some (.pan v bs) => some (.pan v, { S with bx := setBoxes S.bx bs })
    | some (.val v dg bs) => ((({ S with bx := setBoxes S.bx bs } : St).degAt dg).put o.dst v).map (Out.norm, ·)

def runOps (K : Cfg) (call : CallF) (ops : List Oper) : List Oper → St → Option (Out × St)
  | [], S => some (.norm, S)
  | o :: rest, S =>
    match stepOp K call ops o S with
    | some (.norm, S1) => runOps K call ops rest S1
    | r => r

/-- the boxes that the operations of a run touch, by their numbers -/
def logOps (K : Cfg) (call : CallF) (ops : List Oper) : Nat → List Oper → St → List (Nat × Key)
  | _, [], _ => []
  | i, o :: rest, S =>
    let k := match guardA ops S o with
      | some true => opKey (appArgs ops) S.bx (opd S.sl) o
      | _ => .none
    match stepOp K call ops o S with
    | some (.norm, S1) => (match k with | .none => logOps K call ops (i + 1) rest S1 | k => (i, k) :: logOps K call ops (i + 1) rest S1)
    | _ => []

def Key.sees : Key → Nat → Bool
  | .rd a, s | .tk a, s | .wr a, s => a == s
  | .lend l, s => l.contains s
  | _, _ => false

def Key.clash : Key → Key → Bool
  | .none, _ | _, .none => false
  | .all, _ | _, .all => true
  | .rd _, .rd _ | .rd _, .tk _ | .tk _, .rd _ => false
  | .lend l, k => l.any k.sees
  | k, .lend l => l.any k.sees
  | .rd a, k | .tk a, k | .wr a, k => k.sees a

def Key.writes : Key → Bool
  | .none | .rd _ => false
  | _ => true

def dirAfter (o : Oper) (i : Nat) : Bool := o.after.toList.any fun e => Region.binds .any e && e.on == i

/-- does an operation have to stand behind another one? -/
def reach (ops : List Oper) : Nat → Nat → Nat → Bool
  | 0, _, _ => false
  | n + 1, j, i =>
    match ops[j]? with
    | none => false
    | some o => dirAfter o i || o.after.toList.any fun e => Region.binds .any e && reach ops n e.on i

def memOK (ops : List Oper) (log : List (Nat × Key)) : Bool :=
  !log.any (fun x => x.2.writes) ||
  log.all fun x => log.all fun y => !(x.1 < y.1) || !x.2.clash y.2 || reach ops ops.length y.1 x.1

/-- slots that an operation may take a slice from -/
def stealSrc (apps : List Nat) (o : Oper) : List Nat :=
  match o.op with
  | .move (.tmp u) => if inApps apps o.dst then [u] else []
  | .assign (.tmp u) => [u]
  | .store _ _ (.tmp u) => [u]
  | .next (.tmp u) _ => [u]
  | .call c => (match c.callee, c.args.toList with
    | .builtin .append, (.tmp u) :: _ => [u]
    | _, _ => [])
  | _ => []

def wrSlots (apps : List Nat) (o : Oper) : List Nat := o.dst.toList ++ stealSrc apps o

def apart2 (ops : List Oper) (apps : List Nat) (x y : Oper) : Bool :=
  (wrSlots apps x).all (fun d => !(y.looksAt ops.toArray).contains d && !(wrSlots apps y).contains d) &&
  (wrSlots apps y).all (fun d => !(x.looksAt ops.toArray).contains d)

/-- what is asked of a region that draws its order, of its text alone -/
def lexL (ops : List Oper) (apps : List Nat) : Nat → List Oper → Bool
  | _, [] => true
  | k, o :: rest => o.after.toList.all (fun e => !Region.binds .any e || decide (e.on < k)) && rest.all (fun oj => dirAfter oj k || apart2 ops apps o oj) && lexL ops apps (k + 1) rest

def storesOK (ops : List Oper) : Bool := ops.all fun o => match o.op with | .store .. => o.dst.isNone | _ => true

/-! ### A region 'x.f = append(x.f, y[i])': the translator appends a zero element, and stores the true one into it before or behind the store of the header -/

structure Push where
  t : TypeId
  e : TypeId
  st : TypeId
  fld : Nat
  s : Nat
  l : Nat
  d : Nat
  n : Nat
  i : Nat
  v : Nat
  p : Nat
  q : Nat
  r : Nat

def appOf (o : Oper) : Option (Nat × Nat × Nat × TypeId) :=
  match o.op, o.dst, o.guard with
  | .call c, some d, none =>
    (match c.callee, c.args.toList, c.argTypes.toList with
     | .builtin .append, [.tmp s, .tmp l], [t, u] => if t = u then some (s, l, d, t) else none
     | _, _, _ => none)
  | _, _, _ => none
def ixOf (o : Oper) : Option (TypeId × Nat × Nat × Nat) :=
  match o.op, o.dst, o.guard with
  | .indexAddr t (.tmp x) (.tmp n), some d, none => some (t, x, n, d)
  | _, _, _ => none
def stOf (o : Oper) : Option (TypeId × Nat × Nat) :=
  match o.op, o.dst, o.guard with
  | .store t (.tmp x) (.tmp v), none, none => some (t, x, v)
  | _, _, _ => none
def ncOf (o : Oper) : Option (Nat × Nat) :=
  match o.op, o.dst, o.guard with
  | .nilCheck (.tmp x), some d, none => some (x, d)
  | _, _, _ => none
def faOf (o : Oper) : Option (TypeId × Nat × Nat × Nat) :=
  match o.op, o.dst, o.guard with
  | .fieldAddr t (.tmp x) f, some d, none => some (t, x, f, d)
  | _, _, _ => none

def allNe : List Nat → Bool
  | [] => true
  | a :: l => !l.contains a && allNe l

def pushOf : List Oper → Option Push
  | [A, I, W, N, F, H] =>
    match appOf A, ixOf I, stOf W, ncOf N, faOf F, stOf H with
    | some (s, l, d, t), some (t1, d1, n, i), some (e, i1, v), some (p, q), some (st, q1, fld, r), some (t2, r1, d2) =>
      if t1 = t ∧ t2 = t ∧ d1 = d ∧ d2 = d ∧ i1 = i ∧ q1 = q ∧ r1 = r ∧ allNe [d, i, q, r, n] ∧ allNe [d, i, q, r, v] ∧ allNe [d, i, q, r, p] then some ⟨t, e, st, fld, s, l, d, n, i, v, p, q, r⟩ else none
    | _, _, _, _, _, _ => none
  | _ => none

def pushL (m : Nat) (a : Bool) (i j : Nat) : Array Bool := (List.replicate m true ++ [a, decide (1 ≤ i), decide (2 ≤ i), decide (1 ≤ j), decide (2 ≤ j), decide (3 ≤ j)]).toArray

/-- the last six come behind all others, and in two rows -/
def tailOK (ops : List Oper) (m : Nat) : Bool :=
  (ops.drop m).all (fun o => (List.range m).all fun i => dirAfter o i) &&
  Region.ready .any ops.toArray (pushL m false 0 0) == [m] &&
  (List.range 3).all fun i => (List.range 4).all fun j => Region.ready .any ops.toArray (pushL m true i j) == (if i < 2 then [m + 1 + i] else []) ++ (if j < 3 then [m + 3 + j] else [])

def edgesOK : Nat → List Oper → Bool
  | _, [] => true
  | k, o :: l => o.after.toList.all (fun e => !Region.binds .any e || decide (e.on < k)) && edgesOK (k + 1) l

def pushOK (ops : List Oper) : Bool :=
  let m := ops.length - 6
  6 ≤ ops.length && (pushOf (ops.drop m)).isSome && edgesOK 0 ops && storesOK (ops.take m) && lexL ops (appArgs ops) 0 (ops.take m) && tailOK ops m

/-- what is asked of a function's text -/
def codeOK (hk : Nat → Bool) : Code → Bool
  | .region id ops draw => if hk id then draw && pushOK ops.toList else storesOK ops.toList && (!draw || lexL ops.toList (appArgs ops.toList) 0 ops.toList)
  | .seq a b => codeOK hk a && codeOK hk b
  | .cond _ a b => codeOK hk a && codeOK hk b
  | .block _ c => codeOK hk c
  | .scope c => codeOK hk c
  | .loop c => codeOK hk c
  | _ => true

def runRegion (K : Cfg) (call : CallF) (ops : List Oper) (draw : Bool) (S : St) : Option (Out × St) :=
  if draw then
    match runOps K call ops ops S with
    | some (.norm, S1) => if memOK ops (logOps K call ops 0 ops S) then some (.norm, S1) else none
    | _ => none
  else runOps K call ops ops S

/-- the first operations of a region, in whatever order -/
def runPre (K : Cfg) (call : CallF) (ops pre : List Oper) (S : St) : Option St :=
  match runOps K call ops pre S with
  | some (.norm, S1) => if memOK ops (logOps K call ops 0 pre S) then some S1 else none
  | _ => none

def topAt (sl : Nat → AV) (l : List Nat) : Nat → AV := fun t => if l.contains t then .c .top else sl t

/-- the header that is appended to: a slice that its slot owns, or none -/
def pushHead : AV → Option (List (List PV))
  | .c (.own _ c) => some c
  | .c .nils => some []
  | _ => none

def pushEnd (K : Cfg) (x : Push) (S : St) : Option St :=
  match K.P.underlying x.t, absAppend K.P [x.t, x.t] (S.sl x.s) (S.sl x.l), pushHead (S.sl x.s), content (S.sl x.l), S.sl x.n, S.sl x.p with
  | some (.slice e), some _, some ca, some [_], .c (.pv (.int _ k)), .c (.loc bs off0) =>
    (match cellsOfAV (S.sl x.v), S.bx bs, absFieldAddr K.P x.st (.c (.loc bs off0)) x.fld with
     | some vs, some cells, some (.c (.loc bs1 off)) =>
       (match pvs vs with
        | some ps =>
          if e = x.e ∧ bs1 = bs ∧ k = (ca.length : Int) ∧ isOwn (S.sl x.v) = false ∧ szOf K.P x.e = some ps.length ∧ szOf K.P x.t = some 1 ∧ off < cells.length ∧ x.d < S.nt ∧ x.i < S.nt ∧ x.q < S.nt ∧ x.r < S.nt then
            some { S with sl := topAt S.sl [x.s, x.d, x.i, x.q, x.r], bx := upd S.bx bs (some (setAt cells off [.own x.e (ca ++ [ps])])) }
          else none
        | none => none)
     | _, _, _ => none)
  | _, _, _, _, _, _ => none

def runPush (K : Cfg) (call : CallF) (ops : List Oper) (S : St) : Option (Out × St) :=
  match runPre K call ops (ops.take (ops.length - 6)) S, pushOf (ops.drop (ops.length - 6)) with
  | some S1, some x => (pushEnd K x S1).map (Out.norm, ·)
  | _, _ => none

/-! ### Code -/

def firstReg : Code → Option Nat
  | .region id _ _ => some id
  | .seq a b => (firstReg a).orElse fun _ => firstReg b
  | .cond _ a b => (firstReg a).orElse fun _ => firstReg b
  | .block _ c => firstReg c
  | .loop c => firstReg c
  | .scope c => firstReg c
  | _ => none

def CV.live (bs : List Nat) : CV → CV
  | .nils => .own 0 []
  | .loc s o => if bs.contains s then .loc s o else .top
  | .fn f caps => if caps.all (fun x => bs.contains x.1) then .fn f caps else .top
  | v => v
def CV.liveIn (bs : List Nat) : CV → CV
  | .loc s o => if bs.contains s then .loc s o else .top
  | .fn f caps => if caps.all (fun x => bs.contains x.1) then .fn f caps else .top
  | v => v
def AV.live (bs : List Nat) : AV → AV
  | .c v => .c (v.live bs)
  | .agg l => .agg (l.map (CV.liveIn bs))
  | .tup _ => .c .top

def keepSlots (bs : List Nat) (sl : Nat → AV) : List Nat → (Nat → AV)
  | [] => bot
  | k :: l => upd (keepSlots bs sl l) k ((sl k).live bs)
def keepBoxes (all : List Nat) (bx : Nat → Option (List CV)) : List Nat → (Nat → Option (List CV))
  | [] => nobox
  | s :: l => upd (keepBoxes all bx l) s ((bx s).map (List.map (CV.live all)))

def head (kp : List Nat × List Nat) (S : St) : St :=
  { sl := keepSlots kp.2 S.sl kp.1, bx := keepBoxes kp.2 S.bx kp.2, nt := S.nt }

def iter (body : St → Option (Out × St)) (kp : List Nat × List Nat) : Nat → St → Option (Out × St)
  | 0, _ => none
  | n + 1, S =>
    match body (head kp S) with
    | some (.norm, S1) => iter body kp n S1
    | r => r

def execN (K : Cfg) (call : CallF) (n : Nat) (f : FuncId) : Code → St → Option (Out × St)
  | .skip, S => some (.norm, S)
  | .region id ops draw, S => if K.hook f id then runPush K call ops.toList S else runRegion K call ops.toList draw S
  | .seq a b, S =>
    match execN K call n f a S with
    | some (.norm, S1) => execN K call n f b S1
    | r => r
  | .cond c x y, S =>
    match opd S.sl c with
    | .c (.pv (.bool t)) => if t then execN K call n f x S else execN K call n f y S
    | _ => none
  | .block id c, S =>
    match execN K call n f c S with
    | some (.exit i, S1) => if i = id then some (.norm, S1) else some (.exit i, S1)
    | r => r
  | .scope c, S => execN K call n f c S
  | .loop c, S => iter (execN K call n f c) (K.keep f ((firstReg c).getD 0)) n S
  | .exit id, S => some (.exit id, S)
  | .ret, S => some (.ret, S)
  | _, _ => none

def enterSt (nt : Nat) (args : List AV) (bxs : List (List CV)) : St :=
  { sl := fun t => (args[t]?).getD (.c .top), bx := fun k => if LK ≤ k then bxs[k - LK]? else none, nt }

/-- one result variable -/
def resVar (P : Program) (S : St) : ResultVar → Option TV
  | .tmp t => match S.sl t with
    | .c .top => none
    | .c v => some (.c v)
    | .agg l => some (.agg l)
    | .tup _ => none
  | .cell a t =>
    match absLoad P [] S.bx (some 0) t (S.sl a) with
    | some (.val (.c .top) _ _) => none
    | some (.val (.c v) _ _) => some (.c v)
    | some (.val (.agg l) _ _) => some (.agg l)
    | _ => none

def resVars (P : Program) (S : St) : List ResultVar → Option (List TV)
  | [] => some []
  | r :: l =>
    match resVar P S r, resVars P S l with
    | some v, some m => some (v :: m)
    | _, _ => none

def TV.deg : TV → TV
  | .c v => .c v.deg
  | .agg l => .agg l

def TV.keepOwn : TV → TV
  | .c (.own e l) => .c (.own e l)
  | v => v.deg

/-- what a frame hands back: pointers to its own boxes are lost -/
def resOf (P : Program) (own : Bool) (S : St) (fn : Func) : Option AV :=
  match resVars P S fn.results.toList with
  | some [v] => some ((if own then v.keepOwn else v.deg).av)
  | some l => some (.tup (l.map TV.deg))
  | none => none

def lentOnly (k : Nat) : Option Nat := if LK ≤ k then some k else none

def outBoxes (bx : Nat → Option (List CV)) : Nat → Option (List (List CV))
  | 0 => some []
  | n + 1 =>
    match outBoxes bx n, bx (LK + n) with
    | some l, some c => some (l ++ [c.map (CV.ren lentOnly)])
    | _, _ => none

def leave (K : Cfg) (f : FuncId) (fn : Func) (n : Nat) : Option (Out × St) → Option Res
  | some (.norm, S) | some (.ret, S) =>
    match resOf K.P (K.ownRet f) S fn, outBoxes S.bx n with
    | some v, some cs => some (.ret (v.ren lentOnly) cs)
    | _, _ => none
  | some (.pan v, S) =>
    match outBoxes S.bx n with
    | some cs => some (.pan (v.ren lentOnly) cs)
    | none => none
  | _ => none

def enter (K : Cfg) (ex : Code → St → Option (Out × St)) (f : FuncId) (args : List AV) (bxs : List (List CV)) : Option Res :=
  match K.P.funcs[f]? with
  | none => none
  | some fn =>
    match fn.body with
    | none => none
    | some c =>
      if args.length ≤ fn.ntmps ∧ fn.ntmps < LK then leave K f fn bxs.length (ex c (enterSt fn.ntmps args bxs)) else none

def callN (K : Cfg) : Nat → CallF
  | 0 => fun _ _ _ => none
  | n + 1 => fun f args bxs =>
    match K.pr f with
    | some F => (F args bxs).map fun x => .ret x.1 x.2
    | none => enter K (execN K (callN K n) n f) f args bxs

end Go.Abs
