/-
  THE ABSTRACT INTERPRETER: definitions. Heap-free values, a frame of slots and named boxes; slices by their content; a call copies the boxes in and out. No statement stands here.
  (And 11 texts more.)
-/
import Derived.Tactics
import Derived.Orders
import Derived.WalkKit
import Derived.Laws.Runes
import Derived.Laws.RangeString
import Derived.Lib.ItoaLen
import Derived.Lib.IndexAny
set_option linter.unusedSimpArgs false
set_option linter.unusedVariables false
namespace Go.Abs
open Go
def tabs:List (Nat×List Value):=[(1,(List.range 20).map fun i=>.int .u64 ((10 ^ i:Nat):Int))]
def ints:List Nat:=[0]
def bD:List TypeId:=[168
 ,216
 ]
inductive PV where
 | bool (b:Bool)
 | int (k:IntKind) (n:Int)
 | str (s:List UInt8)
 | sl (c:List (List PV))
 | ifc (t:TypeId) (p:PV)
 | ifa (t:TypeId) (l:List PV)
 | nilifc
 deriving Inhabited
inductive CV where
 | top
 | pv (p:PV)
 | own (e:TypeId) (c:List (List PV))
 | nils
 | loc (s off:Nat)
 | nilp
 | cptr (l:List PV)
 | fn (f:FuncId) (caps:List (Nat×Nat))
 | bld
 | full (c:List (List PV))
 | iter (s:List UInt8) (pos:Nat)
 | cmap (es:List MapEntry)
 deriving Inhabited
inductive TV where
 | c (v:CV)
 | agg (l:List CV)
 deriving Inhabited
inductive AV where
 | c (v:CV)
 | agg (l:List CV)
 | tup (l:List TV)
 deriving Inhabited
def TV.av:TV→AV
 | .c v=>.c v
 | .agg l=>.agg l
structure St where
 sl:Nat→AV
 bx:Nat→Option (List CV)
 nt:Nat
def upd {α:Type} (f:Nat→α) (k:Nat) (v:α):Nat→α:=fun t=>if t=k then v else f t
def bot:Nat→AV:=fun _=>.c .top
def nobox:Nat→Option (List CV):=fun _=>none
def LK:Nat:=100000
def CV.deg:CV→CV
 | .own _ c=>.pv (.sl c)
 | .bld=>.nilp
 | .iter _ _=>.top
 | .cmap _=>.top
 | v=>v
def AV.deg:AV→AV
 | .c v=>.c v.deg
 | v=>v
def fM (s:List UInt8) (pos:Nat):Nat:=pos+(Utf8.decode (ByteArray.mk s.toArray) pos).2
def AV.isIter:AV→Bool
 | .c (.iter _ _)=>true
 | .c (.cmap _)=>true
 | _=>false
def AV.gv:AV→AV
 | .c (.iter s pos)=>.c (.iter s (fM s pos))
 | v=>v.deg
def CV.plain:CV→Bool
 | .own _ _=>false
 | .iter _ _=>false
 | .cmap _=>false
 | _=>true
def CV.flat:CV→Bool
 | .loc _ _=>false
 | .fn _ caps=>caps.isEmpty
 | .iter _ _=>false
 | _=>true
def TV.flat:TV→Bool
 | .c v=>v.flat
 | .agg l=>l.all CV.flat
def AV.flat:AV→Bool
 | .c v=>v.flat
 | .agg l=>l.all CV.flat
 | .tup l=>l.all TV.flat
def CV.pv? : CV→Option PV
 | .pv p=>some p
 | .nils=>some (.sl [])
 | .own _ c=>some (.sl c)
 | .full c=>some (.sl c)
 | _=>none
def cvOf:Value→CV
 | .bool b=>.pv (.bool b)
 | .int k n=>.pv (.int k n)
 | .string s=>.pv (.str s.data.toList)
 | .slice none 0 0=>.nils
 | .pointer none=>.nilp
 | .nilIface=>.pv .nilifc
 | _=>.top
def avOf:Value→AV
 | .agg cs=>if cs.toList.all Value.oneCell' then .agg (cs.toList.map cvOf) else .c .top
 | .tuple cs=>if cs.isEmpty then .tup [] else .c .top
 | v=>.c (cvOf v)
def opd (sl:Nat→AV):Operand→AV
 | .tmp t=>sl t
 | .const v=>avOf v
 | .func f=>.c (.fn f [])
 | .global _=>.c .top
inductive Res where
 | ret (v:AV) (bx:List (List CV))
 | pan (v:CV) (bx:List (List CV))
inductive Plan where
 | fail
 | done (r:Res)
 | call (g:FuncId) (a:List AV) (b:List (List CV)) (k:Res→Plan)
def Plan.run (c:FuncId→List AV→List (List CV)→Option Res):Plan→Option Res
 | .fail=>none
 | .done r=>some r
 | .call g a b k=>match c g a b with
  | some r=>(k r).run c
  | none=>none
structure Cfg where
 P:Program
 pr:FuncId→Option (List AV→List (List CV)→Option (AV×List (List CV)))
 keep:FuncId→Nat→List Nat×List Nat
 ownRet:FuncId→Bool
 good:FuncId→Bool
 hook:FuncId→Nat→Bool
 hp:FuncId→Option (List AV→List (List CV)→Plan):=fun _=>none
inductive Delta where
 | val (v:AV) (deg:Option Nat) (bx:List (Nat×List CV))
 | pan (v:CV) (bx:List (Nat×List CV))
abbrev CallF:=FuncId→List AV→List (List CV)→Option Res
def bC:AV→Bool
 | .c (.own _ _)=>true
 | .c (.iter _ _)=>true
 | .c (.cmap _)=>true
 | _=>false
def mvB (t:Nat) (d:Option Nat):Bool:=t==18&&d==some 2
def aH (ops:List Oper):List Nat:=ops.filterMap fun o =>
 match o.op with
 | .call c=>(match c.callee,c.args.toList with
  | .builtin .append,(.tmp t)::_=>some t
  | _,_=>none)
 | .assign (.tmp t)=>if mvB t o.dst then some t else none
 | _=>none
def pvs:List CV→Option (List PV)
 | []=>some []
 | v::l =>
  match v.pv?,pvs l with
  | some p,some m=>some (p::m)
  | _,_=>none
def eM (P:Program):List Field→Nat→List PV→List PV→Option Bool
 | [],_,[],[]=>some true
 | f::fs,k,a::l,b::m =>
  if f.offset == k && f.name != "_" then
   match P.underlying f.type,a,b with
   | some .bool,.bool x,.bool y=>(eM P fs (k+1) l m).map fun r=>(x==y)&&r
   | some (.int _),.int i x,.int j y=>if i=j then(eM P fs (k+1) l m).map fun r=>(x==y)&&r else none
   | some .string,.str x,.str y=>(eM P fs (k+1) l m).map fun r=>(x==y)&&r
   | _,_,_=>none
  else none
 | _,_,_,_=>none
def ir (P:Program) (t:TypeId) (l m:List PV):Option Bool :=
 match P.underlying t with
 | some (.struct fs)=>if P.eqGuardType P.depth t||P.stoodInHeld t then none else eM P fs.toList 0 l m
 | _=>none
def cR (op:BinOp) (k:IntKind) (a b:Int):Option PV :=
 match op with
 | .add=>some (.int k (k.wrap (a+b)))
 | .sub=>some (.int k (k.wrap (a - b)))
 | .mul=>some (.int k (k.wrap (a*b)))
 | .quo=>if b=0 then none else some (.int k (k.wrap (a.tdiv b)))
 | .rem=>if b=0 then none else some (.int k (a.tmod b))
 | .eql=>some (.bool (a==b))
 | .neq=>some (.bool (a != b))
 | .lss=>some (.bool (decide (a<b)))
 | .leq=>some (.bool (decide (a≤b)))
 | .gtr=>some (.bool (decide (b<a)))
 | .geq=>some (.bool (decide (b≤a)))
 | _=>none
def bz:Nat:=4611686018427387904
def cP (op:BinOp) (a b:List UInt8):Option PV :=
 match op with
 | .add=>if a.length+b.length<bz then some (.str (a++b)) else none
 | .eql=>some (.bool (a==b))
 | .neq=>some (.bool (a != b))
 | .lss=>some (.bool (Op.bytesLess a b))
 | .leq=>some (.bool (Op.bytesLess a b||a==b))
 | .gtr=>some (.bool (!(Op.bytesLess a b||a==b)))
 | .geq=>some (.bool (!Op.bytesLess a b))
 | _=>none
def qQ (P:Program) (t:TypeId):Bool:=match P.underlying t with|some .bool=>true|_=>false
def mr (P:Program) (t:TypeId):Bool:=match P.underlying t with|some (.pointer _)=>true|_=>false
def cv (op:BinOp) (a b:Bool):Option PV :=
 match op with
 | .eql=>some (.bool (a==b))
 | .neq=>some (.bool (!(a==b)))
 | _=>none
def cq (op:BinOp) (same:Bool):Option PV :=
 match op with
 | .eql=>some (.bool same)
 | .neq=>some (.bool (!same))
 | _=>none
def cQ (P:Program) (op:BinOp) (t:TypeId):AV→AV→Option PV
  | .c (.pv (.int k a)),.c (.pv (.int k' b))=>if k=k' then cR op k a b else none
  | .c (.pv (.str a)),.c (.pv (.str b))=>cP op a b
  | .c (.pv (.bool a)),.c (.pv (.bool b))=>if qQ P t then cv op a b else none
  | .c .nilp,.c .nilp=>if mr P t then cq op true else none
  | .c (.loc _ _),.c .nilp=>if mr P t then cq op false else none
  | .c .nilp,.c (.loc _ _)=>if mr P t then cq op false else none
  | .agg l,.agg m =>
    match op with
    | .eql|.neq =>
      (match pvs l,pvs m with
       | some a,some b=>(match ir P t a b with|some r=>cq op r|none=>none)
       | _,_=>none)
    | _=>none
  | _,_=>none
def dS (op:UnOp):AV→Option PV
 | .c (.pv (.bool b))=>match op with|.not=>some (.bool (!b))|_=>none
 | .c (.pv (.int k n))=>match op with|.neg=>some (.int k (k.wrap (0 - n)))|_=>none
 | _=>none
def content:AV→Option (List (List PV))
 | .c (.pv (.sl c))=>some c
 | .c (.own _ c)=>some c
 | .c (.full c)=>some c
 | .c .nils=>some []
 | _=>none
def isU8 (P:Program) (t:TypeId):Bool:=match P.underlying t with|some (.int .u8)=>true|_=>false
def bytesOf:List (List PV)→Option (List UInt8)
 | []=>some []
 | [.int .u8 n]::l=>(bytesOf l).map (UInt8.ofNat n.toNat :: ·)
 | _=>none
def fX (P:Program) (src dst:TypeId) (x:AV):Option AV :=
  match P.underlying src,P.underlying dst with
  | some (.int _),some (.int k)=>(match x with|.c (.pv (.int _ n))=>some (.c (.pv (.int k (k.wrap n))))|_=>none)
  | some (.int _),some .string=>(match x with|.c (.pv (.int _ n))=>some (.c (.pv (.str (Utf8.encode n).data.toList)))|_=>none)
  | some .string,some .string=>(match x with|.c (.pv (.str s))=>some (.c (.pv (.str s)))|_=>none)
  | some .string,some (.slice e) =>
    (match x with
     | .c (.pv (.str s))=>if isU8 P e&&decide (s.length<bz) then some (.c (.pv (.sl (s.map fun b=>[.int .u8 b.toNat])))) else none
     | _=>none)
  | some (.slice e),some .string =>
    if isU8 P e then
      (match content x with
       | some c=>(match bytesOf c with|some s=>some (.c (.pv (.str s)))|none=>none)
       | none=>none)
    else none
  | _,_=>none
def jA (P:Program) (t:TypeId):AV→AV→Option AV
 | .c (.pv (.str s)),.c (.pv (.int _ i)) =>
  match P.underlying t with
  | some .string=>if 0≤i then(match s[i.toNat]? with|some b=>some (.c (.pv (.int .u8 b.toNat)))|none=>none) else none
  | _=>none
 | _,_=>none
def szOf (P:Program) (t:TypeId):Option Nat:=(P.info? t).map (·.size)
def bound (y:Nat):Option AV→Nat→Option Nat
 | none,d=>some d
 | some (.c (.pv (.int _ i))),_=>if 0≤i∧i≤y then some i.toNat else none
 | _,_=>none
def dW (P:Program) (t:TypeId) (x:AV) (lo hi mx:Option AV):Option AV :=
  match mx,P.underlying t with
  | none,some .string =>
    (match x with
     | .c (.pv (.str s)) =>
       (match bound s.length hi s.length with
        | some h=>(match bound h lo 0 with|some l=>some (.c (.pv (.str ((s.take h).drop l))))|none=>none)
        | none=>none)
     | _=>none)
  | none,some (.slice e) =>
    (match content x with
     | some c =>
       (match bound c.length hi c.length with
        | some h=>(match bound h lo 0 with
          | some l=>if (szOf P e).any (fun n=>c.all (fun el=>el.length==n)) then some (.c (.pv (.sl ((c.take h).drop l)))) else none
          | none=>none)
        | none=>none)
     | none=>none)
  | _,_=>none
def eI (P:Program) (t:TypeId) (x i:AV):Option AV :=
 match P.underlying t,content x,i with
 | some (.slice e),some c,.c (.pv (.int _ n)) =>
  if 0≤n then
   match c[n.toNat]? with
   | some el=>if szOf P e=some el.length then some (.c (.cptr el)) else none
   | none=>none
  else none
 | _,_,_=>none
def ey (P:Program) (t:TypeId) (x i:AV):Option AV :=
 match P.underlying t,x,i with
 | some (.array n e),.c (.loc s off),.c (.pv (.int _ k)) =>
  if 0≤k∧k<(n:Int) then(match szOf P e with|some z=>some (.c (.loc s (off+k.toNat*z)))|none=>none) else none
 | some (.array _ _),_,_=>none
 | _,_,_=>eI P t x i
def bl (P:Program) (t:TypeId) (f:Nat):Option (Nat×TypeId) :=
 match P.underlying t with
 | some (.struct fs)=>(fs[f]?).map fun x=>(x.offset,x.type)
 | _=>none
def ar (P:Program) (t:TypeId) (x:AV) (f:Nat):Option AV :=
 match bl P t f with
 | some (o,ft) =>
  match szOf P ft with
  | some (_+1)=>(match x with
   | .c (.loc s off)=>some (.c (.loc s (off+o)))
   | .c (.cptr l)=>some (.c (.cptr (l.drop o)))
   | _=>none)
  | _=>none
 | none=>none
def cA (P:Program) (t:TypeId):Option (Option Nat) :=
 match P.underlying t,szOf P t with
 | some (.struct _),some n|some (.array _ _),some n=>some (some n)
 | some _,some _=>some none
 | _,_=>none
def bK (P:Program) (t:TypeId) (x:AV) (f:Nat):Option AV :=
 match bl P t f,x with
 | some (o,ft),.agg l =>
  match cA P ft with
  | some (some n)=>if o+n≤l.length then some (.agg ((l.drop o).take n)) else none
  | some none=>(match l[o]? with|some v=>if v.plain then some (.c v) else none|none=>none)
  | none=>none
 | _,_=>none
def aQ:AV→Nat→Option AV
 | .tup l,i=>(l[i]?).map TV.av
 | _,_=>none
def zeroCells (P:Program) (t:TypeId):Option (List CV) :=
 match P.info? t with
 | some i=>match i.zero with
  | some z=>if z.cells.toList.all Value.oneCell' then some (z.cells.toList.map cvOf) else none
  | none=>none
 | none=>none
def vh (P:Program) (t:TypeId):Option AV :=
 match P.info? t with
 | some i=>match i.zero with
  | some z=>some (avOf z)
  | none=>none
 | none=>none
def CV.noBld:CV→Bool
 | .bld=>false
 | _=>true
def dK (t:TypeId) (l:List CV):List CV :=
 if bD.contains t then(match l with|.nilp::r=>.bld::r|l=>l) else l
def az:AV→Option (List CV)
 | .c .top=>none
 | .c .bld=>none
 | .c (.iter _ _)=>none
 | .c (.cmap _)=>none
 | .c v=>some [v]
 | .agg l=>if l.all CV.plain&&l.all CV.noBld then some l else none
 | .tup _=>none
def bV (l:List CV) (off:Nat) (vs:List CV):List CV:=l.take off++vs++l.drop (off+vs.length)
def aD (place:Nat→Option (Nat×Nat)):List CV→List (Nat×AV)→Option (List CV)
 | cells,[]=>some cells
 | cells,(i,x)::rest =>
  match place i,az x.deg with
  | some (off,size),some vs =>
   if vs.length=size∧off+vs.length≤cells.length then aD place (bV cells off vs) rest else none
  | _,_=>none
def jF (P:Program) (t:TypeId) (parts:List (Nat×AV)):Option AV :=
  match zeroCells P t,P.underlying t with
  | some z,some (.struct fs) =>
    (match fs.toList.mapM (fun f=>(P.info? f.type).map fun i=>(f.offset,i.size)) with
     | some places=>(match aD (fun i=>places[i]?) z parts with
       | some l=>some (.agg l)
       | none=>none)
     | none=>none)
  | some z,some (.array _ e) =>
    (match szOf P e with
     | some k=>(match aD (fun i=>some (i*k,k)) z parts with
       | some l=>some (.agg l)
       | none=>none)
     | none=>none)
  | _,_=>none
def chunks (n:Nat) (l:List PV):Nat→List (List PV)
 | 0=>[]
 | k+1=>l.take n::chunks n (l.drop n) k
def reps (z:List CV):Nat→List CV
 | 0=>[]
 | n+1=>z++reps z n
def dl (P:Program) (t:TypeId) (len:Nat) (parts:List (Nat×AV)):Option AV :=
 match P.underlying t with
 | some (.slice e) =>
  match szOf P e,zeroCells P e with
  | some n,some z =>
   if z.length=n∧0<n∧len*n≤1048576 then
    match aD (fun i=>some (i*n,n)) (reps z len) parts with
    | some l=>(match pvs l with|some ps=>some (.c (.own e (chunks n ps len)))|none=>none)
    | none=>none
   else none
  | _,_=>none
 | _=>none
def cX (_:Nat) (_:Option Nat):Bool:=false
def cw (b:Bool) (v:Option AV):Option AV :=
 match b,v with
 | false,v=>v
 | true,some (.c (.own _ (x::l)))=>some (.c (.full (x::l)))
 | true,_=>none
def fW (k:IntKind):List AV→Option (List Int)
 | []=>some []
 | .c (.pv (.int k' n))::l=>if k=k' then(fW k l).map (n :: ·) else none
 | _=>none
def od:List AV→Option PV
 | .c (.pv (.int k n))::l=>match fW k l with|some m=>some (.int k (m.foldl (fun x y=>if y>x then y else x) n))|none=>none
 | _=>none
def lP:List AV→Option PV
 | .c (.pv (.int k n))::l=>match fW k l with|some m=>some (.int k (m.foldl (fun x y=>if y<x then y else x) n))|none=>none
 | _=>none
def kA (P:Program) (t:TypeId) (x:AV):Option PV :=
 match P.underlying t with
 | some .string=>(match x with|.c (.pv (.str s))=>some (.int .i64 s.length)|_=>none)
 | some (.slice _)=>(match content x with|some c=>some (.int .i64 c.length)|none=>none)
 | _=>none
def fg:Nat:=4294967296
def ownT:AV→Option TypeId
 | .c (.own e _)=>some e
 | _=>none
def fy (P:Program) (e:TypeId) (t:TypeId) (x:AV):Option (List (List PV)) :=
 match P.underlying t with
 | some (.slice _)=>content x
 | some .string=>(match x with|.c (.pv (.str s))=>if isU8 P e then some (s.map fun b=>[.int .u8 b.toNat]) else none|_=>none)
 | _=>none
def eW (P:Program) (ts:List TypeId) (s x:AV):Option AV :=
  match ts with
  | [t,u] =>
    match P.underlying t with
    | some (.slice e) =>
      (match s,content s,fy P e u x,P.info? e with
       | .c (.pv _),_,_,_=>none
       | .c (.full _),_,some [],_=>none
       | _,some a,some b,some i =>
         if a.length + b.length < fg ∧ i.bytes ≤ 4096 ∧ 0 < i.size ∧ i.zero.any (fun z => z.cells.size == i.size)
            ∧ a.all (fun el=>el.length==i.size)∧b.all (fun el=>el.length==i.size)
            ∧ (ownT s=none∨ownT s=some e∨a.isEmpty=true)
         then some (.c (.own e (a++b))) else none
       | _,_,_,_=>none)
    | _=>none
  | _=>none
def io (P:Program) (t:TypeId):Bool :=
 match P.underlying t with
 | none|some (.interface _)=>false
 | _=>true
def dV (t:TypeId):AV→Option AV
 | .c v=>match v.pv? with|some p=>some (.c (.pv (.ifc t p)))|none=>none
 | .agg l=>match pvs l with|some ps=>some (.c (.pv (.ifa t ps)))|none=>none
 | .tup _=>none
def aP (P:Program) (t:TypeId) (x:AV):Option AV:=if io P t then dV t x else none
def oE (P:Program) (t:TypeId):Option TV :=
 match vh P t with
 | some (.c .top)=>none
 | some (.c v)=>some (.c v)
 | some (.agg l)=>some (.agg l)
 | _=>none
def uZ (P:Program) (t:TypeId) (k:IntKind):Bool:=match P.underlying t with|some (.int k')=>k'==k|_=>false
def kU (k:IntKind) (n:Int) (e:MapEntry):Bool:=match e.key with|.int k' m=>k'==k&&n==m|_=>false
def tvOf (v:Value):Option TV :=
 match avOf v with
 | .c .top=>none
 | .c v=>some (.c v)
 | .agg l=>some (.agg l)
 | _=>none
def dB (P:Program) (t:TypeId) (x i:AV) (comma:Bool):Option AV :=
 match P.underlying t,x,i with
 | some (.map key elem),.c (.cmap es),.c (.pv (.int k n)) =>
  if uZ P key k&&comma&&es.all (fun e=>match e.key with|.int k' _=>k'==k|_=>false) then
   match es.find? (kU k n) with
   | some e=>(match tvOf e.val with|some z=>some (.tup [z,.c (.pv (.bool true))])|none=>none)
   | none=>(match oE P elem with|some z=>some (.tup [z,.c (.pv (.bool false))])|none=>none)
  else none
 | _,_,_=>none
def bt (P:Program) (asserted:TypeId) (ok:Bool):Option AV :=
 if ok then(match oE P asserted with|some z=>some (.tup [z,.c (.pv (.bool false))])|none=>none) else none
def bd (P:Program) (asserted:TypeId) (ok:Bool) (x:AV):Option AV :=
 if io P asserted then
  match x with
  | .c (.pv (.ifc t p)) =>
   if t=asserted then(if ok then some (.tup [.c (.pv p),.c (.pv (.bool true))]) else some (.c (.pv p)))
   else bt P asserted ok
  | .c (.pv (.ifa t l)) =>
   if t=asserted then(if ok then some (.tup [.agg (l.map CV.pv),.c (.pv (.bool true))]) else some (.agg (l.map CV.pv)))
   else bt P asserted ok
  | .c (.pv .nilifc)=>bt P asserted ok
  | _=>none
 else none
def CV.ptrs:CV→List Nat
 | .loc s _=>[s]
 | .fn _ caps=>caps.map (·.1)
 | _=>[]
def AV.ptrs:AV→List Nat
 | .c v=>v.ptrs
 | .agg l=>l.flatMap CV.ptrs
 | .tup _=>[]
def pf (g:Nat→Option Nat):List (Nat×Nat)→Option (List (Nat×Nat))
 | []=>some []
 | (s,o)::l =>
  match g s,pf g l with
  | some k,some m=>some ((k,o)::m)
  | _,_=>none
def CV.ren (g:Nat→Option Nat):CV→CV
 | .loc s off=>match g s with|some k=>.loc k off|none=>.top
 | .fn f caps=>match pf g caps with|some m=>.fn f m|none=>.top
 | .iter _ _=>.top
 | v=>v
def TV.ren (g:Nat→Option Nat):TV→TV
 | .c v=>.c (v.ren g)
 | .agg l=>.agg (l.map (CV.ren g))
def AV.ren (g:Nat→Option Nat):AV→AV
 | .c v=>.c (v.ren g)
 | .agg l=>.agg (l.map (CV.ren g))
 | .tup l=>.tup (l.map (TV.ren g))
def idx (s:Nat):List Nat→Option Nat
 | []=>none
 | a::l=>if a=s then some 0 else(idx s l).map (· + 1)
def lend (L:List Nat) (s:Nat):Option Nat:=(idx s L).map (LK + ·)
def back (L:List Nat) (k:Nat):Option Nat:=if LK≤k then L[k - LK]? else none
def aJ (bx:Nat→Option (List CV)):List Nat→Option (List (List CV))
 | []=>some []
 | s::l =>
  match bx s,aJ bx l with
  | some c,some m=>some (c::m)
  | _,_=>none
def dedup:List Nat→List Nat
 | []=>[]
 | a::l=>if (dedup l).contains a then dedup l else a::dedup l
def ck (L:List Nat) (cs:List (List CV)):List (Nat×List CV):=L.zip (cs.map fun c=>c.map (CV.ren (back L)))
def bO (call:CallF) (own:Bool) (bx:Nat→Option (List CV)) (g:FuncId) (args:List AV):Option Delta :=
 if args.all AV.flat then
  match call g (args.map AV.deg) [] with
  | some (.ret v [])=>if v.flat then some (.val (if own then v else v.deg) none []) else none
  | some (.pan v [])=>if v.flat then some (.pan v []) else none
  | _=>none
 else
  let L:=dedup (args.flatMap AV.ptrs)
  match aJ bx L with
  | none=>none
  | some cs =>
   match call g (args.map fun a=>(a.deg).ren (lend L)) (cs.map fun c=>c.map (CV.ren (lend L))) with
   | some (.ret v cs') =>
    if cs'.length=L.length then some (.val ((if own then v else v.deg).ren (back L)) none (ck L cs')) else none
   | some (.pan v cs')=>if cs'.length=L.length then some (.pan (v.ren (back L)) (ck L cs')) else none
   | none=>none
def bR (apps:List Nat):Option Nat→Bool
 | some d=>apps.contains d
 | none=>false
def steal (apps:List Nat) (always:Bool) (dst:Option Nat):Operand→Option Nat
 | .tmp u=>if always||bR apps dst then some u else none
 | _=>none
def dr (v:AV):Option Delta:=some (.val v none [])
def okPV (r:Option PV):Option Delta:=match r with|some p=>some (.val (.c (.pv p)) none [])|none=>none
def okAV (r:Option AV):Option Delta:=match r with|some v=>some (.val v none [])|none=>none
def bg (apps:List Nat) (always:Bool) (dst:Option Nat) (x:Operand) (v:AV):Option Delta :=
 if v.isIter then none else
 if bC v then
  match steal apps always dst x with
  | some u=>if dst=some u then none else some (.val v (some u) [])
  | none=>some (.val v.deg none [])
 else some (.val v none [])
def bL (P:Program) (apps:List Nat) (bx:Nat→Option (List CV)) (dst:Option Nat) (t:TypeId) (a:AV):Option Delta :=
  match cA P t,a with
  | some (some n),.c (.loc s off) =>
    (match bx s with
     | some cells=>if off+n≤cells.length then some (.val (.agg (((cells.drop off).take n).map CV.deg)) none []) else none
     | none=>none)
  | some none,.c (.loc s off) =>
    (match bx s with
     | some cells =>
       (match cells[off]? with
        | none=>none
        | some v =>
          if (!v.plain)&&(!(AV.c v).isIter)&&bR apps dst then
            some (.val (.c v) none [(s,bV cells off [v.deg])])
          else some (.val (.c v.deg) none []))
     | none=>none)
  | some (some n),.c (.cptr l)=>if n≤l.length then some (.val (.agg ((l.take n).map CV.pv)) none []) else none
  | some none,.c (.cptr l)=>(match l[0]? with|some p=>some (.val (.c (.pv p)) none [])|none=>none)
  | _,_=>none
def bu (P:Program) (bx:Nat→Option (List CV)) (t:TypeId) (a:AV) (x:Operand) (v:AV):Option Delta :=
 match a with
 | .c (.loc s off) =>
  match bx s,az v with
  | some cells,some vs =>
   if szOf P t=some vs.length∧off+vs.length≤cells.length then
    (if bC v then
     match x with
     | .tmp u=>some (.val (.tup []) (some u) [(s,bV cells off vs)])
     | _=>none
    else some (.val (.tup []) none [(s,bV cells off vs)]))
   else none
  | _,_=>none
 | _=>none
def cz (bx:Nat→Option (List CV)) (dst:Option Nat) (cells:List CV):Option Delta :=
 match dst with
 | some d=>if d<LK∧(bx d).isNone then some (.val (.c (.loc d 0)) none [(d,cells)]) else none
 | none=>none
def jv (P:Program) (t:TypeId):AV→Option AV
 | .c (.pv (.str s))=>(match P.underlying t with|some .string=>some (.c (.iter s 0))|_=>none)
 | _=>none
def co (dst:Option Nat) (str:Bool) (x:Operand) (v:AV):Option Delta :=
 match x,v with
 | .tmp u,.c (.iter s pos) =>
  if str&&dst != some u then
   if pos<s.length then some (.val (.tup [.c (.pv (.bool true)),.c (.pv (.int .i64 pos)),.c (.pv (.int .i32 (Utf8.decode (ByteArray.mk s.toArray) pos).1))]) (some u) [])
   else some (.val (.tup [.c (.pv (.bool false))]) none [])
  else none
 | _,_=>none
def locs:List AV→Option (List (Nat×Nat))
 | []=>some []
 | .c (.loc s o)::l=>(locs l).map ((s,o) :: ·)
 | _=>none
def bv (K:Cfg) (call:CallF) (bx:Nat→Option (List CV)) (ρ:Operand→AV) (c:Call):Option Delta :=
  match c.callee with
  | .builtin b =>
    match b with
    | .len=>(match c.args.toList,c.argTypes.toList with|[x],[t]=>okPV (kA K.P t (ρ x))|_,_=>none)
    | .max=>okPV (od (c.args.toList.map ρ))
    | .min=>okPV (lP (c.args.toList.map ρ))
    | .append =>
      (match c.args.toList with
       | [s,x] =>
         (match eW K.P c.argTypes.toList (ρ s) (ρ x) with
          | some v=>(match s,bC (ρ s) with
            | .tmp u,true=>some (.val v (some u) [])
            | .tmp _,false=>some (.val v none [])
            | .const _,_=>some (.val v none [])
            | _,_=>none)
          | none=>none)
       | _=>none)
    | _=>none
  | .value f =>
    match ρ f with
    | .c (.fn g caps) =>
      if K.good g then bO call (K.ownRet g) bx g (c.args.toList.map ρ++caps.map fun x=>.c (.loc x.1 x.2)) else none
    | _=>none
  | .invoke _ _=>none
def bU (K:Cfg) (call:CallF) (apps:List Nat) (bx:Nat→Option (List CV)) (ρ:Operand→AV) (o:Oper):Option Delta :=
 match o.op with
 | .move x=>bg apps false o.dst x (ρ x)
 | .assign x=>bg apps true o.dst x (ρ x)
 | .pick c a b=>(match ρ c with|.c (.pv (.bool t))=>dr (if t then(ρ a).deg else(ρ b).deg)|_=>none)
 | .alloc t=>(match zeroCells K.P t with|some l=>cz bx o.dst (dK t l)|none=>none)
 | .box t x=>(match az (ρ x).deg with|some l=>cz bx o.dst l|none=>none)
 | .build t parts=>okAV (jF K.P t (parts.toList.map fun p=>(p.1,ρ p.2)))
 | .buildSlice t len parts=>okAV (cw (cX len o.dst) (dl K.P t len (parts.toList.map fun p=>(p.1,ρ p.2))))
 | .load t a=>bL K.P apps bx o.dst t (ρ a)
 | .store t a x=>bu K.P bx t (ρ a) x (ρ x)
 | .nilCheck x=>(match ρ x with|.c (.loc s o)=>dr (.c (.loc s o))|.c (.cptr l)=>dr (.c (.cptr l))|.c (.fn f c)=>dr (.c (.fn f c))|_=>none)
 | .binOp op t x y _=>okPV (cQ K.P op t (ρ x) (ρ y))
 | .unOp op _ x=>okPV (dS op (ρ x))
 | .convert s d x=>okAV (fX K.P s d (ρ x))
 | .makeInterface t x=>okAV (aP K.P t (ρ x))
 | .makeFunc (.func f) first caps=>if first.isEmpty then(match locs (caps.toList.map ρ) with|some l=>dr (.c (.fn f l))|none=>none) else none
 | .slice t x lo hi mx=>okAV (dW K.P t (ρ x) (lo.map ρ) (hi.map ρ) (mx.map ρ))
 | .fieldAddr t x f=>okAV (ar K.P t (ρ x) f)
 | .field t x f=>okAV (bK K.P t (ρ x) f)
 | .indexAddr t x i=>okAV (ey K.P t (ρ x) (ρ i))
 | .index t x i=>okAV (jA K.P t (ρ x) (ρ i))
 | .typeAssert x _ a ok=>okAV (bd K.P a ok (ρ x))
 | .extract x i=>okAV (aQ (ρ x) i)
 | .range t x=>okAV (jv K.P t (ρ x))
 | .lookup t x i comma=>okAV (dB K.P t (ρ x) (ρ i) comma)
 | .next x str=>co o.dst str x (ρ x)
 | .call c=>bv K call bx ρ c
 | .panic x=>(match ρ x with|.c (.pv (.ifc t p))=>some (.pan (.pv (.ifc t p)) [])|.c (.pv (.ifa t l))=>some (.pan (.pv (.ifa t l)) [])|_=>none)
 | _=>none
inductive Key where
 | none
 | rd (s:Nat)
 | tk (s:Nat)
 | wr (s:Nat)
 | lend (l:List Nat)
 | all
def aY (args:List AV) (caps:List (Nat×Nat)):List Nat:=args.flatMap AV.ptrs++caps.map (·.1)
def bZ (apps:List Nat) (bx:Nat→Option (List CV)) (ρ:Operand→AV) (o:Oper):Key :=
 match o.op with
 | .load _ a=>(match ρ a with
  | .c (.loc s _)=>if bR apps o.dst then .tk s else .rd s
  | _=>.none)
 | .store _ a _=>(match ρ a with|.c (.loc s _)=>.wr s|_=>.all)
 | .alloc _|.box _ _=>(match o.dst with|some d=>.wr d|Option.none=>.all)
 | .call c=>(match c.callee with
  | .value f=>(match ρ f with
   | .c (.fn _ caps)=>if caps.isEmpty&&(c.args.toList.map ρ).all AV.flat then .none else .lend (aY (c.args.toList.map ρ) caps)
   | _=>.all)
  | _=>.none)
 | _=>.none
def aj:(Nat→Option (List CV))→List (Nat×List CV)→(Nat→Option (List CV))
 | f,[]=>f
 | f,(s,c)::l=>aj (upd f s (some c)) l
def St.degAt (S:St):Option Nat→St
 | none=>S
 | some u => { S with sl:=upd S.sl u (S.sl u).gv }
def St.put (S:St) (d:Option Nat) (v:AV):Option St :=
 match d with
 | none=>some S
 | some d=>if d<S.nt then some { S with sl:=upd S.sl d v } else none
def bw (ops:List Oper) (S:St) (o:Oper):Option Bool :=
 match o.guard with
 | none=>some true
 | some (j,want) =>
  match (ops[j]?).bind (·.dst) with
  | none=>some false
  | some d =>
   match S.sl d with
   | .c (.pv (.bool b))=>some (b==want)
   | .tup _=>some false
   | _=>none
inductive Out where
 | norm
 | exit (id:Nat)
 | ret
 | pan (v:CV)
def aR (K:Cfg) (call:CallF) (ops:List Oper) (o:Oper) (S:St):Option (Out×St) :=
 match bw ops S o with
 | none=>none
 | some false=>(S.put o.dst (.tup [])).map (Out.norm,·)
 | some true =>
  match bU K call (aH ops) S.bx (opd S.sl) o with
  | none=>none
  | some (.pan v bs)=>some (.pan v, { S with bx:=aj S.bx bs })
  | some (.val v dg bs)=>((({ S with bx:=aj S.bx bs }:St).degAt dg).put o.dst v).map (Out.norm,·)
def aV (K:Cfg) (call:CallF) (ops:List Oper):List Oper→St→Option (Out×St)
 | [],S=>some (.norm,S)
 | o::rest,S =>
  match aR K call ops o S with
  | some (.norm,S1)=>aV K call ops rest S1
  | r=>r
def br (K:Cfg) (call:CallF) (ops:List Oper):Nat→List Oper→St→List (Nat×Key)
 | _,[],_=>[]
 | i,o::rest,S =>
  let k:=match bw ops S o with
   | some true=>bZ (aH ops) S.bx (opd S.sl) o
   | _=>.none
  match aR K call ops o S with
  | some (.norm,S1)=>(match k with|.none=>br K call ops (i+1) rest S1|k=>(i,k)::br K call ops (i+1) rest S1)
  | _=>[]
def Key.sees:Key→Nat→Bool
 | .rd a,s|.tk a,s|.wr a,s=>a==s
 | .lend l,s=>l.contains s
 | _,_=>false
def Key.clash:Key→Key→Bool
 | .none,_|_,.none=>false
 | .all,_|_,.all=>true
 | .rd _,.rd _|.rd _,.tk _|.tk _,.rd _=>false
 | .lend l,k=>l.any k.sees
 | k,.lend l=>l.any k.sees
 | .rd a,k|.tk a,k|.wr a,k=>k.sees a
def Key.writes:Key→Bool
 | .none|.rd _=>false
 | _=>true
def dM (o:Oper) (i:Nat):Bool:=o.after.toList.any fun e=>Region.binds .any e&&e.on==i
def reach (ops:List Oper):Nat→Nat→Nat→Bool
 | 0,_,_=>false
 | n+1,j,i =>
  match ops[j]? with
  | none=>false
  | some o=>dM o i||o.after.toList.any fun e=>Region.binds .any e&&reach ops n e.on i
def dt (ops:List Oper) (log:List (Nat×Key)):Bool :=
 !log.any (fun x=>x.2.writes) ||
 log.all fun x=>log.all fun y => !(x.1<y.1) || !x.2.clash y.2||reach ops ops.length y.1 x.1
def fm (apps:List Nat) (o:Oper):List Nat :=
 match o.op with
 | .move (.tmp u)=>if bR apps o.dst then [u] else []
 | .assign (.tmp u)=>[u]
 | .store _ _ (.tmp u)=>[u]
 | .next (.tmp u) _=>[u]
 | .call c=>(match c.callee,c.args.toList with
  | .builtin .append,(.tmp u)::_=>[u]
  | _,_=>[])
 | _=>[]
def fI (apps:List Nat) (o:Oper):List Nat:=o.dst.toList++fm apps o
def apart2 (ops:List Oper) (apps:List Nat) (x y:Oper):Bool :=
 (fI apps x).all (fun d => !(y.looksAt ops.toArray).contains d && !(fI apps y).contains d) &&
 (fI apps y).all (fun d => !(x.looksAt ops.toArray).contains d)
def lexL (ops:List Oper) (apps:List Nat):Nat→List Oper→Bool
 | _,[]=>true
 | k,o::rest=>o.after.toList.all (fun e => !Region.binds .any e||decide (e.on<k))&&rest.all (fun oj=>dM oj k||apart2 ops apps o oj)&&lexL ops apps (k+1) rest
def ju (ops:List Oper):Bool:=ops.all fun o=>match o.op with|.store .. => o.dst.isNone|_=>true
structure Push where
 t:TypeId
 e:TypeId
 st:TypeId
 fld:Nat
 s:Nat
 l:Nat
 d:Nat
 n:Nat
 i:Nat
 v:Nat
 p:Nat
 q:Nat
 r:Nat
def wn (o:Oper):Option (Nat×Nat×Nat×TypeId) :=
  match o.op,o.dst,o.guard with
  | .call c,some d,none =>
    (match c.callee,c.args.toList,c.argTypes.toList with
     | .builtin .append,[.tmp s,.tmp l],[t,u]=>if t=u then some (s,l,d,t) else none
     | _,_,_=>none)
  | _,_,_=>none
def ixOf (o:Oper):Option (TypeId×Nat×Nat×Nat) :=
 match o.op,o.dst,o.guard with
 | .indexAddr t (.tmp x) (.tmp n),some d,none=>some (t,x,n,d)
 | _,_,_=>none
def stOf (o:Oper):Option (TypeId×Nat×Nat) :=
 match o.op,o.dst,o.guard with
 | .store t (.tmp x) (.tmp v),none,none=>some (t,x,v)
 | _,_,_=>none
def ncOf (o:Oper):Option (Nat×Nat) :=
 match o.op,o.dst,o.guard with
 | .nilCheck (.tmp x),some d,none=>some (x,d)
 | _,_,_=>none
def faOf (o:Oper):Option (TypeId×Nat×Nat×Nat) :=
 match o.op,o.dst,o.guard with
 | .fieldAddr t (.tmp x) f,some d,none=>some (t,x,f,d)
 | _,_,_=>none
def ll:List Nat→Bool
 | []=>true
 | a::l => !l.contains a&&ll l
def jr:List Oper→Option Push
 | [A,I,W,N,F,H] =>
  match wn A,ixOf I,stOf W,ncOf N,faOf F,stOf H with
  | some (s,l,d,t),some (t1,d1,n,i),some (e,i1,v),some (p,q),some (st,q1,fld,r),some (t2,r1,d2) =>
   if t1=t∧t2=t∧d1=d∧d2=d∧i1=i∧q1=q∧r1=r∧ll [d,i,q,r,n]∧ll [d,i,q,r,v]∧ll [d,i,q,r,p] then some ⟨t,e,st,fld,s,l,d,n,i,v,p,q,r⟩ else none
  | _,_,_,_,_,_=>none
 | _=>none
def fP (m:Nat) (a:Bool) (i j:Nat):Array Bool:=(List.replicate m true++[a,decide (1≤i),decide (2≤i),decide (1≤j),decide (2≤j),decide (3≤j)]).toArray
def lU (ops:List Oper) (m:Nat):Bool :=
 (ops.drop m).all (fun o=>(List.range m).all fun i=>dM o i) &&
 Region.ready .any ops.toArray (fP m false 0 0)==[m] &&
 (List.range 3).all fun i=>(List.range 4).all fun j=>Region.ready .any ops.toArray (fP m true i j)==(if i<2 then [m+1+i] else [])++(if j<3 then [m+3+j] else [])
def nC:Nat→List Oper→Bool
 | _,[]=>true
 | k,o::l=>o.after.toList.all (fun e => !Region.binds .any e||decide (e.on<k))&&nC (k+1) l
def uJ (ops:List Oper):Bool :=
 let m:=ops.length - 6
 6≤ops.length&&(jr (ops.drop m)).isSome&&nC 0 ops&&ju (ops.take m)&&lexL ops (aH ops) 0 (ops.take m)&&lU ops m
def dw (hk:Nat→Bool):Code→Bool
 | .region id ops draw=>if hk id then draw&&uJ ops.toList else ju ops.toList&&(!draw||lexL ops.toList (aH ops.toList) 0 ops.toList)
 | .seq a b=>dw hk a&&dw hk b
 | .cond _ a b=>dw hk a&&dw hk b
 | .block _ c=>dw hk c
 | .scope c=>dw hk c
 | .loop c=>dw hk c
 | _=>true
def ay (K:Cfg) (call:CallF) (ops:List Oper) (draw:Bool) (S:St):Option (Out×St) :=
 if draw then
  match aV K call ops ops S with
  | some (.norm,S1)=>if dt ops (br K call ops 0 ops S) then some (.norm,S1) else none
  | _=>none
 else aV K call ops ops S
def gQ (K:Cfg) (call:CallF) (ops pre:List Oper) (S:St):Option St :=
 match aV K call ops pre S with
 | some (.norm,S1)=>if dt ops (br K call ops 0 pre S) then some S1 else none
 | _=>none
def kZ (sl:Nat→AV) (l:List Nat):Nat→AV:=fun t=>if l.contains t then .c .top else sl t
def aN:AV→Option (List (List PV))
 | .c (.own _ c)=>some c
 | .c .nils=>some []
 | _=>none
def nA (K:Cfg) (x:Push) (S:St):Option St :=
  match K.P.underlying x.t,eW K.P [x.t,x.t] (S.sl x.s) (S.sl x.l),aN (S.sl x.s),content (S.sl x.l),S.sl x.n,S.sl x.p with
  | some (.slice e),some _,some ca,some [_],.c (.pv (.int _ k)),.c (.loc bs off0) =>
    (match az (S.sl x.v),S.bx bs,ar K.P x.st (.c (.loc bs off0)) x.fld with
     | some vs,some cells,some (.c (.loc bs1 off)) =>
       (match pvs vs with
        | some ps =>
          if e=x.e∧bs1=bs∧k=(ca.length:Int)∧bC (S.sl x.v)=false∧szOf K.P x.e=some ps.length∧szOf K.P x.t=some 1∧off<cells.length∧x.d<S.nt∧x.i<S.nt∧x.q<S.nt∧x.r<S.nt then
            some { S with sl:=kZ S.sl [x.s,x.d,x.i,x.q,x.r],bx:=upd S.bx bs (some (bV cells off [.own x.e (ca++[ps])])) }
          else none
        | none=>none)
     | _,_,_=>none)
  | _,_,_,_,_,_=>none
def gB (K:Cfg) (call:CallF) (ops:List Oper) (S:St):Option (Out×St) :=
 match gQ K call ops (ops.take (ops.length - 6)) S,jr (ops.drop (ops.length - 6)) with
 | some S1,some x=>(nA K x S1).map (Out.norm,·)
 | _,_=>none
def ax:Code→Option Nat
 | .region id _ _=>some id
 | .seq a b=>(ax a).orElse fun _=>ax b
 | .cond _ a b=>(ax a).orElse fun _=>ax b
 | .block _ c=>ax c
 | .loop c=>ax c
 | .scope c=>ax c
 | _=>none
def CV.live (bs:List Nat):CV→CV
 | .nils=>.own 0 []
 | .loc s o=>if bs.contains s then .loc s o else .top
 | .fn f caps=>if caps.all (fun x=>bs.contains x.1) then .fn f caps else .top
 | v=>v
def CV.liveIn (bs:List Nat):CV→CV
 | .loc s o=>if bs.contains s then .loc s o else .top
 | .fn f caps=>if caps.all (fun x=>bs.contains x.1) then .fn f caps else .top
 | v=>v
def AV.live (bs:List Nat):AV→AV
 | .c v=>.c (v.live bs)
 | .agg l=>.agg (l.map (CV.liveIn bs))
 | .tup _=>.c .top
def aI (bs:List Nat) (sl:Nat→AV):List Nat→(Nat→AV)
 | []=>bot
 | k::l=>upd (aI bs sl l) k ((sl k).live bs)
def aF (all:List Nat) (bx:Nat→Option (List CV)):List Nat→(Nat→Option (List CV))
 | []=>nobox
 | s::l=>upd (aF all bx l) s ((bx s).map (List.map (CV.live all)))
def head (kp:List Nat×List Nat) (S:St):St :=
  { sl:=aI kp.2 S.sl kp.1,bx:=aF kp.2 S.bx kp.2,nt:=S.nt }
def iter (body:St→Option (Out×St)) (kp:List Nat×List Nat):Nat→St→Option (Out×St)
 | 0,_=>none
 | n+1,S =>
  match body (head kp S) with
  | some (.norm,S1)=>iter body kp n S1
  | r=>r
def bB (K:Cfg) (call:CallF) (n:Nat) (f:FuncId):Code→St→Option (Out×St)
 | .skip,S=>some (.norm,S)
 | .region id ops draw,S=>if K.hook f id then gB K call ops.toList S else ay K call ops.toList draw S
 | .seq a b,S =>
  match bB K call n f a S with
  | some (.norm,S1)=>bB K call n f b S1
  | r=>r
 | .cond c x y,S =>
  match opd S.sl c with
  | .c (.pv (.bool t))=>if t then bB K call n f x S else bB K call n f y S
  | _=>none
 | .block id c,S =>
  match bB K call n f c S with
  | some (.exit i,S1)=>if i=id then some (.norm,S1) else some (.exit i,S1)
  | r=>r
 | .scope c,S=>bB K call n f c S
 | .loop c,S=>iter (bB K call n f c) (K.keep f ((ax c).getD 0)) n S
 | .exit id,S=>some (.exit id,S)
 | .ret,S=>some (.ret,S)
 | _,_=>none
def aZ (nt:Nat) (args:List AV) (bxs:List (List CV)):St :=
  { sl:=fun t=>(args[t]?).getD (.c .top),bx:=fun k=>if LK≤k then bxs[k - LK]? else none,nt }
def cN (P:Program) (S:St):ResultVar→Option TV
 | .tmp t=>match S.sl t with
  | .c .top=>none
  | .c v=>some (.c v)
  | .agg l=>some (.agg l)
  | .tup _=>none
 | .cell a t =>
  match bL P [] S.bx (some 0) t (S.sl a) with
  | some (.val (.c .top) _ _)=>none
  | some (.val (.c v) _ _)=>some (.c v)
  | some (.val (.agg l) _ _)=>some (.agg l)
  | _=>none
def bW (P:Program) (S:St):List ResultVar→Option (List TV)
 | []=>some []
 | r::l =>
  match cN P S r,bW P S l with
  | some v,some m=>some (v::m)
  | _,_=>none
def TV.deg:TV→TV
 | .c v=>.c v.deg
 | .agg l=>.agg l
def TV.keepOwn:TV→TV
 | .c (.own e l)=>.c (.own e l)
 | v=>v.deg
def dT (P:Program) (own:Bool) (S:St) (fn:Func):Option AV :=
 match bW P S fn.results.toList with
 | some [v]=>some ((if own then v.keepOwn else v.deg).av)
 | some l=>some (.tup (l.map TV.deg))
 | none=>none
def aK (k:Nat):Option Nat:=if LK≤k then some k else none
def bf (bx:Nat→Option (List CV)):Nat→Option (List (List CV))
 | 0=>some []
 | n+1 =>
  match bf bx n,bx (LK+n) with
  | some l,some c=>some (l++[c.map (CV.ren aK)])
  | _,_=>none
def leave (K:Cfg) (f:FuncId) (fn:Func) (n:Nat):Option (Out×St)→Option Res
 | some (.norm,S)|some (.ret,S) =>
  match dT K.P (K.ownRet f) S fn,bf S.bx n with
  | some v,some cs=>some (.ret (v.ren aK) cs)
  | _,_=>none
 | some (.pan v,S) =>
  match bf S.bx n with
  | some cs=>some (.pan (v.ren aK) cs)
  | none=>none
 | _=>none
def enter (K:Cfg) (ex:Code→St→Option (Out×St)) (f:FuncId) (args:List AV) (bxs:List (List CV)):Option Res :=
 match K.P.funcs[f]? with
 | none=>none
 | some fn =>
  match fn.body with
  | none=>none
  | some c =>
   if args.length≤fn.ntmps∧fn.ntmps<LK then leave K f fn bxs.length (ex c (aZ fn.ntmps args bxs)) else none
def bQ (K:Cfg):Nat→CallF
 | 0=>fun _ _ _=>none
 | n+1=>fun f args bxs =>
  match K.pr f with
  | some F=>(F args bxs).map fun x=>.ret x.1 x.2
  | none=>match K.hp f with
   | some F=>(F args bxs).run (bQ K n)
   | none=>enter K (bB K (bQ K n) n f) f args bxs
end Go.Abs
namespace Go.Abs
open Go
inductive All2 {α β:Type} (R:α→β→Prop):List α→List β→Prop
 | nil:All2 R [] []
 | cons {a:α} {b:β} {l:List α} {m:List β}:R a b→All2 R l m→All2 R (a::l) (b::m)
namespace All2
variable {α β:Type} {R R':α→β→Prop} {l:List α} {m:List β}
theorem length (h:All2 R l m):l.length=m.length:=by
 induction h with
 | nil=>rfl
 | cons _ _ ih=>simp[ih]
theorem imp (h:All2 R l m) (f:∀ a b,a∈l→R a b→R' a b):All2 R' l m:=by
 induction h with
 | nil=>exact .nil
 | cons h _ ih=>exact .cons (f _ _ (by simp) h) (ih fun a b ha=>f a b (by simp[ha]))
theorem get (h:All2 R l m):∀ {i:Nat} {a:α},l[i]? = some a→∃ b,m[i]? = some b∧R a b:=by
 induction h with
 | nil=>intro i a h;simp at h
 | cons h _ ih =>
  intro i a hi;cases i with
  | zero=>simp at hi;subst hi;exact⟨_,by simp,h⟩
  | succ i=>simpa using ih (by simpa using hi)
theorem getR (h:All2 R l m):∀ {i:Nat} {b:β},m[i]? = some b→∃ a,l[i]? = some a∧R a b:=by
 induction h with
 | nil=>intro i a h;simp at h
 | cons h _ ih =>
  intro i a hi;cases i with
  | zero=>simp at hi;subst hi;exact⟨_,by simp,h⟩
  | succ i=>simpa using ih (by simpa using hi)
theorem mk:∀ {l:List α} {m:List β},l.length=m.length→(∀ (i:Nat) (a:α) (b:β),l[i]? = some a→m[i]? = some b→R a b)→All2 R l m
 | [],[],_,_=>.nil
 | [],_::_,h,_=>by simp at h
 | _::_,[],h,_=>by simp at h
 | a::l,b::m,h,f=>.cons (f 0 a b rfl rfl) (mk (by simpa using h) fun i a b h1 h2=>f (i+1) a b (by simpa using h1) (by simpa using h2))
theorem append {l':List α} {m':List β} (h:All2 R l m) (k:All2 R l' m'):All2 R (l++l') (m++m'):=by
 induction h with
 | nil=>exact k
 | cons h _ ih=>exact .cons h ih
theorem cV {γ:Type} {f:γ→α} {l:List γ} (h:All2 (fun c b=>R (f c) b) l m):All2 R (l.map f) m:=by
 induction h with
 | nil=>exact .nil
 | cons h _ ih=>exact .cons h ih
theorem drop:∀ (n:Nat) {l:List α} {m:List β},All2 R l m→All2 R (l.drop n) (m.drop n)
 | 0,_,_,h=>h
 | _+1,_,_,.nil=>.nil
 | n+1,_,_,.cons _ h=>drop n h
theorem take:∀ (n:Nat) {l:List α} {m:List β},All2 R l m→All2 R (l.take n) (m.take n)
 | 0,_,_,_=>.nil
 | _+1,_,_,.nil=>.nil
 | n+1,_,_,.cons h k=>.cons h (take n k)
end All2
inductive Own where
 | box (s:Nat)
 | cell (s k:Nat)
 | slot (t:Nat)
 | ret
structure Gh where
 I:Nat→Nat→Option Value
 bb:Nat→Option Nat
 ow:Nat→Option Own
inductive RP (I:Nat→Nat→Option Value):PV→Value→Prop
 | bool (b:Bool):RP I (.bool b) (.bool b)
 | int (k:IntKind) (n:Int):RP I (.int k n) (.int k n)
 | str (l:List UInt8):RP I (.str l) (.string (ByteArray.mk l.toArray))
 | sl0 (a:Option Addr) (cap:Nat):RP I (.sl []) (.slice a 0 cap)
 | sl (c:List (List PV)) (b o cap sz:Nat) (f:Nat→Nat→Value) (hc:c≠[]) (hcap:c.length≤cap) (hsz:∀ e∈c,e.length=sz)
   (h1:∀ (i:Nat) (el:List PV) (j:Nat) (p:PV),c[i]? = some el→el[j]? = some p→I b (o+(i*sz+j))=some (f i j))
   (h2:∀ (i:Nat) (el:List PV) (j:Nat) (p:PV),c[i]? = some el→el[j]? = some p→RP I p (f i j)) :
   RP I (.sl c) (.slice (some ⟨b,o,none⟩) c.length cap)
 | ifc (t:TypeId) (p:PV) (v:Value) (h:RP I p v):RP I (.ifc t p) (.iface t v)
 | ifa (t:TypeId) (l:List PV) (f:Nat→Value) (h:∀ (j:Nat) (p:PV),l[j]? = some p→RP I p (f j)) :
   RP I (.ifa t l) (.iface t (.agg ((List.range l.length).map f).toArray))
 | nilifc:RP I .nilifc .nilIface
theorem RP.one {I:Nat→Nat→Option Value} {p:PV} {v:Value} (h:RP I p v):v.oneCell'=true:=by
 cases h<;>rfl
theorem RP.mono {I I':Nat→Nat→Option Value} (hI:∀ b o y,I b o=some y→I' b o=some y) {p:PV} {v:Value} (h:RP I p v):RP I' p v:=by
 induction h with
 | bool b=>exact .bool b
 | int k n=>exact .int k n
 | str l=>exact .str l
 | sl0 a cap=>exact .sl0 a cap
 | sl c b o cap sz f hc hcap hsz h1 _ ih=>exact .sl c b o cap sz f hc hcap hsz (fun i el j p a b=>hI _ _ _ (h1 i el j p a b)) ih
 | ifc t p v _ ih=>exact .ifc t p v ih
 | ifa t l f _ ih=>exact .ifa t l f ih
 | nilifc=>exact .nilifc
def Seg (I:Nat→Nat→Option Value) (b o sz:Nat) (c:List (List PV)):Prop :=
 ∀ (i:Nat) (el:List PV) (j:Nat) (p:PV),c[i]? = some el→el[j]? = some p→∃ y,I b (o+(i*sz+j))=some y∧RP I p y
theorem Seg.mono {I I':Nat→Nat→Option Value} (hI:∀ b o y,I b o=some y→I' b o=some y) {b o sz:Nat} {c:List (List PV)} (h:Seg I b o sz c):Seg I' b o sz c :=
 fun i el j p a k=>let ⟨y,h1,h2⟩:=h i el j p a k;⟨y,hI _ _ _ h1,h2.mono hI⟩
theorem RP.of_seg {I:Nat→Nat→Option Value} {c:List (List PV)} {b o cap sz:Nat} (hcap:c.length≤cap) (hsz:∀ e∈c,e.length=sz) (h:Seg I b o sz c) :
  RP I (.sl c) (.slice (some ⟨b,o,none⟩) c.length cap):=by
 by_cases hc:c=[]
 ·subst hc;exact .sl0 _ _
 ·refine .sl c b o cap sz (fun i j=>(I b (o+(i*sz+j))).getD default) hc hcap hsz (fun i el j p a k => ?_) (fun i el j p a k => ?_)
  ·obtain⟨y,h1,_⟩:=h i el j p a k;simp[h1]
  ·obtain⟨y,h1,h2⟩:=h i el j p a k;simpa[h1] using h2
theorem RP.slice_inv {I:Nat→Nat→Option Value} {c:List (List PV)} {v:Value} (h:RP I (.sl c) v) :
  ∃ a cap,v=.slice a c.length cap∧c.length≤cap∧(c≠[]→∃ b o sz,a=some ⟨b,o,none⟩∧(∀ e∈c,e.length=sz)∧Seg I b o sz c):=by
 cases h with
 | sl0 a cap=>exact⟨a,cap,rfl,Nat.zero_le _,fun h=>absurd rfl h⟩
 | sl _ b o cap sz f hc hcap hsz h1 h2 =>
  exact⟨_,cap,rfl,hcap,fun _=>⟨b,o,sz,rfl,hsz,fun i el j p a k=>⟨f i j,h1 i el j p a k,h2 i el j p a k⟩⟩⟩
def RN (G:Gh):CV→Value→Prop
 | .top,x=>x.oneCell'=true
 | .pv p,x=>RP G.I p x
 | .own _ _,_=>False
 | .iter _ _,_=>False
 | .cmap _,_=>False
 | .nils,x=>x=.slice none 0 0
 | .loc s off,x=>∃ b,G.bb s=some b∧x=.pointer (some ⟨b,off,none⟩)
 | .nilp,x=>x=.pointer none
 | .cptr l,x=>∃ b o,x=.pointer (some ⟨b,o,none⟩)∧∀ (j:Nat) (p:PV),l[j]? = some p→∃ y,G.I b (o+j)=some y∧RP G.I p y
 | .fn f caps,x=>∃ vs:List Value,x=.func (.func f) #[] vs.toArray∧All2 (fun c v=>∃ b,G.bb c.1=some b∧v=.pointer (some ⟨b,c.2,none⟩)) caps vs
 | .bld,x=>x=.pointer none
 | .full c,x=>RP G.I (.sl c) x∧c≠[]∧∃ a n,x=.slice a n n
theorem RN.one {G:Gh} {v:CV} {x:Value} (h:RN G v x):x.oneCell'=true:=by
 cases v<;>simp only[RN] at h
 ·exact h
 ·exact h.one
 ·subst h;rfl
 ·obtain⟨_,_,rfl⟩:=h;rfl
 ·subst h;rfl
 ·obtain⟨_,_,rfl,_⟩:=h;rfl
 ·obtain⟨_,rfl,_⟩:=h;rfl
 ·subst h;rfl
 ·exact h.1.one
theorem RN.mono {G G':Gh} (hI:∀ b o y,G.I b o=some y→G'.I b o=some y) (hb:∀ s b,G.bb s=some b→G'.bb s=some b) {v:CV} {x:Value} (h:RN G v x):RN G' v x:=by
 cases v<;>simp only[RN] at h ⊢
 ·exact h
 ·exact h.mono hI
 ·exact h
 ·obtain⟨b,h1,h2⟩:=h;exact⟨b,hb _ _ h1,h2⟩
 ·exact h
 ·obtain⟨b,o,h1,h2⟩:=h;exact⟨b,o,h1,fun j p hp=>let ⟨y,h3,h4⟩:=h2 j p hp;⟨y,hI _ _ _ h3,h4.mono hI⟩⟩
 ·obtain⟨vs,h1,h2⟩:=h;exact⟨vs,h1,h2.imp fun a b _ ⟨k,h3,h4⟩=>⟨k,hb _ _ h3,h4⟩⟩
 ·exact h
 ·exact⟨h.1.mono hI,h.2⟩
def Emp (G:Gh) (w:World) (ℓ:Own) (a:Option Addr):Prop :=
 a=none∨∃ b cur e,a=some ⟨b,0,none⟩∧G.ow b=some ℓ∧w.heap[b]? = some (.cells cur e (0,0))
theorem Emp.map {G G':Gh} {w w':World} {ℓ ℓ':Own} {a:Option Addr} (h:Emp G w ℓ a) (f:∀ b,G.ow b=some ℓ→G'.ow b=some ℓ'∧w'.heap[b]? = w.heap[b]?):Emp G' w' ℓ' a:=by
 rcases h with h|⟨b,cur,e,h1,h2,h3⟩
 ·exact .inl h
 ·exact .inr ⟨b,cur,e,h1,(f b h2).1,(f b h2).2.trans h3⟩
def OwnAt (G:Gh) (w:World) (ℓ:Own) (e:TypeId) (c:List (List PV)) (x:Value):Prop :=
 (c=[]∧∃ a,x=.slice a 0 0∧Emp G w ℓ a) ∨
 (c≠[]∧∃ b cap cur sz,x=.slice (some ⟨b,0,none⟩) c.length cap∧G.ow b=some ℓ∧w.heap[b]? = some (.cells cur e (0,0))∧c.length≤cap∧cap*sz=cur.size ∧
  0<sz∧(∀ el∈c,el.length=sz)∧Seg G.I b 0 sz c∧∀ o,c.length*sz≤o→G.I b o=none)
def IterAt (G:Gh) (w:World) (ℓ:Own) (s:List UInt8) (pos:Nat) (x:Value):Prop :=
 ∃ b,x=.pointer (some ⟨b,0,none⟩)∧G.ow b=some ℓ∧w.heap[b]? = some (.stringIter (ByteArray.mk s.toArray) pos)
def MapAt (G:Gh) (w:World) (ℓ:Own) (es:List MapEntry) (x:Value):Prop :=
 ∃ b clock,x=.map (some b)∧G.ow b=some ℓ∧w.heap[b]? = some (.map es.toArray clock)
def RC (G:Gh) (w:World) (ℓ:Own):CV→Value→Prop
 | .own e c,x=>OwnAt G w ℓ e c x
 | .iter s pos,x=>IterAt G w ℓ s pos x
 | .cmap es,x=>MapAt G w ℓ es x
 | v,x=>RN G v x
theorem RC.of_RN {G:Gh} {w:World} {ℓ:Own} {v:CV} {x:Value} (h:RN G v x):RC G w ℓ v x:=by
 cases v<;>first|exact h|exact False.elim h
theorem RC.to_RN {G:Gh} {w:World} {ℓ:Own} {v:CV} {x:Value} (h:RC G w ℓ v x) (hv:v.plain=true):RN G v x:=by
 cases v<;>first|exact h|cases hv
theorem OwnAt.rp {G:Gh} {w:World} {ℓ:Own} {e:TypeId} {c:List (List PV)} {x:Value} (h:OwnAt G w ℓ e c x):RP G.I (.sl c) x:=by
 rcases h with⟨rfl,a,rfl,_⟩|⟨_,b,cap,cur,sz,rfl,_,_,hc,_,_,hsz,hseg,_⟩
 ·exact .sl0 _ _
 ·exact .of_seg hc hsz hseg
theorem IterAt.one {G:Gh} {w:World} {ℓ:Own} {s:List UInt8} {pos:Nat} {x:Value} (h:IterAt G w ℓ s pos x):x.oneCell'=true:=by
 obtain⟨b,rfl,_⟩:=h;rfl
theorem MapAt.one {G:Gh} {w:World} {ℓ:Own} {es:List MapEntry} {x:Value} (h:MapAt G w ℓ es x):x.oneCell'=true:=by
 obtain⟨b,c,rfl,_⟩:=h;rfl
theorem RC.deg {G:Gh} {w:World} {ℓ:Own} {v:CV} {x:Value} (h:RC G w ℓ v x):RN G v.deg x:=by
 cases v<;>first|exact h|exact OwnAt.rp h|exact IterAt.one h|exact MapAt.one h
theorem RC.one {G:Gh} {w:World} {ℓ:Own} {v:CV} {x:Value} (h:RC G w ℓ v x):x.oneCell'=true:=h.deg.one
def RT (G:Gh):TV→Value→Prop
 | .c v,x=>RN G v x
 | .agg l,x=>∃ vs:List Value,x=.agg vs.toArray∧All2 (RN G) l vs
theorem RT.mono {G G':Gh} (hI:∀ b o y,G.I b o=some y→G'.I b o=some y) (hb:∀ s b,G.bb s=some b→G'.bb s=some b) {v:TV} {x:Value} (h:RT G v x):RT G' v x:=by
 cases v with
 | c v=>exact RN.mono hI hb h
 | agg l=>obtain⟨vs,h1,h2⟩:=h;exact⟨vs,h1,h2.imp fun _ _ _ h=>h.mono hI hb⟩
def RA (G:Gh) (w:World) (ℓ:Own):AV→Value→Prop
 | .c .top,_=>True
 | .c v,x=>RC G w ℓ v x
 | .agg l,x=>∃ vs:List Value,x=.agg vs.toArray∧All2 (RN G) l vs
 | .tup l,x=>∃ vs:List Value,x=.tuple vs.toArray∧All2 (RT G) l vs
theorem RA.of_RC {G:Gh} {w:World} {ℓ:Own} {v:CV} {x:Value} (h:RC G w ℓ v x):RA G w ℓ (.c v) x:=by
 cases v<;>first|exact h|exact trivial
theorem RA.toRC {G:Gh} {w:World} {ℓ:Own} {v:CV} {x:Value} (h:RA G w ℓ (.c v) x) (hv:v≠.top):RC G w ℓ v x:=by
 cases v<;>first|exact absurd rfl hv|exact h
theorem RA.of_RN {G:Gh} {w:World} {ℓ:Own} {v:CV} {x:Value} (h:RN G v x):RA G w ℓ (.c v) x:=.of_RC (.of_RN h)
theorem RA.of_RT {G:Gh} {w:World} {ℓ:Own} {v:TV} {x:Value} (h:RT G v x):RA G w ℓ v.av x:=by
 cases v with
 | c v=>exact .of_RN h
 | agg l=>exact h
theorem RA.place {G:Gh} {w:World} {ℓ ℓ':Own} {v:AV} {x:Value} (h:RA G w ℓ v x) (hv:bC v=false):RA G w ℓ' v x:=by
 cases v with
 | c v=>cases v<;>first|exact h|cases hv
 | agg l=>exact h
 | tup l=>exact h
theorem RA.deg {G:Gh} {w:World} {ℓ ℓ':Own} {v:AV} {x:Value} (h:RA G w ℓ v x):RA G w ℓ' v.deg x:=by
 cases v with
 | c v=>cases v<;>first|exact h|exact OwnAt.rp h|exact trivial
 | agg l=>exact h
 | tup l=>exact h
theorem CQ {v:AV} (h:v.isIter=false):v.gv=v.deg:=by
 cases v with
 | c v=>cases v<;>first|rfl|cases h
 | agg l=>rfl
 | tup l=>rfl
theorem gc (v:AV):bC v.deg=false:=by
 cases v with
 | c v=>cases v<;>rfl
 | agg l=>rfl
 | tup l=>rfl
def TabOK (G:Gh) (w:World):Prop :=
 (∀ x∈tabs,G.ow x.1=none∧∃ ty fz,w.heap[x.1]? = some (.cells x.2.toArray ty fz)) ∧
 ∀ b∈ints,G.ow b=none∧∃ m cs ty fz,w.heap[b]? = some (.cells cs ty fz)∧cs[0]? = some (.int .i64 m)
theorem TabOK.map {G G':Gh} {w w':World} (h:TabOK G w) (f:∀ b,b<w.heap.size→G.ow b=none→G'.ow b=none∧w'.heap[b]? = w.heap[b]?):TabOK G' w':=by
 have lt:∀ {b:Nat} {o:Obj},w.heap[b]? = some o→b<w.heap.size:=fun h=>(Array.getElem?_eq_some_iff.1 h).1
 refine⟨fun x hx => ?_,fun b hb => ?_⟩
 ·obtain⟨h1,ty,fz,h2⟩:=h.1 x hx;obtain⟨h3,h4⟩:=f _ (lt h2) h1;exact⟨h3,ty,fz,h4.trans h2⟩
 ·obtain⟨h1,m,cs,ty,fz,h2,h5⟩:=h.2 b hb;obtain⟨h3,h4⟩:=f _ (lt h2) h1;exact⟨h3,m,cs,ty,fz,h4.trans h2,h5⟩
structure WI (G:Gh) (w:World):Prop where
 cell:∀ b o y,G.I b o=some y→w.cell? ⟨b,o,none⟩=some y
 fresh:∀ b,w.heap.size≤b→(∀ o,G.I b o=none)∧G.ow b=none
 boxI:∀ b s,G.ow b=some (.box s)→∀ o,G.I b o=none
 bbow:∀ s b,G.bb s=some b→G.ow b=some (.box s)
 tab:TabOK G w
structure Ext (G:Gh) (w:World) (G':Gh) (w':World):Prop where
 I:∀ b o y,G.I b o=some y→G'.I b o=some y
 old:∀ b,b<w.heap.size→G.ow b=none→G'.ow b=none∧w'.heap[b]? = w.heap[b]? ∧ ∀ o,G'.I b o=G.I b o
 size:w.heap.size≤w'.heap.size
 os:w'.os=w.os
 output:w'.output=w.output
 tape:w'.tape=w.tape
 lent:∀ k,LK≤k→G'.bb k=G.bb k
theorem Ext.refl (G:Gh) (w:World):Ext G w G w:=⟨fun _ _ _ h=>h,fun _ _ h=>⟨h,rfl,fun _=>rfl⟩,Nat.le_refl _,rfl,rfl,rfl,fun _ _=>rfl⟩
theorem Ext.trans {G G1 G2:Gh} {w w1 w2:World} (h:Ext G w G1 w1) (k:Ext G1 w1 G2 w2):Ext G w G2 w2 where
 I b o y e:=k.I _ _ _ (h.I _ _ _ e)
 old b hb ho :=
  have a:=h.old b hb ho
  have c:=k.old b (Nat.lt_of_lt_of_le hb h.size) a.1
  ⟨c.1,c.2.1.trans a.2.1,fun o=>(c.2.2 o).trans (a.2.2 o)⟩
 size:=Nat.le_trans h.size k.size
 os:=k.os.trans h.os
 output:=k.output.trans h.output
 tape:=k.tape.trans h.tape
 lent x hx:=(k.lent x hx).trans (h.lent x hx)
structure Gr (ch:Own→Prop) (G:Gh) (w:World) (G':Gh) (w':World):Prop where
 ext:Ext G w G' w'
 bb:∀ s b,G.bb s=some b→G'.bb s=some b
 keep:∀ b ℓ,G.ow b=some ℓ→¬ ch ℓ→G'.ow b=some ℓ∧w'.heap[b]? = w.heap[b]? ∧ ∀ o,G'.I b o=G.I b o
theorem Gr.refl (G:Gh) (w:World):Gr (fun _=>False) G w G w:=⟨.refl _ _,fun _ _ h=>h,fun _ _ h _=>⟨h,rfl,fun _=>rfl⟩⟩
section
variable {ch:Own→Prop} {G G':Gh} {w w':World}
theorem RN.gr {v:CV} {x:Value} (h:RN G v x) (g:Gr ch G w G' w'):RN G' v x:=h.mono g.ext.I g.bb
theorem RT.gr {v:TV} {x:Value} (h:RT G v x) (g:Gr ch G w G' w'):RT G' v x:=h.mono g.ext.I g.bb
theorem OwnAt.gr {ℓ:Own} {e:TypeId} {c:List (List PV)} {x:Value} (h:OwnAt G w ℓ e c x) (g:Gr ch G w G' w') (hc:¬ ch ℓ):OwnAt G' w' ℓ e c x:=by
 rcases h with⟨h1,ad,h2,h3⟩|⟨hne,b,cap,cur,sz,h1,h2,h3,h4,h5,h6,h7,h8,h9⟩
 ·exact .inl ⟨h1,ad,h2,h3.map fun b hb=>⟨(g.keep b ℓ hb hc).1,(g.keep b ℓ hb hc).2.1⟩⟩
 ·obtain⟨k1,k2,k3⟩:=g.keep b ℓ h2 hc;exact .inr ⟨hne,b,cap,cur,sz,h1,k1,k2.trans h3,h4,h5,h6,h7,h8.mono g.ext.I,fun o ho=>(k3 o).trans (h9 o ho)⟩
theorem IterAt.gr {ℓ:Own} {s:List UInt8} {pos:Nat} {x:Value} (h:IterAt G w ℓ s pos x) (g:Gr ch G w G' w') (hc:¬ ch ℓ):IterAt G' w' ℓ s pos x:=by
 obtain⟨b,h1,h2,h3⟩:=h;obtain⟨k1,k2,_⟩:=g.keep b ℓ h2 hc;exact⟨b,h1,k1,k2.trans h3⟩
theorem MapAt.gr {ℓ:Own} {es:List MapEntry} {x:Value} (h:MapAt G w ℓ es x) (g:Gr ch G w G' w') (hc:¬ ch ℓ):MapAt G' w' ℓ es x:=by
 obtain⟨b,c,h1,h2,h3⟩:=h;obtain⟨k1,k2,_⟩:=g.keep b ℓ h2 hc;exact⟨b,c,h1,k1,k2.trans h3⟩
theorem RC.gr {ℓ:Own} {v:CV} {x:Value} (h:RC G w ℓ v x) (g:Gr ch G w G' w') (hc:¬ ch ℓ):RC G' w' ℓ v x:=by
 cases v<;>first|exact OwnAt.gr h g hc|exact IterAt.gr h g hc|exact MapAt.gr h g hc|exact RC.of_RN (RN.gr (G:=G) h g)
theorem RA.gr {ℓ:Own} {v:AV} {x:Value} (h:RA G w ℓ v x) (g:Gr ch G w G' w') (hc:¬ ch ℓ):RA G' w' ℓ v x:=by
 cases v with
 | c v =>
  by_cases hv:v=.top
  ·subst hv;exact trivial
  ·exact .of_RC ((h.toRC hv).gr g hc)
 | agg l=>obtain⟨vs,h1,h2⟩:=h;exact⟨vs,h1,h2.imp fun _ _ _ h=>h.gr g⟩
 | tup l=>obtain⟨vs,h1,h2⟩:=h;exact⟨vs,h1,h2.imp fun _ _ _ h=>h.gr g⟩
theorem RA.gr_plain {ℓ ℓ':Own} {v:AV} {x:Value} (h:RA G w ℓ v x) (g:Gr ch G w G' w') (hv:bC v=false):RA G' w' ℓ' v x:=by
 cases v with
 | c v =>
  by_cases hv':v=.top
  ·subst hv';exact trivial
  ·exact .of_RN (((h.toRC hv').to_RN (by cases v<;>first|rfl|cases hv)).gr g)
 | agg l=>obtain⟨vs,h1,h2⟩:=h;exact⟨vs,h1,h2.imp fun _ _ _ h=>h.gr g⟩
 | tup l=>obtain⟨vs,h1,h2⟩:=h;exact⟨vs,h1,h2.imp fun _ _ _ h=>h.gr g⟩
end
def Bld (ty:TypeId) (l:List CV):Prop:=l[0]? = some .bld→ty∈bD
theorem Bld.map {ty:TypeId} {l:List CV} {f:CV→CV} (h:Bld ty l) (hf:∀ v,f v=.bld→v=.bld):Bld ty (l.map f):=fun e=>by
 rw[List.getElem?_map,Option.map_eq_some_iff] at e
 obtain⟨v,hv,e⟩:=e;exact h (by rw[hv,hf v e])
def BoxR (G:Gh) (w:World) (s:Nat) (l:List CV):Prop :=
 ∃ b cs ty,G.bb s=some b∧w.heap[b]? = some (.cells cs ty (0,0))∧(cs.size=l.length∧Bld ty l)∧∀ (k:Nat) (v:CV),l[k]? = some v→∃ x,cs[k]? = some x∧RC G w (.cell s k) v x
theorem BoxR.gr {ch:Own→Prop} {G G':Gh} {w w':World} {s:Nat} {l:List CV} (h:BoxR G w s l) (hw:WI G w) (g:Gr ch G w G' w') (hc:¬ ch (.box s)) (hk:∀ k, ¬ ch (.cell s k)):BoxR G' w' s l:=by
 obtain⟨b,cs,ty,h1,h2,h3,h4⟩:=h;have k:=g.keep b _ (hw.bbow s b h1) hc
 exact⟨b,cs,ty,g.bb s b h1,k.2.1.trans h2,h3,fun j v hv=>let ⟨x,h5,h6⟩:=h4 j v hv;⟨x,h5,h6.gr g (hk j)⟩⟩
structure FR (G:Gh) (w:World) (S:St) (a:Act):Prop where
 size:a.tmps.size=S.nt
 slot:∀ t,RA G w (.slot t) (S.sl t) (a.tmps.getD t undef)
 box:∀ s l,S.bx s=some l→BoxR G w s l
 nob:∀ s,S.bx s=none→s<LK→G.bb s=none
theorem vE (G:Gh) (v:Value) (h:v.oneCell'=true):RN G (cvOf v) v:=by
 unfold cvOf;split<;>first|exact .bool _|exact .int _ _|exact .nilifc|rfl|exact h|skip
 exact .str _
theorem oT (G:Gh):∀ l:List Value,l.all Value.oneCell'=true→All2 (fun v x=>RN G (cvOf v) x) l l
 | [],_=>.nil
 | x::l,h=>by
  simp only[List.all_cons,Bool.and_eq_true] at h;exact .cons (vE G x h.1) (oT G l h.2)
theorem nl (G:Gh) (w:World) (ℓ:Own) (v:Value):RA G w ℓ (avOf v) v:=by
 unfold avOf;split
 ·rename_i cs;split
  ·rename_i hc;exact⟨cs.toList,by simp,All2.cV (oT G _ hc)⟩
  ·exact trivial
 ·split
  ·rename_i cs hc;exact⟨[],by simp at hc;simp[hc],.nil⟩
  ·exact trivial
 ·rename_i h1 h2;refine .of_RN (vE G v ?_)
  cases v<;>first|rfl|exact absurd rfl (h1 _)|exact absurd rfl (h2 _)
theorem jJ (v:Value):bC (avOf v)=false:=by
 unfold avOf;split
 ·split<;>rfl
 ·split<;>rfl
 ·unfold cvOf;split<;>rfl
def place:Operand→Own
 | .tmp t=>.slot t
 | _=>.ret
theorem FR.opd {G:Gh} {w:World} {S:St} {a:Act} (h:FR G w S a) (x:Operand):RA G w (place x) (opd S.sl x) (a.eval x):=by
 cases x with
 | tmp t=>exact h.slot t
 | const v=>exact nl G w _ v
 | func f=>exact⟨[],rfl,.nil⟩
 | global g=>exact trivial
end Go.Abs
namespace Go.Abs
open Go
section
variable {P:Program} {G:Gh} {w:World}
theorem RA.intv {ℓ:Own} {k:IntKind} {n:Int} {x:Value} (h:RA G w ℓ (.c (.pv (.int k n))) x):x=.int k n:=by
 have h':RP G.I (.int k n) x:=h;cases h';rfl
theorem RA.boolv {ℓ:Own} {b:Bool} {x:Value} (h:RA G w ℓ (.c (.pv (.bool b))) x):x=.bool b:=by
 have h':RP G.I (.bool b) x:=h;cases h';rfl
theorem RA.strv {ℓ:Own} {s:List UInt8} {x:Value} (h:RA G w ℓ (.c (.pv (.str s))) x):x=.string (ByteArray.mk s.toArray):=by
 have h':RP G.I (.str s) x:=h;cases h';rfl
theorem kz:∀ {l:List CV} {m:List PV} {vs:List Value},pvs l=some m→All2 (RN G) l vs→All2 (RP G.I) m vs
 | [],m,_,h,.nil=>by simp[pvs] at h;subst h;exact .nil
 | v::l,m,x::vs,h,.cons h1 h2=>by
  unfold pvs at h;split at h
  ·rename_i p m' hp hm;simp at h;subst h;refine .cons ?_ (kz hm h2)
   cases v<;>simp[CV.pv?] at hp<;>subst hp
   ·exact h1
   ·exact False.elim h1
   ·have:x=_:=h1;subst this;exact .sl0 _ _
   ·exact h1.1
  ·cases h
theorem im {t:TypeId} {d:TypeDesc} {cs:Array Value} {o:Nat} {x:Value} (hd:P.underlying t=some d) (ht:(match d with|.struct _|.array _ _=>true|_=>false)=false) (hc:cs[o]? = some x) :
  (part t cs o).run P w=.ok x w:=by
 unfold part isAgg;simp only[Sem.run_bind,run_underlying hd,Result.andThen_ok];cases d<;>simp at ht<;>simp[hc]
theorem cT {t:TypeId} {n:Nat} (h:szOf P t=some n):(sizeOf t).run P w=.ok n w:=by
 unfold szOf at h;cases hi:P.info? t with
 | none=>simp[hi] at h
 | some i=>simp[hi] at h;simp[sizeOf,typeInfo,hi,h]
theorem mH (d:Nat):∀ (fs:List Field) (k:Nat) (l m:List PV) (xs ys:List Value) (X Y:Array Value) (r:Bool),
  eM P fs k l m=some r→All2 (RP G.I) l xs→All2 (RP G.I) m ys→(∀ (j:Nat) (x:Value),xs[j]? = some x→X[k+j]? = some x)→(∀ (j:Nat) (y:Value),ys[j]? = some y→Y[k+j]? = some y) →
  (Op.eqFields (d+1) X Y fs).run P w=.ok r w
 | [],k,l,m,xs,ys,X,Y,r,hr,_,_,_,_=>by
  cases l<;>cases m<;>simp[eM] at hr
  subst hr;simp[Op.eqFields]
 | f::fs,k,l,m,xs,ys,X,Y,r,hr,hl,hm,hX,hY=>by
  cases hl with
  | nil=>simp[eM] at hr
  | cons hp hl =>
  cases hm with
  | nil=>simp[eM] at hr
  | cons hq hm =>
  rename_i x p xs y q ys;unfold eM at hr;split at hr
  case isFalse=>cases hr
  rename_i hc;simp only[Bool.and_eq_true,beq_iff_eq,bne_iff_ne,ne_eq] at hc;obtain⟨ho,hn⟩:=hc;have hx0:=hX 0 _ rfl
  have hy0:=hY 0 _ rfl
  simp only[Nat.add_zero,←ho] at hx0 hy0;have next:∀ b,eM P fs (k+1) _ _=some b→(Op.eqFields (d+1) X Y fs).run P w=.ok b w:=fun b hb =>
   mH d fs (k+1) _ _ _ _ X Y b hb hl hm (fun j z hz=>by have:=hX (j+1) z (by simpa using hz);rw[←this];congr 1;omega)
    (fun j z hz=>by have:=hY (j+1) z (by simpa using hz);rw[←this];congr 1;omega)
  split at hr
  ·rename_i u v hu;cases hp;cases hq;simp only[Option.map_eq_some_iff] at hr;obtain⟨b,hb,rfl⟩:=hr;have hpa:=im (P:=P) (w:=w) (t:=f.type) hu rfl hx0
   have hpb:=im (P:=P) (w:=w) (t:=f.type) hu rfl hy0
   simp only[Op.eqFields,if_pos hn,Sem.run_bind,hpa,hpb,run_equalIn_bool' w d _ _ _ hu,Result.andThen_ok,Sem.run_ite,Sem.run_pure,next b hb];cases hh:(u==v)<;>simp
  ·rename_i kk i u j v hu;cases hp;cases hq;split at hr
   case isFalse=>cases hr
   rename_i hij;subst hij;simp only[Option.map_eq_some_iff] at hr;obtain⟨b,hb,rfl⟩:=hr;have hpa:=im (P:=P) (w:=w) (t:=f.type) hu rfl hx0
   have hpb:=im (P:=P) (w:=w) (t:=f.type) hu rfl hy0
   simp only[Op.eqFields,if_pos hn,Sem.run_bind,hpa,hpb,run_equalIn_int w d _ _ _ _ _ hu,Result.andThen_ok,Sem.run_ite,Sem.run_pure,next b hb];cases hh:(u==v)<;>simp
  ·rename_i u v hu;cases hp;cases hq;simp only[Option.map_eq_some_iff] at hr;obtain⟨b,hb,rfl⟩:=hr;have hpa:=im (P:=P) (w:=w) (t:=f.type) hu rfl hx0
   have hpb:=im (P:=P) (w:=w) (t:=f.type) hu rfl hy0
   simp only[Op.eqFields,if_pos hn,Sem.run_bind,hpa,hpb,run_equalIn_string w d _ _ _ hu,ByteArray.toList_mk,Result.andThen_ok,Sem.run_ite,Sem.run_pure,next b hb];cases hh:(u==v)<;>simp
  ·cases hr
theorem Cz {op:BinOp} {t:TypeId} {k:IntKind} {a b:Int} {p:PV} (h:cR op k a b=some p) :
  ∃ z,(Go.binOp op t (.int k a) (.int k b)).run P w=.ok z w∧RP G.I p z:=by
 cases op<;>simp only[cR] at h
 case add=>cases h;exact⟨_,by simp[Go.binOp,Op.intArith],.int _ _⟩
 case sub=>cases h;exact⟨_,by simp[Go.binOp,Op.intArith],.int _ _⟩
 case mul=>cases h;exact⟨_,by simp[Go.binOp,Op.intArith],.int _ _⟩
 case quo =>
  split at h
  ·cases h
  ·rename_i hb;cases h;exact⟨_,by simp[Go.binOp,Op.intDiv,hb],.int _ _⟩
 case rem =>
  split at h
  ·cases h
  ·rename_i hb;cases h;exact⟨_,by simp[Go.binOp,Op.intDiv,hb],.int _ _⟩
 case eql=>cases h;exact⟨_,by simp[Go.binOp,Op.intCmp],.bool _⟩
 case neq=>cases h;exact⟨_,by simp[Go.binOp,Op.intCmp],.bool _⟩
 case lss=>cases h;exact⟨_,by simp[Go.binOp,Op.intCmp],.bool _⟩
 case leq=>cases h;exact⟨_,by simp[Go.binOp,Op.intCmp],.bool _⟩
 case gtr=>cases h;exact⟨_,by simp[Go.binOp,Op.intCmp],.bool _⟩
 case geq=>cases h;exact⟨_,by simp[Go.binOp,Op.intCmp],.bool _⟩
 all_goals cases h
theorem Di {op:BinOp} {t:TypeId} {a b:List UInt8} {p:PV} (h:cP op a b=some p) :
  ∃ z,(Go.binOp op t (.string (ByteArray.mk a.toArray)) (.string (ByteArray.mk b.toArray))).run P w=.ok z w∧RP G.I p z:=by
 cases op<;>simp only[cP] at h
 case add =>
  split at h
  case isFalse=>cases h
  rename_i hl;cases h;refine⟨_,?_,.str _⟩
  rw[binOp_string_add,run_string_add_sum _ _ _ (by show a.toArray.size+b.toArray.size≤_;simp[bz] at hl ⊢;omega),ByteArray.mk_append_mk]
 case eql=>cases h;exact⟨_,by simp[Go.binOp,Op.stringOp],.bool _⟩
 case neq =>
  cases h
  refine⟨.bool !(a==b),by simp[Go.binOp,Op.stringOp],?_⟩
  have:(a != b) = !(a==b):=rfl
  rw[this];exact .bool _
 case lss=>cases h;exact⟨_,by simp[Go.binOp,Op.stringOp],.bool _⟩
 case leq=>cases h;exact⟨_,by simp[Go.binOp,Op.stringOp],.bool _⟩
 case gtr =>
  cases h
  refine⟨.bool !(Op.bytesLess a b||a==b),by simp[Go.binOp,Op.stringOp],.bool _⟩
 case geq=>cases h;exact⟨_,by simp[Go.binOp,Op.stringOp],.bool _⟩
 all_goals cases h
theorem zx (d:Nat) (t e:TypeId) (hu:P.underlying t=some (.pointer e)) (a b:Option Addr) (r:Bool)
  (h:(a=none∧b=none∧r=true)∨(a.isSome=true∧b=none∧r=false)∨(a=none∧b.isSome=true∧r=false)) :
  (Op.equalIn (d+1) t (.pointer a) (.pointer b)).run P w=.ok r w:=by
 rcases h with⟨rfl,rfl,rfl⟩|⟨h,rfl,rfl⟩|⟨rfl,h,rfl⟩
 ·simp[Op.equalIn,run_underlying hu]
 ·obtain⟨a,rfl⟩:=Option.isSome_iff_exists.1 h;simp[Op.equalIn,run_underlying hu]
 ·obtain⟨b,rfl⟩:=Option.isSome_iff_exists.1 h;simp[Op.equalIn,run_underlying hu]
theorem uA {op:BinOp} {t e:TypeId} (hu:P.underlying t=some (.pointer e)) {a b:Option Addr} {r:Bool} {p:PV} (h:cq op r=some p)
  (hr:(a=none∧b=none∧r=true)∨(a.isSome=true∧b=none∧r=false)∨(a=none∧b.isSome=true∧r=false)) (ox oy:Operand) :
  ∃ z,((do eqGuard op t ox oy (.pointer a) (.pointer b);Go.binOp op t (.pointer a) (.pointer b)):Sem Value).run P w=.ok z w∧RP G.I p z:=by
 have he:=zx (w:=w) 9999 t e hu a b r hr
 cases op<;>simp only[cq] at h
 case eql =>
  cases h
  refine⟨.bool r,?_,.bool _⟩
  have hg:(eqGuard .eql t ox oy (.pointer a) (.pointer b)).run P w=.ok () w:=rfl
  have hb:(Go.binOp .eql t (.pointer a) (.pointer b))=(do pure (.bool (←Op.equal t (.pointer a) (.pointer b)))):=by cases a<;>cases b<;>rfl
  simp only[Sem.run_bind,hg,Result.andThen_ok,hb,Op.equal,Op.maxDepth,he,Sem.run_pure]
 case neq =>
  cases h
  refine⟨.bool !r,?_,.bool _⟩
  have hg:(eqGuard .neq t ox oy (.pointer a) (.pointer b)).run P w=.ok () w:=rfl
  have hb:(Go.binOp .neq t (.pointer a) (.pointer b))=(do pure (.bool (!(←Op.equal t (.pointer a) (.pointer b))))):=by cases a<;>cases b<;>rfl
  simp only[Sem.run_bind,hg,Result.andThen_ok,hb,Op.equal,Op.maxDepth,he,Sem.run_pure]
 all_goals cases h
theorem BC {op:BinOp} {t:TypeId} (hu:P.underlying t=some .bool) {a b:Bool} {p:PV} (h:cv op a b=some p) (ox oy:Operand) :
  ∃ z,((do eqGuard op t ox oy (.bool a) (.bool b);Go.binOp op t (.bool a) (.bool b)):Sem Value).run P w=.ok z w∧RP G.I p z:=by
 have he:=run_equalIn_bool' w 9999 t a b hu
 cases op<;>simp only[cv] at h
 case eql =>
  cases h
  refine⟨.bool (a==b),?_,.bool _⟩
  have hg:(eqGuard .eql t ox oy (.bool a) (.bool b)).run P w=.ok () w:=rfl
  have hb:(Go.binOp .eql t (.bool a) (.bool b))=(do pure (.bool (←Op.equal t (.bool a) (.bool b)))):=rfl
  simp only[Sem.run_bind,hg,Result.andThen_ok,hb,Op.equal,Op.maxDepth,he,Sem.run_pure]
 case neq =>
  cases h
  refine⟨.bool !(a==b),?_,.bool _⟩
  have hg:(eqGuard .neq t ox oy (.bool a) (.bool b)).run P w=.ok () w:=rfl
  have hb:(Go.binOp .neq t (.bool a) (.bool b))=(do pure (.bool (!(←Op.equal t (.bool a) (.bool b))))):=rfl
  simp only[Sem.run_bind,hg,Result.andThen_ok,hb,Op.equal,Op.maxDepth,he,Sem.run_pure]
 all_goals cases h
theorem CF {t:TypeId} {l m:List CV} {xs ys:List Value} (hxs:All2 (RN G) l xs) (hys:All2 (RN G) m ys) {a b:List PV} {r:Bool} (ha:pvs l=some a) (hb:pvs m=some b)
  (hr:ir P t a b=some r) (ox oy:Operand) :
  (∀ op,(eqGuard op t ox oy (.agg xs.toArray) (.agg ys.toArray)).run P w=.ok () w)∧(Op.equalIn 10000 t (.agg xs.toArray) (.agg ys.toArray)).run P w=.ok r w:=by
 unfold ir at hr;split at hr
 case h_2=>cases hr
 rename_i fs hu;split at hr
 case isTrue=>cases hr
 rename_i hc;simp only[Bool.or_eq_true,not_or,Bool.not_eq_true] at hc;have hfo:P.fieldsOf t=fs:=by simp[Program.fieldsOf,hu]
 refine⟨fun op=>run_eqGuard_agg w op t ox oy _ _ hc.1,?_⟩
 rw[run_equalIn_agg w 9999 t _ _ (by rw[hfo];exact hu) hc.2,hfo]
 exact mH 9998 _ 0 _ _ _ _ _ _ _ hr (kz ha hxs) (kz hb hys) (fun j z hz=>by simpa using hz) (fun j z hz=>by simpa using hz)
theorem ptrT {t:TypeId} (ht:mr P t=true):∃ e,P.underlying t=some (.pointer e):=by
 unfold mr at ht;split at ht
 ·rename_i e he;exact⟨e,he⟩
 ·cases ht
theorem Dq {t:TypeId} (ht:qQ P t=true):P.underlying t=some .bool:=by
 unfold qQ at ht;split at ht
 ·rename_i he;exact he
 ·cases ht
theorem Dl {op:BinOp} {t:TypeId} {X Y:AV} {p:PV} {x y:Value} {ℓ ℓ':Own} (h:cQ P op t X Y=some p) (hx:RA G w ℓ X x) (hy:RA G w ℓ' Y y) (ox oy:Operand) :
    ∃ z,((do eqGuard op t ox oy x y;binOp op t x y):Sem Value).run P w=.ok z w∧RP G.I p z:=by
  unfold cQ at h;split at h
  · rename_i k a k' b;cases hx.intv;cases hy.intv;split at h
    case isFalse=>cases h
    rename_i hk;subst hk;have hg:(eqGuard op t ox oy (.int k a) (.int k b)).run P w=.ok () w:=by cases op<;>rfl
    simp only[Sem.run_bind,hg,Result.andThen_ok];exact Cz h
  · rename_i a b;cases hx.strv;cases hy.strv;have hg:(eqGuard op t ox oy (.string (ByteArray.mk a.toArray)) (.string (ByteArray.mk b.toArray))).run P w=.ok () w:=by cases op<;>rfl
    simp only[Sem.run_bind,hg,Result.andThen_ok];exact Di h
  · cases hx.boolv;cases hy.boolv
    split at h
    case isFalse=>cases h
    rename_i ht;exact BC (Dq ht) h ox oy
  · have e1:x=.pointer none:=hx
    have e2:y=.pointer none:=hy
    subst e1;subst e2;split at h
    case isFalse=>cases h
    rename_i ht;obtain⟨e,hu⟩:=ptrT ht;exact uA hu h (.inl ⟨rfl,rfl,rfl⟩) ox oy
  · obtain⟨b,_,e1⟩:∃ b,G.bb _=some b∧x=.pointer (some ⟨b,_,none⟩):=hx
    have e2:y=.pointer none:=hy
    subst e1;subst e2;split at h
    case isFalse=>cases h
    rename_i ht;obtain⟨e,hu⟩:=ptrT ht;exact uA hu h (.inr (.inl ⟨rfl,rfl,rfl⟩)) ox oy
  · obtain⟨b,_,e2⟩:∃ b,G.bb _=some b∧y=.pointer (some ⟨b,_,none⟩):=hy
    have e1:x=.pointer none:=hx
    subst e1;subst e2;split at h
    case isFalse=>cases h
    rename_i ht;obtain⟨e,hu⟩:=ptrT ht;exact uA hu h (.inr (.inr ⟨rfl,rfl,rfl⟩)) ox oy
  · rename_i l m;obtain⟨xs,rfl,hxs⟩:=hx;obtain⟨ys,rfl,hys⟩:=hy;have main : ∀ op', (match pvs l, pvs m with
       | some a,some b=>(match ir P t a b with|some r=>cq op' r|none=>none)
       | _,_=>none)=some p→∃ r,cq op' r=some p∧(eqGuard op' t ox oy (.agg xs.toArray) (.agg ys.toArray)).run P w=.ok () w∧(Op.equalIn 10000 t (.agg xs.toArray) (.agg ys.toArray)).run P w=.ok r w:=fun op' h=>by
      split at h
      case h_2=>cases h
      rename_i a b ha hb;split at h
      case h_2=>cases h
      rename_i r hr;obtain⟨hg,he⟩:=CF (P:=P) (w:=w) hxs hys ha hb hr ox oy;exact⟨r,h,hg op',he⟩
    split at h
    · obtain⟨r,hr,hg,he⟩:=main .eql h;simp only[cq] at hr;cases hr;refine⟨.bool r,?_,.bool _⟩
      simp only[Sem.run_bind,hg,Result.andThen_ok];rw[run_eql_struct,he,Result.andThen_ok]
    · obtain⟨r,hr,hg,he⟩:=main .neq h;simp only[cq] at hr;cases hr;refine⟨.bool !r,?_,.bool _⟩
      simp only[Sem.run_bind,hg,Result.andThen_ok];rw[run_neq_struct,he,Result.andThen_ok]
    · cases h
  · cases h
theorem Dp {op:UnOp} {X:AV} {p:PV} {x:Value} {ℓ:Own} (h:dS op X=some p) (hx:RA G w ℓ X x) :
  ∃ z,(Op.unary op x).run P w=.ok z w∧RP G.I p z:=by
 unfold dS at h;split at h
 ·cases hx.boolv
  split at h<;>cases h
  exact⟨_,by simp[Op.unary],.bool _⟩
 ·cases hx.intv
  split at h<;>cases h
  exact⟨_,by simp[Op.unary,Op.intArith],.int _ _⟩
 ·cases h
theorem zU {t:TypeId} {X Y v:AV} {x y:Value} {ℓ ℓ':Own} (h:jA P t X Y=some v) (hx:RA G w ℓ X x) (hy:RA G w ℓ' Y y) :
  ∃ z,(Instr.index t x y).run P w=.ok z w∧∃ p,v=.c (.pv p)∧RP G.I p z:=by
 unfold jA at h;split at h
 case h_2=>cases h
 rename_i s k i;cases hx.strv;cases hy.intv;split at h
 case h_2=>cases h
 rename_i hu;split at h
 case isFalse=>cases h
 rename_i h0;split at h
 case h_2=>cases h
 rename_i b hb;cases h;refine⟨.int .u8 b.toNat,?_,_,rfl,.int _ _⟩
 obtain⟨hlt,hb'⟩:=List.getElem?_eq_some_iff.1 hb
 have hsz:(ByteArray.mk s.toArray).size=s.length:=by simp[ByteArray.size]
 rw[run_index_string w t _ k i hu,dif_pos ⟨h0,by rw[hsz];omega⟩]
 simp only[←hb'];rfl
def RO (G:Gh) (w:World):Option AV→Option Value→Prop
 | none,none=>True
 | some X,some x=>∃ ℓ,RA G w ℓ X x
 | _,_=>False
theorem sL {y y' d n:Nat} {X:Option AV} {x:Option Value} (h:bound y X d=some n) (hx:RO G w X x) (hd:d≤y) (hy:y≤y') (code:BoundsCode) :
  ((match x with|some v=>Instr.sliceBound v y' code|none=>pure d:Sem Nat)).run P w=.ok n w∧n≤y:=by
 unfold bound at h;split at h
 ·cases h
  cases x with
  | none=>exact⟨rfl,hd⟩
  | some _=>exact False.elim hx
 ·cases x with
  | none=>exact False.elim hx
  | some x =>
   obtain⟨ℓ,hx⟩:=hx;cases RA.intv hx;split at h
   case isFalse=>cases h
   rename_i hi;cases h;exact⟨run_sliceBound w _ _ _ _ hi.1 (by omega),by omega⟩
 ·cases h
theorem pO {sl:Bool} {len cap n m:Nat} {lo hi:Option AV} {lo' hi':Option Value} (h1:bound len hi len=some n) (h2:bound n lo 0=some m) (hc:len≤cap)
  (hl:RO G w lo lo') (hh:RO G w hi hi'):(Instr.sliceBounds sl len cap lo' hi' none).run P w=.ok (m,n,cap) w∧m≤n∧n≤len:=by
 obtain⟨r1,b1⟩:=sL (P:=P) h1 hh (Nat.le_refl _) hc (if sl then .sliceAcap else .sliceAlen)
 obtain⟨r2,b2⟩:=sL (P:=P) h2 hl (Nat.zero_le _) (Nat.le_refl _) .sliceB;refine⟨?_,b2,b1⟩
 unfold Instr.sliceBounds;cases hi' with
 | none =>
  have e:len=n:=by simpa using r1
  subst e;cases lo' with
  | none =>
   have e:0=m:=by simpa using r2
   subst e;simp
  | some v =>
   simp only[] at r2
   simp[r2]
 | some u =>
  simp only[] at r1
  cases lo' with
  | none =>
   have e:0=m:=by simpa using r2
   subst e;simp[r1]
  | some v =>
   simp only[] at r2
   simp[r1,r2]
theorem gi {X:AV} {c:List (List PV)} {x:Value} {ℓ:Own} (h:content X=some c) (hx:RA G w ℓ X x):RP G.I (.sl c) x:=by
 unfold content at h;split at h
 ·cases h;exact hx
 ·cases h;exact OwnAt.rp hx
 ·cases h;exact hx.1
 ·cases h
  have:x=.slice none 0 0:=hx
  subst this;exact .sl0 _ _
 ·cases h
theorem Seg.sub {I:Nat→Nat→Option Value} {b o sz:Nat} {c:List (List PV)} (h:Seg I b o sz c) (l n:Nat):Seg I b (o+l*sz) sz ((c.take n).drop l):=by
 intro i el j p hi hj;rw[List.getElem?_drop,List.getElem?_take] at hi
 split at hi
 case isFalse=>cases hi
 obtain⟨y,h1,h2⟩:=h (l+i) el j p hi hj;refine⟨y,?_,h2⟩
 rw[←h1];congr 1;rw[Nat.add_mul];omega
theorem oB {t:TypeId} {X:AV} {lo hi mx:Option AV} {v:AV} {x:Value} {lo' hi' mx':Option Value} {ℓ:Own} (h:dW P t X lo hi mx=some v)
  (hx:RA G w ℓ X x) (hl:RO G w lo lo') (hh:RO G w hi hi') (hm:RO G w mx mx') :
  ∃ z,(Instr.sliceAt t x lo' hi' mx').run P w=.ok z w∧∃ p,v=.c (.pv p)∧RP G.I p z:=by
 unfold dW at h;split at h
 ·rename_i hu;have em:mx'=none:=by cases mx' with|none=>rfl|some _=>exact False.elim hm
  subst em;split at h
  case h_2=>cases h
  rename_i s;cases hx.strv;split at h
  case h_2=>cases h
  rename_i n hn;split at h
  case h_2=>cases h
  rename_i m hm';cases h;have hsz:(ByteArray.mk s.toArray).size=s.length:=by simp[ByteArray.size]
  obtain⟨hb,_,_⟩:=pO (P:=P) (sl:=false) hn hm' (Nat.le_refl _) hl hh;refine⟨.string (ByteArray.mk ((s.take n).drop m).toArray),?_,_,rfl,.str _⟩
  rw[run_sliceAt_string w t _ _ _ _ hu];have e:(ByteArray.mk s.toArray).extract m n=ByteArray.mk ((s.take n).drop m).toArray:=by
   rw[ByteArray.extract_mk,List.drop_take]
  simp[Instr.slice,run_underlying hu,hsz,hb,e]
 ·rename_i e hu;have em:mx'=none:=by cases mx' with|none=>rfl|some _=>exact False.elim hm
  subst em;split at h
  case h_2=>cases h
  rename_i c hc;split at h
  case h_2=>cases h
  rename_i n hn;split at h
  case h_2=>cases h
  rename_i m hm';split at h
  case isFalse=>cases h
  rename_i hall;cases h;have hrp:=gi hc hx
  obtain⟨a,cap,rfl,hcap,hne⟩:=hrp.slice_inv;obtain⟨hb,hmn,hnl⟩:=pO (P:=P) (sl:=true) hn hm' hcap hl hh;have hel:P.elem t=e:=by simp[Program.elem,hu]
  cases hn':szOf P e with
  | none=>rw[hn'] at hall;cases hall
  | some sz' =>
  rw[hn'] at hall;have hsize:(sizeOf (P.elem t)).run P w=.ok sz' w:=by rw[hel];exact cT hn'
  have hlen:((c.take n).drop m).length=n - m:=by simp;omega
  refine⟨sliced a m n cap sz',?_,_,rfl,?_⟩
  ·rw[run_sliceAt_slice w t _ _ _ _ (by rw[hel];exact hu),run_slice_any w t a c.length cap (by rw[hel];exact hu),hb,Result.andThen_ok,hsize,Result.andThen_ok]
  ·unfold sliced;by_cases hemp:(c.take n).drop m=[]
   ·have:n - m=0:=by rw[←hlen,hemp];rfl
    rw[hemp,this];exact .sl0 _ _
   ·have hc0:c≠[]:=fun e=>hemp (by simp[e])
    obtain⟨b,o,sz,rfl,hsz,hseg⟩:=hne hc0;have hpos:0<n - m:=by rw[←hlen];exact List.length_pos_iff.2 hemp
    have hcm:cap≠m:=by omega
    rw[if_neg hcm];have hszz:sz=sz':=by
     cases c with
     | nil=>exact absurd rfl hc0
     | cons el c =>
      simp only[Option.any_some,List.all_cons,Bool.and_eq_true,beq_iff_eq] at hall;rw[←hsz el (by simp)];exact hall.1
    subst hszz;have hadd:(Option.map (fun x=>Addr.add x (m*sz)) (some (⟨b,o,none⟩:Addr)))=some ⟨b,o+m*sz,none⟩:=by
     simp only[Option.map_some,Addr.add];split<;>simp_all
    rw[hadd,←hlen];exact .of_seg (by rw[hlen];omega) (fun el hel=>hsz el (List.mem_of_mem_take (List.mem_of_mem_drop hel))) (hseg.sub m n)
 ·cases h
end
end Go.Abs
namespace Go.Abs
open Go
section
variable {P:Program} {G:Gh} {w:World}
theorem zJ {src dst:TypeId} {k k':IntKind} {n:Int} {x:Value} (hs:∃ d,P.underlying src=some d) (hd:P.underlying dst=some (.int k)) (hx:x=.int k' n) :
  (Go.convert src dst x).run P w=.ok (.int k (k.wrap n)) w:=by
 obtain⟨d,hs⟩:=hs;subst hx;simp only[Go.convert,Sem.run_bind,run_underlying hs,run_underlying hd,Result.andThen_ok];cases d<;>rfl
theorem yj {src dst:TypeId} {s:ByteArray} (hs:∃ d,P.underlying src=some d) (hd:P.underlying dst=some .string) :
  (Go.convert src dst (.string s)).run P w=.ok (.string s) w:=by
 obtain⟨d,hs⟩:=hs;simp only[Go.convert,Sem.run_bind,run_underlying hs,run_underlying hd,Result.andThen_ok];cases d<;>rfl
theorem pB {t:TypeId} {X I v:AV} {x i:Value} {ℓ ℓ':Own} (h:eI P t X I=some v) (hx:RA G w ℓ X x) (hi:RA G w ℓ' I i) :
  ∃ z,(Instr.indexAt t x i).run P w=.ok z w∧∃ l,v=.c (.cptr l)∧RN G (.cptr l) z:=by
 unfold eI at h;split at h
 case h_2=>cases h
 rename_i e c k n hu hc;cases hi.intv;split at h
 case isFalse=>cases h
 rename_i h0;split at h
 case h_2=>cases h
 rename_i el hel;split at h
 case isFalse=>cases h
 rename_i hsz;cases h;obtain⟨a,cap,rfl,hcap,hne⟩:=(gi hc hx).slice_inv;have hc0:c≠[]:=fun e=>by simp[e] at hel
 obtain⟨b,o,sz,rfl,hszs,hseg⟩:=hne hc0;have hlt:n.toNat<c.length:=(List.getElem?_eq_some_iff.1 hel).1
 have hmem:el∈c:=List.mem_of_getElem? hel
 have hs2:szOf P e=some sz:=by rw[hsz,hszs el hmem]
 refine⟨.pointer (some ⟨b,o+n.toNat*sz,none⟩),?_,el,rfl,b,o+n.toNat*sz,rfl,?_⟩
 ·have hin:0≤n∧n<(c.length:Int):=⟨h0,by omega⟩
  have hadd:(⟨b,o,none⟩:Addr).add (n.toNat*sz)=⟨b,o+n.toNat*sz,none⟩:=by
   simp only[Addr.add];split<;>simp_all
  simp only[Instr.indexAt,Sem.run_bind,asIntOf,Sem.run_pure,run_underlying hu,Result.andThen_ok,Sem.run_ite];rw[if_pos hin];simp[cT hs2,hadd]
 ·intro j p hp;obtain⟨y,h1,h2⟩:=hseg n.toNat el j p hel hp;exact⟨y,by rw[←h1];congr 1;omega,h2⟩
theorem qH {t:TypeId} {X I v:AV} {x i:Value} {ℓ ℓ':Own} (h:ey P t X I=some v) (hx:RA G w ℓ X x) (hi:RA G w ℓ' I i) :
  ∃ z,(Instr.indexAt t x i).run P w=.ok z w∧∃ u,v=.c u∧RN G u z:=by
 unfold ey at h;split at h
 ·rename_i n e s off kk k hu;cases hi.intv;split at h
  case isFalse=>cases h
  rename_i h0;split at h
  case h_2=>cases h
  rename_i sz hsz;cases h;obtain⟨b,hb,rfl⟩:∃ b,G.bb s=some b∧x=.pointer (some ⟨b,off,none⟩):=hx
  have hadd:(⟨b,off,none⟩:Addr).add (k.toNat*sz)=⟨b,off+k.toNat*sz,none⟩:=by
   simp only[Addr.add];split<;>simp_all
  refine⟨.pointer (some ⟨b,off+k.toNat*sz,none⟩),?_,_,rfl,b,hb,rfl⟩
  simp only[Instr.indexAt,Sem.run_bind,asIntOf,Instr.sureAddr,Sem.run_pure,run_underlying hu,Result.andThen_ok,Sem.run_ite];rw[if_pos h0];simp[cT hsz,hadd]
 ·cases h
 ·obtain⟨z,h1,l,h2,h3⟩:=pB h hx hi;exact⟨z,h1,_,h2,h3⟩
theorem lg {t:TypeId} {X v:AV} {f:Nat} {x:Value} {ℓ:Own} (h:ar P t X f=some v) (hx:RA G w ℓ X x) :
  ∃ z,(Instr.fieldAt t x f).run P w=.ok z w∧∃ u,v=.c u∧u.plain=true∧u≠.top∧RN G u z:=by
 unfold ar at h;split at h
 case h_2=>cases h
 rename_i o ft hf;unfold bl at hf;split at hf
 case h_2=>cases hf
 rename_i fs hu;simp only[Option.map_eq_some_iff,Prod.mk.injEq] at hf;obtain⟨fd,hfd,rfl,rfl⟩:=hf;split at h
 case h_2=>cases h
 rename_i n hs;have main:∀ b off,(Instr.fieldAt t (.pointer (some ⟨b,off,none⟩)) f).run P w=.ok (.pointer (some ⟨b,off+fd.offset,none⟩)) w:=fun b off=>by
  have hadd:(⟨b,off,none⟩:Addr).add fd.offset=⟨b,off+fd.offset,none⟩:=by
   simp only[Addr.add];split<;>simp_all
  simp[Instr.fieldAt,run_underlying hu,hfd,Instr.sureAddr,fieldPlace,cT hs,hadd]
 split at h
 ·rename_i s off;cases h;obtain⟨b,hb,rfl⟩:∃ b,G.bb s=some b∧x=.pointer (some ⟨b,off,none⟩):=hx
  exact⟨_,main b off,_,rfl,rfl,by simp,b,hb,rfl⟩
 ·rename_i l;cases h;obtain⟨b,off,rfl,hl⟩:∃ b o,x=.pointer (some ⟨b,o,none⟩)∧∀ (j:Nat) (p:PV),l[j]? = some p→∃ y,G.I b (o+j)=some y∧RP G.I p y:=hx
  refine⟨_,main b off,_,rfl,rfl,by simp,b,off+fd.offset,rfl,fun j p hp => ?_⟩
  rw[List.getElem?_drop] at hp
  obtain⟨y,h1,h2⟩:=hl _ p hp;exact⟨y,by rw[←h1];congr 1;omega,h2⟩
 ·cases h
theorem iC {t:TypeId} {r:Option Nat} (h:cA P t=some r) :
  ∃ d n,P.underlying t=some d∧szOf P t=some n∧(isAgg t).run P w=.ok r.isSome w∧(∀ m,r=some m→m=n):=by
 unfold cA at h;split at h
 ·rename_i fs n hu hs;cases h;exact⟨_,_,hu,hs,by simp[isAgg,run_underlying hu],fun m hm=>by cases hm;rfl⟩
 ·rename_i l e n hu hs;cases h;exact⟨_,_,hu,hs,by simp[isAgg,run_underlying hu],fun m hm=>by cases hm;rfl⟩
 ·rename_i d n hn1 hn2 hu hs;cases h;refine⟨_,_,hu,hs,?_,fun m hm=>by cases hm⟩
  cases d<;>simp[isAgg,run_underlying hu]
  ·exact(hn2 _ _ rfl).elim
  ·exact(hn1 _ rfl).elim
 ·cases h
theorem qI (vs:List Value) (o n:Nat):vs.toArray.extract o (o+n)=((vs.drop o).take n).toArray:=by
 apply Array.ext'
 simp[List.extract_eq_take_drop]
theorem zN {t:TypeId} {X v:AV} {f:Nat} {x:Value} {ℓ ℓ':Own} (h:bK P t X f=some v) (hx:RA G w ℓ X x) :
  ∃ z,(Instr.field t x f).run P w=.ok z w∧bC v=false∧RA G w ℓ' v z:=by
 unfold bK at h;split at h
 case h_2=>cases h
 rename_i o ft l hf;unfold bl at hf;split at hf
 case h_2=>cases hf
 rename_i fs hu;simp only[Option.map_eq_some_iff,Prod.mk.injEq] at hf;obtain⟨fd,hfd,rfl,rfl⟩:=hf;obtain⟨vs,rfl,hvs⟩:=hx;split at h
 ·rename_i n hs;split at h
  case isFalse=>cases h
  cases h
  obtain⟨d,n',hd,hsz,ha,hn⟩:=iC (w:=w) hs;cases hn n rfl;refine⟨.agg ((vs.drop fd.offset).take n).toArray,?_,rfl,_,rfl,(hvs.drop _).take _⟩
  simp only[Instr.field,Sem.run_bind,run_underlying hu,Result.andThen_ok,hfd,asAgg,Sem.run_pure,part,ha,Option.isSome_some,if_true,cT hsz];rw[qI]
 ·rename_i hs;obtain⟨d,n',hd,hsz,ha,hn⟩:=iC (w:=w) hs;split at h
  case h_2=>cases h
  rename_i u hu';split at h
  case isFalse=>cases h
  rename_i hp;cases h;obtain⟨y,hy,hry⟩:=hvs.get hu';refine⟨y,?_,(by cases u<;>first|rfl|cases hp),.of_RN hry⟩
  simp[Instr.field,run_underlying hu,hfd,asAgg,part,ha,hy]
 ·cases h
theorem vl {X v:AV} {i:Nat} {x:Value} {ℓ ℓ':Own} (h:aQ X i=some v) (hx:RA G w ℓ X x) :
  ∃ z,(Instr.extract x i).run P w=.ok z w∧RA G w ℓ' v z∧bC v=false:=by
 unfold aQ at h;split at h
 case h_2=>cases h
 rename_i l j;simp only[Option.map_eq_some_iff] at h;obtain⟨tv,htv,rfl⟩:=h;obtain⟨vs,rfl,hvs⟩:=hx;obtain⟨y,hy,hry⟩:=hvs.get htv;refine⟨y,by simp[Instr.extract,hy],.of_RT hry,?_⟩
 cases tv with
 | c v=>cases v<;>first|rfl|exact False.elim hry
 | agg l=>rfl
theorem ic {x:Value} (h:x.oneCell'=true):x.cells=#[x]:=by
 cases x<;>first|rfl|cases h
theorem iU {v:AV} {vs:List CV} {x:Value} {ℓ:Own} (h:az v=some vs) (hv:bC v=false) (hx:RA G w ℓ v x) :
  ∃ xs:List Value,x.cells=xs.toArray∧All2 (RN G) vs xs:=by
 unfold az at h;split at h
 ·cases h
 ·cases h
 ·cases h
 ·cases h
 ·rename_i u hu _ _ _;cases h;have hr:RN G u x:=(hx.toRC (fun e=>hu e)).to_RN (by cases u<;>first|rfl|cases hv)
  exact⟨[x],(by rw[ic hr.one]),.cons hr .nil⟩
 ·split at h
  case isFalse=>cases h
  cases h
  obtain⟨xs,rfl,hxs⟩:=hx;exact⟨xs,rfl,hxs⟩
 ·cases h
theorem sS:∀ (vs:List Value) (off k:Nat) (cs:Array Value),off+k+vs.length≤cs.size →
  (vs.zipIdx k).foldl (fun cs (x:Value×Nat)=>cs.setIfInBounds (off+x.2) x.1) cs=(cs.toList.take (off+k)++vs++cs.toList.drop (off+k+vs.length)).toArray
 | [],off,k,cs,_=>by simp
 | v::vs,off,k,cs,h=>by
  simp only[List.zipIdx_cons,List.foldl_cons];rw[sS vs off (k+1) _ (by simp at h ⊢;omega)]
  congr 1
  have hl:off+k<cs.toList.length:=by simp at h ⊢;omega
  simp only[Array.toList_setIfInBounds];have e1:(cs.toList.set (off+k) v).take (off+(k+1))=cs.toList.take (off+k)++[v]:=by
   rw[List.set_eq_take_append_cons_drop,if_pos hl,List.take_append,List.length_take,Nat.min_eq_left (Nat.le_of_lt hl)];have:off+(k+1) - (off+k)=1:=by omega
   rw[this,List.take_of_length_le (by simp;omega)]
   rfl
  have e2:(cs.toList.set (off+k) v).drop (off+(k+1)+vs.length)=cs.toList.drop (off+k+(v::vs).length):=by
   rw[List.drop_set_of_lt (by omega)]
   congr 1
   simp;omega
  rw[e1,e2];simp
theorem ve {R:CV→Value→Prop} {l:List CV} {m:List Value} {vs:List CV} {xs:List Value} {off:Nat} (h:All2 R l m) (k:All2 R vs xs) :
  All2 R (bV l off vs) (m.take off++xs++m.drop (off+xs.length)):=by
 unfold bV;rw[←k.length];exact((h.take off).append k).append (h.drop _)
def RPart (G:Gh) (w:World) (p:Nat×AV) (q:Nat×Value):Prop:=p.1=q.1∧∃ ℓ,RA G w ℓ p.2 q.2
theorem nk {place place':Nat→Option (Nat×Nat)} (hpl:∀ i,place i=place' i):∀ {parts:List (Nat×AV)} {parts':List (Nat×Value)} {cells l:List CV} {cs:Array Value},
  aD place cells parts=some l→All2 (RPart G w) parts parts'→All2 (RN G) cells cs.toList→∃ cs',Instr.fill place' cs parts'=some cs'∧All2 (RN G) l cs'.toList
 | [],_,cells,l,cs,h,.nil,hc=>by simp[aD] at h;subst h;exact⟨cs,rfl,hc⟩
 | (i,v)::parts,(j,x)::parts',cells,l,cs,h,.cons hp hps,hc=>by
  obtain⟨rfl,ℓ,hx⟩:=hp;unfold aD at h;split at h
  case h_2=>cases h
  rename_i off size vs hpi hvs;split at h
  case isFalse=>cases h
  rename_i hsz;obtain⟨xs,hxc,hxs⟩:=iU hvs (gc v) (hx.deg (ℓ':=ℓ));have hlen:=hxs.length
  have hcl:=hc.length
  simp only[Array.length_toList] at hcl;have hsize:x.cells.size=xs.length:=by rw[hxc];simp
  have hfit:off+0+xs.length≤cs.size:=by omega
  have hfold:=sS xs off 0 cs hfit
  have hstep:x.cells.zipIdx.foldl (fun cs (c:Value×Nat)=>cs.setIfInBounds (off+c.2) c.1) cs=(cs.toList.take off++xs++cs.toList.drop (off+xs.length)).toArray:=by
   rw[hxc]
   simpa using hfold
  obtain⟨cs',h1,h2⟩:=nk hpl (cs:=(cs.toList.take off++xs++cs.toList.drop (off+xs.length)).toArray) h hps (by simpa using ve hc hxs)
  refine⟨cs',?_,h2⟩
  unfold Instr.fill;rw[←hpl i,hpi];simp only;rw[if_neg (by simp;omega)]
  rw[←h1]
  congr 1
theorem fK {t:TypeId} {l:List CV} (h:zeroCells P t=some l) :
  ∃ i z,P.info? t=some i∧i.zero=some z∧(zeroValue t).run P w=.ok z w∧l.length=z.cells.size∧All2 (RN G) l z.cells.toList:=by
 unfold zeroCells at h;split at h
 case h_2=>cases h
 rename_i i hi;split at h
 case h_2=>cases h
 rename_i z hz;split at h
 case isFalse=>cases h
 rename_i hall;cases h;refine⟨i,z,hi,hz,by simp[zeroValue,typeInfo,hi,hz],by simp,All2.cV (oT G _ hall)⟩
theorem zY {t:TypeId} {parts:List (Nat×AV)} {parts':Array (Nat×Value)} {v:AV} {ℓ:Own} (h:jF P t parts=some v) (hp:All2 (RPart G w) parts parts'.toList) :
  ∃ z,(Instr.build t parts').run P w=.ok z w∧bC v=false∧RA G w ℓ v z:=by
 unfold jF at h;split at h
 ·rename_i zl fs hz hu;split at h
  case h_2=>cases h
  rename_i places hpl;split at h
  case h_2=>cases h
  rename_i l hl;cases h;obtain⟨i,z,hi,hzz,_,_,hcells⟩:=fK (G:=G) (w:=w) hz;obtain⟨cs',h1,h2⟩:=nk (place':=fun i=>places.toArray[i]?) (fun i=>by simp) hl hp hcells
  refine⟨.agg cs',?_,rfl,cs'.toList,by simp,h2⟩
  apply run_build
  unfold Program.built;simp only[hi,hu];simp only[hzz,hpl];exact h1
 ·rename_i zl n e hz hu;split at h
  case h_2=>cases h
  rename_i k hk;split at h
  case h_2=>cases h
  rename_i l hl;cases h;obtain⟨i,z,hi,hzz,_,_,hcells⟩:=fK (G:=G) (w:=w) hz;obtain⟨cs',h1,h2⟩:=nk (place':=fun i=>some (i*k,k)) (fun i=>rfl) hl hp hcells
  refine⟨.agg cs',?_,rfl,cs'.toList,by simp,h2⟩
  apply run_build
  unfold szOf at hk;obtain⟨ie,hie,rfl⟩:∃ ie,P.info? e=some ie∧ie.size=k:=by
   cases hi:P.info? e with
   | none=>simp[hi] at hk
   | some i=>simp[hi] at hk;exact⟨i,rfl,hk⟩
  unfold Program.built;simp only[hi,hu];simp only[hzz,hie];exact h1
 ·cases h
theorem CB {v:CV} {p:PV} {x:Value} (h:v.pv? = some p) {ℓ:Own} (hx:RC G w ℓ v x):RP G.I p x:=by
 cases v<;>simp[CV.pv?] at h<;>subst h
 ·exact hx
 ·exact OwnAt.rp hx
 ·have e:x=.slice none 0 0:=hx
  subst e;exact .sl0 _ _
 ·exact hx.1
theorem kv {t:TypeId} (h:io P t=true):∃ d,P.underlying t=some d∧∀ ms,d≠.interface ms:=by
 unfold io at h;split at h
 ·cases h
 ·cases h
 ·rename_i h1 h2;cases hd:P.underlying t with
  | none=>exact(h1 hd).elim
  | some d=>exact⟨d,rfl,fun ms e=>h2 ms (by rw[hd,e])⟩
theorem uO {t:TypeId} {X v:AV} {x:Value} {ℓ ℓ':Own} (h:aP P t X=some v) (hx:RA G w ℓ X x) :
  ∃ z,(Instr.makeInterface t x).run P w=.ok z w∧bC v=false∧RA G w ℓ' v z:=by
 unfold aP at h;split at h
 case isFalse=>cases h
 rename_i hc;obtain⟨d,hd,hn⟩:=kv hc;have hrun:(Instr.makeInterface t x).run P w=.ok (.iface t x) w:=by
  unfold Instr.makeInterface;simp only[Sem.run_bind,run_underlying hd,Result.andThen_ok];cases d
  case interface ms=>exact(hn ms rfl).elim
  all_goals rfl
 refine⟨_,hrun,?_⟩
 unfold dV at h;split at h
 ·rename_i u;split at h
  case h_2=>cases h
  rename_i p hp;cases h;have hne:u≠.top:=fun e=>by subst e;simp[CV.pv?] at hp
  exact⟨rfl,RA.of_RN (v:=.pv _) (RP.ifc _ _ _ (CB hp (hx.toRC hne)))⟩
 ·rename_i l;split at h
  case h_2=>cases h
  rename_i ps hps;cases h;obtain⟨xs,rfl,hxs⟩:=hx;have hall:=kz hps hxs
  refine⟨rfl,.of_RN (v:=.pv (.ifa t ps)) ?_⟩
  have e:xs.toArray=((List.range ps.length).map fun j=>xs.getD j default).toArray:=by
   congr 1
   apply List.ext_getElem?
   intro j;have hl:=hall.length
   by_cases hj:j<xs.length
   ·have hj':j<ps.length:=by omega
    simp[hj,hj']
   ·have hj':¬ j<ps.length:=by omega
    simp[hj,hj']
  show RP G.I _ _
  rw[e];exact .ifa t ps _ fun j p hp=>let ⟨y,h1,h2⟩:=hall.get hp;by simpa[h1] using h2
 ·cases h
theorem vC {t:TypeId} {z:TV} (h:oE P t=some z):∃ x,(zeroValue t).run P w=.ok x w∧RT G z x:=by
 unfold oE at h;have hz:∀ v,vh P t=some v→∃ x,(zeroValue t).run P w=.ok x w∧v=avOf x:=fun v hv=>by
  unfold vh at hv;split at hv
  case h_2=>cases hv
  rename_i i hi;split at hv
  case h_2=>cases hv
  rename_i x hx;cases hv;exact⟨x,by simp[zeroValue,typeInfo,hi,hx],rfl⟩
 split at h
 ·cases h
 ·rename_i v hnt hv;cases h;obtain⟨x,h1,h2⟩:=hz _ hv;refine⟨x,h1,?_⟩
  have h3:=nl G w .ret x
  have h4:=jJ x
  rw[←h2] at h3 h4;exact(h3.toRC (fun e=>hnt e)).to_RN (by cases v<;>first|rfl|cases h4)
 ·rename_i l hv;cases h;obtain⟨x,h1,h2⟩:=hz _ hv;have h3:=nl G w .ret x
  rw[←h2] at h3;exact⟨x,h1,h3⟩
 ·cases h
theorem jq {a xT:TypeId} {ok:Bool} {v:AV} {ℓ:Own} (h:bt P a ok=some v) {st dy:Option TypeId} {s:String} :
  ∃ z,(do if ok then pure (.tuple #[←zeroValue a,.bool false]) else runtimePanic (.typeAssertion st dy a s):Sem Value).run P w=.ok z w∧bC v=false∧RA G w ℓ v z:=by
 unfold bt at h;split at h
 case isFalse=>cases h
 rename_i ho;split at h
 case h_2=>cases h
 rename_i z hz;cases h;obtain⟨x,h1,h2⟩:=vC (G:=G) (w:=w) hz;refine⟨.tuple #[x,.bool false],by simp[ho,h1],rfl,[x,.bool false],rfl,.cons h2 (.cons (RP.bool false) .nil)⟩
theorem xp {xT a:TypeId} {ok:Bool} {X v:AV} {x:Value} {ℓ ℓ':Own} (h:bd P a ok X=some v) (hx:RA G w ℓ X x) :
  ∃ z,(Instr.typeAssert x xT a ok).run P w=.ok z w∧bC v=false∧RA G w ℓ' v z:=by
 unfold bd at h;split at h
 case isFalse=>cases h
 rename_i hc;obtain⟨d,hd,hn⟩:=kv hc;have hif:∀ t u,(Instr.typeAssert (.iface t u) xT a ok).run P w =
   (if t = a then (pure (if ok then .tuple #[u, .bool true] else u) : Sem Value) else (do if ok then pure (.tuple #[← zeroValue a, .bool false]) else runtimePanic (.typeAssertion (some xT) (some t) a "") : Sem Value)).run P w := fun t u => by
  unfold Instr.typeAssert;simp only[Sem.run_bind,run_underlying hd,Result.andThen_ok]
 split at h
 ·rename_i t p;have hx':RP G.I (.ifc t p) x:=hx
  cases hx' with
  | ifc _ _ u hu =>
  rw[hif];split at h
  ·rename_i ht;rw[if_pos ht];split at h<;>rename_i ho<;>cases h
   ·exact⟨.tuple #[u,.bool true],(by simp[ho]),rfl,[u,.bool true],rfl,.cons hu (.cons (RP.bool true) .nil)⟩
   ·exact⟨u,by simp[ho],rfl,RA.of_RN (v:=.pv p) hu⟩
  ·rename_i ht;rw[if_neg ht];exact jq (xT:=xT) h
 ·rename_i t l;have hx':RP G.I (.ifa t l) x:=hx
  cases hx' with
  | ifa _ _ f hf =>
  rw[hif];have hall:All2 (RN G) (l.map CV.pv) ((List.range l.length).map f):=All2.cV (All2.mk (by simp) fun i p y hp hy=>by
   have hi:i<l.length:=(List.getElem?_eq_some_iff.1 hp).1
   simp[hi] at hy;subst hy;exact hf i p hp)
  split at h
  ·rename_i ht;rw[if_pos ht];split at h<;>rename_i ho<;>cases h
   ·exact⟨.tuple #[.agg ((List.range l.length).map f).toArray,.bool true],by simp[ho],rfl,[_,.bool true],rfl,.cons ⟨_,rfl,hall⟩ (.cons (RP.bool true) .nil)⟩
   ·exact⟨.agg ((List.range l.length).map f).toArray,by simp[ho],rfl,_,rfl,hall⟩
  ·rename_i ht;rw[if_neg ht];exact jq (xT:=xT) h
 ·have hx':RP G.I .nilifc x:=hx
  cases hx'
  have : (Instr.typeAssert .nilIface xT a ok).run P w = (do if ok then pure (.tuple #[← zeroValue a, .bool false]) else runtimePanic (.typeAssertion (some xT) none a "") : Sem Value).run P w := by
   unfold Instr.typeAssert;simp only[Sem.run_bind,run_underlying hd,Result.andThen_ok]
  rw[this];exact jq (xT:=xT) h
 ·cases h
theorem kE:∀ {k:IntKind} {l:List AV} {m:List Int} {xs:List Value},fW k l=some m→All2 (fun v x=>∃ ℓ,RA G w ℓ v x) l xs→xs=m.map (Value.int k)
 | k,[],m,_,h,.nil=>by simp[fW] at h;subst h;rfl
 | k,v::l,m,x::xs,h,.cons hx hxs=>by
  unfold fW at h;split at h
  ·rename_i heq;cases heq
  ·rename_i k' n l' heq;cases heq;split at h
   case isFalse=>cases h
   rename_i hk;subst hk;simp only[Option.map_eq_some_iff] at h;obtain⟨m',hm,rfl⟩:=h;obtain⟨ℓ,hx⟩:=hx;cases hx.intv;rw[kE hm hxs];rfl
  ·cases h
theorem sx (k:IntKind):∀ (m:List Int) (n:Int),((m.map (Value.int k)).foldlM Builtin.max2 (.int k n)).run P w=.ok (.int k (m.foldl (fun x y=>if y>x then y else x) n)) w
 | [],n=>rfl
 | y::m,n=>by
  simp only[List.map_cons,List.foldlM_cons,Sem.run_bind,List.foldl_cons];have:(Builtin.max2 (.int k n) (.int k y)).run P w=.ok (.int k (if y>n then y else n)) w:=rfl
  rw[this,Result.andThen_ok];exact sx k m _
theorem tj (k:IntKind):∀ (m:List Int) (n:Int),((m.map (Value.int k)).foldlM Builtin.min2 (.int k n)).run P w=.ok (.int k (m.foldl (fun x y=>if y<x then y else x) n)) w
 | [],n=>rfl
 | y::m,n=>by
  simp only[List.map_cons,List.foldlM_cons,Sem.run_bind,List.foldl_cons];have:(Builtin.min2 (.int k n) (.int k y)).run P w=.ok (.int k (if y<n then y else n)) w:=rfl
  rw[this,Result.andThen_ok];exact tj k m _
theorem Db {l:List AV} {p:PV} {xs:List Value} {ts:Array TypeId} {t:TypeId} (h:od l=some p) (hx:All2 (fun v x=>∃ ℓ,RA G w ℓ v x) l xs) :
  ∃ z,(Builtin.max_ ts t xs.toArray).run P w=.ok z w∧RP G.I p z:=by
 unfold od at h;split at h
 case h_2=>cases h
 split at h
 case h_2=>cases h
 rename_i m hm;cases h;cases hx with
 | cons hx hxs =>
 obtain⟨ℓ,hx⟩:=hx;cases hx.intv;rw[kE hm hxs];exact⟨_,sx _ _ _,.int _ _⟩
theorem Dc {l:List AV} {p:PV} {xs:List Value} {ts:Array TypeId} {t:TypeId} (h:lP l=some p) (hx:All2 (fun v x=>∃ ℓ,RA G w ℓ v x) l xs) :
  ∃ z,(Builtin.min_ ts t xs.toArray).run P w=.ok z w∧RP G.I p z:=by
 unfold lP at h;split at h
 case h_2=>cases h
 split at h
 case h_2=>cases h
 rename_i m hm;cases h;cases hx with
 | cons hx hxs =>
 obtain⟨ℓ,hx⟩:=hx;cases hx.intv;rw[kE hm hxs];exact⟨_,tj _ _ _,.int _ _⟩
theorem Da {t ty:TypeId} {X:AV} {p:PV} {x:Value} {ℓ:Own} (h:kA P t X=some p) (hx:RA G w ℓ X x) :
  ∃ z,(Builtin.len_ #[t] ty #[x]).run P w=.ok z w∧RP G.I p z:=by
 unfold kA at h;split at h
 ·rename_i hu;split at h
  case h_2=>cases h
  rename_i s;cases h;cases hx.strv;refine⟨.int .i64 s.length,?_,.int _ _⟩
  rw[run_len_string w t ty _ hu];rfl
 ·rename_i e hu;split at h
  case h_2=>cases h
  rename_i c hc;cases h;obtain⟨a,cap,rfl,_,_⟩:=(gi hc hx).slice_inv;refine⟨.int .i64 c.length,?_,.int _ _⟩
  simp[Builtin.len_,run_underlying hu,goInt]
 ·cases h
end
end Go.Abs
namespace Go.Abs
open Go
structure Step (G:Gh) (w:World) (S:St) (a:Act) (dst:Option Nat) (v:AV) (dg:Option Nat) (bs:List (Nat×List CV)) (x:Value) (G':Gh) (w':World):Prop where
 ext:Ext G w G' w'
 wi:WI G' w'
 val:∀ d,dst=some d→RA G' w' (.slot d) v x
 slot:∀ t,dst≠some t→RA G' w' (.slot t) (if dg=some t then(S.sl t).gv else S.sl t) (a.tmps.getD t undef)
 box:∀ s l,aj S.bx bs s=some l→BoxR G' w' s l
 nob:∀ s,aj S.bx bs s=none→s<LK→G'.bb s=none
section
variable {P:Program} {G G':Gh} {w w':World} {S:St} {a:Act} {dst:Option Nat} {v:AV} {dg:Option Nat} {bs:List (Nat×List CV)} {x:Value}
theorem Act.getD_put (a:Act) (d:Nat) (x:Value) (t:Nat):(a.put (some d) x).tmps.getD t undef=if t=d∧d<a.tmps.size then x else a.tmps.getD t undef:=by
 simp only[Act.put,Array.getD_eq_getD_getElem?,Array.getElem?_setIfInBounds]
 by_cases h:d=t
 ·subst h;by_cases h2:d<a.tmps.size
  ·simp[h2]
  ·simp[h2]
 ·rw[if_neg h,if_neg (fun e=>h e.1.symm)]
theorem Step.frame (h:FR G w S a) (k:Step G w S a dst v dg bs x G' w') {S':St} (hp:((({ S with bx:=aj S.bx bs }:St).degAt dg).put dst v)=some S') :
  FR G' w' S' (a.put dst x):=by
 have key:∀ (sl:Nat→AV),(∀ t,sl t=if dg=some t then(S.sl t).gv else S.sl t) →
   (({ sl:=sl,bx:=aj S.bx bs,nt:=S.nt }:St).put dst v)=some S'→FR G' w' S' (a.put dst x):=fun sl hsl hp=>by
  unfold St.put at hp;cases dst with
  | none =>
   simp at hp;subst hp;exact⟨h.size,fun t=>by show RA G' w' (.slot t) (sl t) _;rw[hsl t];exact k.slot t (by simp),k.box,k.nob⟩
  | some d =>
   simp only at hp;split at hp
   case isFalse=>cases hp
   rename_i hd;simp at hp;subst hp;refine⟨by simp[Act.put,h.size],fun t => ?_,k.box,k.nob⟩
   rw[Act.getD_put];by_cases ht:t=d
   ·subst ht;rw[if_pos ⟨rfl,by rw[h.size];exact hd⟩]
    simp only[upd,if_true];exact k.val _ rfl
   ·rw[if_neg (fun e=>ht e.1)]
    simp only[upd,if_neg ht];rw[hsl t];exact k.slot t (fun e=>ht (by simpa using e.symm))
 cases dg with
 | none=>exact key S.sl (fun t=>by simp) hp
 | some u =>
  refine key (upd S.sl u (S.sl u).gv) (fun t => ?_) hp
  unfold upd;by_cases ht:t=u
  ·subst ht;simp
  ·rw[if_neg ht,if_neg (fun e=>ht (by simpa using e.symm))]
theorem Step.pure (h:FR G w S a) (hw:WI G w) (hv:∀ d,dst=some d→RA G w (.slot d) v x):Step G w S a dst v none [] x G w :=
 ⟨.refl _ _,hw,hv,fun t _=>by simpa using h.slot t,h.box,h.nob⟩
theorem Step.of_gr {ch:Own→Prop} (h:FR G w S a) (hw:WI G w) (g:Gr ch G w G' w') (hw':WI G' w') (hv:∀ d,dst=some d→RA G' w' (.slot d) v x)
  (hs:∀ t,ch (.slot t)→dst=some t∨dg=some t)
  (hb:∀ s l,aj S.bx bs s=some l→(S.bx s=some l∧¬ ch (.box s)∧∀ k, ¬ ch (.cell s k))∨BoxR G' w' s l)
  (hn:∀ s,aj S.bx bs s=none→s<LK→G'.bb s=none)
  (hi:∀ t,dg=some t→(S.sl t).isIter=false:=by intro _ e;cases e):Step G w S a dst v dg bs x G' w' where
 ext:=g.ext
 wi:=hw'
 val:=hv
 slot t ht:=by
  by_cases hd:dg=some t
  ·rw[if_pos hd,CQ (hi t hd)];exact((h.slot t).deg (ℓ':=.ret)).gr_plain g (gc _)
  ·rw[if_neg hd];refine(h.slot t).gr g (fun hc => ?_)
   rcases hs t hc with h1|h1
   ·exact ht h1
   ·exact hd h1
 box s l hl:=by
  rcases hb s l hl with⟨h1,h2,h3⟩|h1
  ·exact(h.box s l h1).gr hw g h2 h3
  ·exact h1
 nob:=hn
def Gh.give (G:Gh) (b:Nat) (ℓ:Own):Gh := { G with ow:=upd G.ow b (some ℓ) }
theorem rJ {ℓ ℓ':Own} {b:Nat} (hw:WI G w) (ho:G.ow b=some ℓ) (hℓ:∀ s,ℓ≠.box s) (hℓ':∀ s,ℓ'≠.box s):Gr (fun o=>o=ℓ) G w (G.give b ℓ') w∧WI (G.give b ℓ') w:=by
 have hlt:b<w.heap.size:=by
  rcases Nat.lt_or_ge b w.heap.size with h|h
  ·exact h
  ·have:=(hw.fresh b h).2;rw[ho] at this;cases this
 refine⟨⟨⟨fun _ _ _ h=>h,fun c _ hc=>⟨?_,rfl,fun _=>rfl⟩,Nat.le_refl _,rfl,rfl,rfl,fun _ _=>rfl⟩,fun _ _ h=>h,fun c m hm hne=>⟨?_,rfl,fun _=>rfl⟩⟩,⟨hw.cell,fun c hc=>⟨(hw.fresh c hc).1,?_⟩,fun c s hs => ?_,fun s c hs => ?_,hw.tab.map fun c _ hc=>⟨by show upd G.ow b _ c=none;unfold upd;rw[if_neg (fun e=>by rw[e,ho] at hc;cases hc)];exact hc,rfl⟩⟩⟩
 ·show upd G.ow b _ c=none
  unfold upd;rw[if_neg (fun e=>by rw[e,ho] at hc;cases hc)];exact hc
 ·show upd G.ow b _ c=some m
  unfold upd;rw[if_neg (fun e=>hne (by rw[e,ho] at hm;exact(Option.some.inj hm).symm))];exact hm
 ·show upd G.ow b _ c=none
  unfold upd;rw[if_neg (by omega)];exact(hw.fresh c hc).2
 ·have hs':upd G.ow b (some ℓ') c=some (.box s):=hs
  unfold upd at hs';split at hs'
  ·exact absurd (Option.some.inj hs') (hℓ' s)
  ·exact hw.boxI c s hs'
 ·show upd G.ow b _ c=_
  have h1:=hw.bbow s c hs
  unfold upd;rw[if_neg (fun e=>by rw[e,ho] at h1;exact hℓ s (Option.some.inj h1))];exact h1
theorem iq {ℓ ℓ':Own} {e:TypeId} {c:List (List PV)} (hw:WI G w) (h:OwnAt G w ℓ e c x) (hℓ:∀ s,ℓ≠.box s) (hℓ':∀ s,ℓ'≠.box s) :
  ∃ G',Gr (fun o=>o=ℓ) G w G' w∧WI G' w∧OwnAt G' w ℓ' e c x∧G'.bb=G.bb:=by
 rcases h with h|⟨hne,b,cap,cur,sz,h1,h2,h3,h4,h5,h6,h7,h8,h9⟩
 ·obtain⟨h1,ad,h2,h3⟩:=h;rcases h3 with h3|⟨b,cur,e,h3,h4,h5⟩
  ·exact⟨G,⟨.refl _ _,fun _ _ h=>h,fun _ _ h _=>⟨h,rfl,fun _=>rfl⟩⟩,hw,.inl ⟨h1,ad,h2,.inl h3⟩,rfl⟩
  ·obtain⟨g,hw'⟩:=rJ (ℓ':=ℓ') hw h4 hℓ hℓ';exact⟨_,g,hw',.inl ⟨h1,ad,h2,.inr ⟨b,cur,e,h3,by simp[Gh.give,upd],h5⟩⟩,rfl⟩
 ·obtain⟨g,hw'⟩:=rJ (ℓ':=ℓ') hw h2 hℓ hℓ';exact⟨_,g,hw',.inr ⟨hne,b,cap,cur,sz,h1,by simp[Gh.give,upd],h3,h4,h5,h6,h7,h8,h9⟩,rfl⟩
theorem mN {apps:List Nat} {always:Bool} {X:Operand} {d:Delta} (h:bg apps always dst X (opd S.sl X)=some d) (hf:FR G w S a) (hw:WI G w) :
  ∃ v dg G',d=.val v dg []∧Step G w S a dst v dg [] (a.eval X) G' w:=by
 unfold bg at h;split at h
 case isTrue=>cases h
 rename_i hni;split at h
 ·rename_i ho;have hX:=hf.opd X
  cases X with
  | const u=>rw[show opd S.sl (.const u)=avOf u from rfl,jJ] at ho;cases ho
  | func f=>cases ho
  | global g=>cases ho
  | tmp u =>
  have hu:∃ e c,opd S.sl (.tmp u)=.c (.own e c):=by
   cases hv:opd S.sl (.tmp u) with
   | c v=>rw[hv] at ho hni;cases v<;>first|exact⟨_,_,rfl⟩|exact absurd rfl hni|cases ho
   | agg l=>rw[hv] at ho;cases ho
   | tup l=>rw[hv] at ho;cases ho
  obtain⟨e,c,hc⟩:=hu;rw[hc] at h hX;split at h
  ·rename_i u' hst;have hu':u'=u:=by
    simp only[steal] at hst;by_cases hcc:(always||bR apps dst)=true
    ·rw[if_pos hcc] at hst;exact(Option.some.inj hst).symm
    ·rw[if_neg hcc] at hst;cases hst
   subst hu';by_cases hdu:dst=some u'
   ·rw[if_pos hdu] at h;cases h
   rw[if_neg hdu] at h;cases h;have hit:∀ t,some u'=some t→(S.sl t).isIter=false:=fun t e=>by cases e;rw[show S.sl u'=.c (.own e c) from hc];rfl
   cases hd:dst with
   | none =>
    refine⟨_,_,G,rfl,Step.of_gr (ch:=fun _=>False) hf hw (.refl _ _) hw (fun d e=>by cases e) (fun _ h=>h.elim) (fun s l hl=>.inl ⟨hl,fun h=>h,fun _ h=>h⟩) hf.nob hit⟩
   | some d =>
   have hX':OwnAt G w (.slot u') e c (a.eval (.tmp u')):=hX
   obtain⟨G',g,hw',hown,hbb⟩:=iq (ℓ':=.slot d) hw hX' (by simp) (by simp)
   refine⟨_,_,G',rfl,Step.of_gr hf hw g hw' (fun d' e=>by cases e;exact hown) (fun t ht=>.inr (by cases ht;rfl)) (fun s l hl=>.inl ⟨hl,by simp,by simp⟩) (fun s hs hlk=>by rw[hbb];exact hf.nob s hs hlk) hit⟩
  ·cases h
   exact⟨_,_,G,rfl,Step.pure hf hw fun d _=>hX.deg⟩
 ·rename_i ho;cases h;exact⟨_,_,G,rfl,Step.pure hf hw fun d _=>(hf.opd X).place (by simpa using ho)⟩
theorem jj {t:TypeId} {n:Nat} {b o:Nat} {cs:List Value} (hs:cA P t=some (some n)) (hl:cs.length=n) (hc:∀ j y,cs[j]? = some y→w.cell? ⟨b,o+j,none⟩=some y) :
  (Instr.loadAt t (.pointer (some ⟨b,o,none⟩))).run P w=.ok (.agg cs.toArray) w:=by
 obtain⟨d,n',hd,hsz,ha,hn⟩:=iC (w:=w) hs;cases hn n rfl;have:=run_loadCells_list (P:=P) w ⟨b,o,none⟩ cs (fun j y hy=>by
  have hadd:(⟨b,o,none⟩:Addr).add j=⟨b,o+j,none⟩:=by simp only[Addr.add];split<;>simp_all
  rw[hadd];exact hc j y hy)
 rw[hl] at this
 simp[Instr.loadAt,Instr.sureAddr,loadVar,ha,cT hsz,this]
theorem jM {t:TypeId} {b o:Nat} {y:Value} (hs:cA P t=some none) (hc:w.cell? ⟨b,o,none⟩=some y) :
  (Instr.loadAt t (.pointer (some ⟨b,o,none⟩))).run P w=.ok y w:=by
 obtain⟨d,n',hd,hsz,ha,hn⟩:=iC (w:=w) hs;simp[Instr.loadAt,Instr.sureAddr,loadVar,ha,hc]
theorem aa {b:Nat} {cs:Array Value} {ty:TypeId} {fr:Nat×Nat} (h:w.heap[b]? = some (.cells cs ty fr)) (o:Nat):w.cell? ⟨b,o,none⟩=cs[o]? := by
 simp[World.cell?,h]
theorem uQ {l:List CV} {xs:List Value} {s:Nat}:∀ k,(∀ j v,l[j]? = some v→∃ x,xs[j]? = some x∧RC G w (.cell s (k+j)) v x)→l.length=xs.length→All2 (RN G) (l.map CV.deg) xs:=fun k h hl =>
 All2.cV (All2.mk hl fun i v x hv hx=>by
  obtain⟨y,h1,h2⟩:=h i v hv;rw[hx] at h1;cases h1;exact h2.deg)
theorem eB (f:Nat→Option (List CV)) (s:Nat) (c:List CV) (t:Nat):aj f [(s,c)] t=if t=s then some c else f t:=rfl
theorem eu (l:List CV) (o:Nat) (v:CV) (h:o<l.length) (k:Nat):(bV l o [v])[k]? = if k=o then some v else l[k]? := by
 unfold bV;rw[List.append_assoc];rcases Nat.lt_trichotomy k o with hk|hk|hk
 ·rw[List.getElem?_append_left (by simp;omega),List.getElem?_take_of_lt hk,if_neg (by omega)]
 ·subst hk;rw[List.getElem?_append_right (by simp;omega),if_pos rfl]
  simp[Nat.min_eq_left (Nat.le_of_lt h)]
 ·rw[List.getElem?_append_right (by simp;omega),if_neg (by omega)]
  simp only[List.length_take,Nat.min_eq_left (Nat.le_of_lt h)];have:k - o=(k - o - 1)+1:=by omega
  rw[this];simp only[List.singleton_append,List.getElem?_cons_succ,List.getElem?_drop,List.length_cons,List.length_nil]
  congr 1;omega
theorem eD (l:List CV) (o:Nat) (vs:List CV) (h:o+vs.length≤l.length):(bV l o vs).length=l.length:=by
 unfold bV;simp;omega
theorem wa {apps:List Nat} {t:TypeId} {A:AV} {y:Value} {ℓ:Own} {d:Delta} (h:bL P apps S.bx dst t A=some d) (hf:FR G w S a) (hw:WI G w) (hA:RA G w ℓ A y) :
  ∃ v bs x G',d=.val v none bs∧(Instr.loadAt t y).run P w=.ok x w∧Step G w S a dst v none bs x G' w∧(apps=[]→G'=G):=by
 unfold bL at h;split at h
 ·rename_i n s off hs;split at h
  case h_2=>cases h
  rename_i cells hbx;split at h
  case isFalse=>cases h
  rename_i hfit;cases h;obtain⟨b,hb,rfl⟩:∃ b,G.bb s=some b∧y=.pointer (some ⟨b,off,none⟩):=hA
  obtain⟨b',cs,ty,hb',hh,⟨hsz,hbl⟩,hcells⟩:=hf.box s cells hbx;rw[hb] at hb';cases hb';refine⟨_,_,.agg ((cs.toList.drop off).take n).toArray,G,rfl,?_,Step.pure hf hw fun d _=>⟨_,rfl,?_⟩,fun _=>rfl⟩
  ·refine jj hs (by simp;omega) fun j z hz => ?_
   rw[aa hh];rw[List.getElem?_take] at hz
   split at hz
   case isFalse=>cases hz
   simpa using hz
  ·refine uQ (w:=w) (s:=s) off (fun j v hv => ?_) (by simp;omega)
   rw[List.getElem?_take] at hv
   split at hv
   case isFalse=>cases hv
   rename_i hj;rw[List.getElem?_drop] at hv
   obtain⟨z,h1,h2⟩:=hcells _ _ hv;exact⟨z,by rw[List.getElem?_take,if_pos hj];simpa using h1,h2⟩
 ·rename_i s off hs;split at h
  case h_2=>cases h
  rename_i cells hbx;split at h
  case h_1=>cases h
  rename_i v hv;obtain⟨b,hb,rfl⟩:∃ b,G.bb s=some b∧y=.pointer (some ⟨b,off,none⟩):=hA
  obtain⟨b',cs,ty,hb',hh,⟨hsz,hbl⟩,hcells⟩:=hf.box s cells hbx;rw[hb] at hb';cases hb';obtain⟨z,hz,hrz⟩:=hcells _ _ hv;have hrun:=jM (P:=P) (w:=w) hs (y:=z) (b:=b) (o:=off) (by rw[aa hh];exact hz)
  split at h
  ·rename_i hc;cases h;simp only[Bool.and_eq_true,Bool.not_eq_true'] at hc;obtain⟨⟨hpl,hni⟩,hdst⟩:=hc;cases v<;>first|(cases hpl;done)|(cases hni;done)|skip
   rename_i e c;cases hd:dst with
   | none=>rw[hd] at hdst;simp[bR] at hdst
   | some d =>
   have hown:OwnAt G w (.cell s off) e c z:=hrz
   obtain⟨G',g,hw',hown',hbb⟩:=iq (ℓ':=.slot d) hw hown (by simp) (by simp)
   refine⟨_,_,z,G',rfl,hrun,Step.of_gr hf hw g hw' (fun d' e=>by cases e;exact hown') (fun t ht=>by cases ht) (fun s' l hl => ?_) (fun s' hs' hlk => ?_),fun e => ?_⟩
   ·rw[eB] at hl;split at hl
    ·rename_i he;subst he;cases hl;have hlt:off<cells.length:=(List.getElem?_eq_some_iff.1 hv).1
     refine .inr ⟨b,cs,ty,by rw[hbb];exact hb,hh,⟨by rw[eD _ _ _ (by simp;omega)];exact hsz,fun e=>by
      rw[eu _ _ _ hlt] at e
      split at e
      ·cases e
      ·exact hbl e⟩,fun k u hu => ?_⟩
     rw[eu _ _ _ hlt] at hu;split at hu
     ·rename_i hk;subst hk;cases hu;exact⟨z,hz,.of_RN (hrz.deg.gr g)⟩
     ·rename_i hk;obtain⟨z',h1,h2⟩:=hcells _ _ hu;exact⟨z',h1,h2.gr g (fun e=>hk (by cases e;rfl))⟩
    ·rename_i he;exact .inl ⟨hl,by simp,fun k e=>he (by cases e;rfl)⟩
   ·rw[eB] at hs';split at hs'
    ·cases hs'
    ·rw[hbb];exact hf.nob s' hs' hlk
   ·subst e;rw[hd] at hdst;simp[bR] at hdst
  ·cases h
   exact⟨_,_,z,G,rfl,hrun,Step.pure hf hw fun d _=>.of_RN hrz.deg,fun _=>rfl⟩
 ·rename_i n l hs;split at h
  case isFalse=>cases h
  rename_i hn;cases h;obtain⟨b,o,rfl,hl⟩:∃ b o,y=.pointer (some ⟨b,o,none⟩)∧∀ (j:Nat) (p:PV),l[j]? = some p→∃ y,G.I b (o+j)=some y∧RP G.I p y:=hA
  refine⟨_,_,.agg ((List.range n).map fun j=>(G.I b (o+j)).getD default).toArray,G,rfl,?_,Step.pure hf hw fun d _=>⟨_,rfl,?_⟩,fun _=>rfl⟩
  ·refine jj hs (by simp) fun j z hz => ?_
   have hj:j<n:=by
    have:=(List.getElem?_eq_some_iff.1 hz).1
    simpa using this
   obtain⟨u,h1,h2⟩:=hl j l[j] (by simp)
   simp[hj,h1] at hz;subst hz;exact hw.cell _ _ _ h1
  ·refine All2.cV (All2.mk (by simp;omega) fun i p x hp hx => ?_)
   rw[List.getElem?_take] at hp
   split at hp
   case isFalse=>cases hp
   rename_i hi;obtain⟨u,h1,h2⟩:=hl i p hp;simp[hi,h1] at hx;subst hx;exact h2
 ·rename_i l hs;split at h
  case h_2=>cases h
  rename_i p hp;cases h;obtain⟨b,o,rfl,hl⟩:∃ b o,y=.pointer (some ⟨b,o,none⟩)∧∀ (j:Nat) (p:PV),l[j]? = some p→∃ y,G.I b (o+j)=some y∧RP G.I p y:=hA
  obtain⟨u,h1,h2⟩:=hl 0 p hp;exact⟨_,_,u,G,rfl,jM hs (hw.cell _ _ _ h1),Step.pure hf hw fun d _=>RA.of_RN (v:=.pv p) h2,fun _=>rfl⟩
 ·cases h
end
end Go.Abs
namespace Go.Abs
open Go
section
variable {P:Program} {G G' G1 G2:Gh} {w w' w1 w2:World} {S:St} {a:Act} {dst:Option Nat} {v:AV} {dg:Option Nat} {bs:List (Nat×List CV)} {x:Value}
theorem Gr.trans {c1 c2:Own→Prop} (g:Gr c1 G w G1 w1) (k:Gr c2 G1 w1 G2 w2):Gr (fun ℓ=>c1 ℓ∨c2 ℓ) G w G2 w2 :=
 ⟨g.ext.trans k.ext,fun s b h=>k.bb s b (g.bb s b h),fun b ℓ h hn =>
  have h1:=g.keep b ℓ h (fun e=>hn (.inl e))
  have h2:=k.keep b ℓ h1.1 (fun e=>hn (.inr e))
  ⟨h2.1,h2.2.1.trans h1.2.1,fun o=>(h2.2.2 o).trans (h1.2.2 o)⟩⟩
theorem dI (w:World) (g:Nat) (cs:Array Value):(w.setRow g cs).heap.size=w.heap.size:=by simp[World.setRow]
theorem dU (hw:WI G w) {b:Nat} {ℓ:Own} (h:G.ow b=some ℓ):b<w.heap.size:=by
 rcases Nat.lt_or_ge b w.heap.size with h1|h1
 ·exact h1
 ·have:=(hw.fresh b h1).2;rw[h] at this;cases this
theorem mm (hw:WI G w) {s b:Nat} {cs new:Array Value} {ty:TypeId} (hb:G.bb s=some b) (_hh:w.heap[b]? = some (.cells cs ty (0,0))) :
  Gr (fun ℓ=>ℓ=.box s) G w G (w.setRow b new)∧WI G (w.setRow b new):=by
 have ho:=hw.bbow s b hb
 refine⟨⟨⟨fun _ _ _ h=>h,fun c _ hc=>⟨hc,setRow_other w b c new (fun e=>by rw[e,ho] at hc;cases hc),fun _=>rfl⟩,by rw[dI];exact Nat.le_refl _,rfl,rfl,rfl,fun _ _=>rfl⟩,
   fun _ _ h=>h,fun c ℓ hc hne=>⟨hc,setRow_other w b c new (fun e=>hne (by rw[e,ho] at hc;exact(Option.some.inj hc).symm)),fun _=>rfl⟩⟩,
  ⟨fun c o y h => ?_,fun c hc=>hw.fresh c (by rw[dI] at hc;exact hc),hw.boxI,hw.bbow,hw.tab.map fun c _ hc=>⟨hc,setRow_other w b c new (fun e=>by rw[e,ho] at hc;cases hc)⟩⟩⟩
 have hne:c≠b:=fun e=>by have:=hw.boxI b s ho o;rw[←e,h] at this;cases this
 rw[cell_setRow_other w b new ⟨c,o,none⟩ hne];exact hw.cell c o y h
theorem jk {t:TypeId} {b off:Nat} {cs:Array Value} {ty:TypeId} {y:Value} {xs:List Value} (hh:w.heap[b]? = some (.cells cs ty (0,0))) (hc:y.cells=xs.toArray) (hs:szOf P t=some xs.length)
  (hfit:off+xs.length≤cs.size) (h1:∀ u∈xs,u.oneCell'=true) :
  (Instr.storeAt t (.pointer (some ⟨b,off,none⟩)) y).run P w=.ok () (w.setRow b (cs.toList.take off++xs++cs.toList.drop (off+xs.length)).toArray):=by
 have:=run_storeCells_at P b off ty xs 0 cs w hh (by simpa using hfit) h1
 simp only[Nat.add_zero] at this
 simp[Instr.storeAt,Instr.sureAddr,storeVar,cT hs,hc,this]
theorem pM (l:List CV) (off:Nat) (vs:List CV) (h:off+vs.length≤l.length) (k:Nat) :
  (bV l off vs)[k]? = if off≤k∧k<off+vs.length then vs[k - off]? else l[k]? := by
 unfold bV;rw[List.append_assoc];by_cases h1:k<off
 ·rw[List.getElem?_append_left (by simp;omega),List.getElem?_take_of_lt h1,if_neg (by omega)]
 ·rw[List.getElem?_append_right (by simp;omega)]
  simp only[List.length_take,Nat.min_eq_left (show off≤l.length by omega)]
  by_cases h2:k<off+vs.length
  ·rw[List.getElem?_append_left (by omega),if_pos ⟨by omega,h2⟩]
  ·rw[List.getElem?_append_right (by omega),if_neg (by omega),List.getElem?_drop]
   congr 1;omega
theorem gg (cs:Array Value) (off:Nat) (xs:List Value) (h:off+xs.length≤cs.size) (k:Nat) :
  (cs.toList.take off++xs++cs.toList.drop (off+xs.length)).toArray[k]? = if off≤k∧k<off+xs.length then xs[k - off]? else cs[k]? := by
 simp only[List.getElem?_toArray]
 rw[List.append_assoc];by_cases h1:k<off
 ·rw[List.getElem?_append_left (by simp;omega),List.getElem?_take_of_lt h1,if_neg (by omega)]
  simp
 ·rw[List.getElem?_append_right (by simp;omega)]
  simp only[List.length_take,Array.length_toList,Nat.min_eq_left (show off≤cs.size by omega)]
  by_cases h2:k<off+xs.length
  ·rw[List.getElem?_append_left (by omega),if_pos ⟨by omega,h2⟩]
  ·rw[List.getElem?_append_right (by omega),if_neg (by omega),List.getElem?_drop,Array.getElem?_toList]
   congr 1;omega
theorem fL (cs:Array Value) (off:Nat) (xs:List Value) (h:off+xs.length≤cs.size):(cs.toList.take off++xs++cs.toList.drop (off+xs.length)).toArray.size=cs.size:=by
 simp;omega
theorem uz (v:Value):cvOf v≠.bld:=by
 unfold cvOf;split<;>simp
theorem ul {t:TypeId} {l:List CV} (h:zeroCells P t=some l):CV.bld ∉ l:=by
 unfold zeroCells at h;split at h
 case h_2=>cases h
 split at h
 case h_2=>cases h
 split at h
 case isFalse=>cases h
 cases h
 intro hm;obtain⟨v,_,e⟩:=List.mem_map.1 hm;exact uz v e
theorem zt {t:TypeId} {l:List CV} {cs:List Value} (h:All2 (RN G) l cs):All2 (RN G) (dK t l) cs:=by
 unfold dK;split
 ·cases l with
  | nil=>exact h
  | cons v l =>
   cases h with
   | cons h1 h2 =>
    cases v<;>first|exact .cons h1 h2|skip
 ·exact h
theorem xA {t:TypeId} {l:List CV} (h:CV.bld ∉ l):Bld t (dK t l):=fun e=>by
 unfold dK at e
 split at e
 ·rename_i hc;simpa using hc
 ·exact absurd (List.mem_of_getElem? e) h
theorem kh {A:AV} {vs:List CV} (h:az A=some vs):CV.bld ∉ vs:=by
 unfold az at h;split at h
 ·cases h
 ·cases h
 ·cases h
 ·cases h
 ·rename_i v _ hne _ _;cases h;intro hm;simp at hm;exact hne hm.symm
 ·rename_i l;split at h
  case isFalse=>cases h
  rename_i hc;cases h;intro hm;simp only[Bool.and_eq_true] at hc;have:=List.all_eq_true.1 hc.2 _ hm
  cases this
 ·cases h
theorem Ar {t:TypeId} {A:AV} {X:Operand} {y:Value} {ℓ:Own} {d:Delta} (h:bu P S.bx t A X (opd S.sl X)=some d) (hf:FR G w S a) (hw:WI G w) (hA:RA G w ℓ A y)
  (hdst:dst=none) :
  ∃ v dg bs w' G',d=.val v dg bs∧(Instr.storeAt t y (a.eval X)).run P w=.ok () w'∧Step G w S a dst v dg bs undef G' w':=by
 subst hdst;unfold bu at h;split at h
 case h_2=>cases h
 rename_i s off;split at h
 case h_2=>cases h
 rename_i cells vs hbx hvs;split at h
 case isFalse=>cases h
 rename_i hc;obtain⟨hsz,hfit⟩:=hc;obtain⟨b,hb,rfl⟩:∃ b,G.bb s=some b∧y=.pointer (some ⟨b,off,none⟩):=hA
 obtain⟨b',cs,ty,hb',hh,⟨hcs,hbl⟩,hcells⟩:=hf.box s cells hbx;rw[hb] at hb';cases hb';have hX:=hf.opd X
 have main:∀ (xs:List Value) (G1:Gh) (ch:Own→Prop) (dg:Option Nat),(a.eval X).cells=xs.toArray→xs.length=vs.length→Gr ch G w G1 w→WI G1 w→G1.bb=G.bb →
   (∀ k u,vs[k]? = some u→∃ x,xs[k]? = some x∧RC G1 w (.cell s (off+k)) u x)→(∀ t,ch (.slot t)→dg=some t)→(∀ s', ¬ ch (.box s'))→(∀ s' k, ¬ ch (.cell s' k))→(∀ t,dg=some t→(S.sl t).isIter=false) →
   ∃ w' G',(Instr.storeAt t (.pointer (some ⟨b,off,none⟩)) (a.eval X)).run P w=.ok () w'∧Step G w S a none (.tup []) dg [(s,bV cells off vs)] undef G' w':=by
  intro xs G1 ch dg hxc hxl g1 hw1 hbb hvals hsl hbo hce hit;have hfit':off+xs.length≤cs.size:=by omega
  have hone:∀ u∈xs,u.oneCell'=true:=fun u hu=>by
   obtain⟨k,hk⟩:=List.mem_iff_getElem?.1 hu
   have hlt:k<vs.length:=by have:=(List.getElem?_eq_some_iff.1 hk).1;omega
   obtain⟨z,h1,h2⟩:=hvals k vs[k] (by simp)
   rw[hk] at h1;cases h1;exact h2.one
  have hrun:=jk (P:=P) (t:=t) hh hxc (by rw[hxl];exact hsz) hfit' hone
  obtain⟨g2,hw2⟩:=mm hw1 (s:=s) (by rw[hbb];exact hb) hh (new:=(cs.toList.take off++xs++cs.toList.drop (off+xs.length)).toArray)
  have hlt:b<w.heap.size:=(Array.getElem?_eq_some_iff.1 hh).1
  refine⟨_,G1,hrun,Step.of_gr hf hw (g1.trans g2) hw2 (fun d e=>by cases e) (fun t ht => ?_) (fun s' l hl => ?_) (fun s' hs' hlk => ?_) hit⟩
  ·rcases ht with h1|h1
   ·exact .inr (hsl t h1)
   ·cases h1
  ·rw[eB] at hl;split at hl
   ·rename_i he;subst he;cases hl;refine .inr ⟨b,_,ty,by rw[hbb];exact hb,setRow_heap w b cs _ ty _ hh,⟨by rw[fL _ _ _ hfit',eD _ _ _ hfit,hcs],fun e=>by
     rw[pM _ _ _ hfit] at e
     split at e
     ·exact absurd (List.mem_of_getElem? e) (kh hvs)
     ·exact hbl e⟩,fun k u hu => ?_⟩
    rw[pM _ _ _ hfit] at hu;rw[gg _ _ _ hfit'];split at hu
    ·rename_i hk;obtain⟨z,h1,h2⟩:=hvals _ _ hu;rw[if_pos (by omega)]
     have e:off+(k - off)=k:=by omega
     rw[e] at h2;exact⟨z,h1,h2.gr g2 (by simp)⟩
    ·rename_i hk;rw[if_neg (by omega)]
     obtain⟨z,h1,h2⟩:=hcells _ _ hu;exact⟨z,h1,(h2.gr g1 (hce _ _)).gr g2 (by simp)⟩
   ·rename_i he;refine .inl ⟨hl,fun e => ?_,fun k e => ?_⟩
    ·rcases e with e|e
     ·exact hbo _ e
     ·cases e;exact he rfl
    ·rcases e with e|e
     ·exact hce _ _ e
     ·cases e
  ·rw[eB] at hs';split at hs'
   ·cases hs'
   ·rw[hbb];exact hf.nob s' hs' hlk
 split at h
 ·rename_i ho;split at h
  case h_2=>cases h
  rename_i u;cases h;have hu:∃ e c,opd S.sl (.tmp u)=.c (.own e c):=by
   cases hv:opd S.sl (.tmp u) with
   | c v =>
    rw[hv] at ho hvs;cases v with
    | own e c=>exact⟨_,_,rfl⟩
    | iter s pos=>exact absurd hvs (by simp[az])
    | cmap es=>exact absurd hvs (by simp[az])
    | _=>cases ho
   | agg l=>rw[hv] at ho;cases ho
   | tup l=>rw[hv] at ho;cases ho
  obtain⟨e,c,hc⟩:=hu;rw[hc] at hvs hX;simp[az] at hvs;subst hvs;have hX':OwnAt G w (.slot u) e c (a.eval (.tmp u)):=hX
  obtain⟨G1,g1,hw1,hown,hbb⟩:=iq (ℓ':=.cell s off) hw hX' (by simp) (by simp)
  have hone:(a.eval (.tmp u)).oneCell'=true:=(RC.deg (ℓ:=.slot u) (v:=.own e c) hX').one
  obtain⟨w',G',h1,h2⟩:=main [a.eval (.tmp u)] G1 _ (some u) (by rw[ic hone]) rfl g1 hw1 hbb
   (fun k z hz=>by
    cases k with
    | zero=>simp at hz;subst hz;exact⟨_,rfl,hown⟩
    | succ k=>simp at hz)
   (fun t ht=>by cases ht;rfl) (fun s' h=>by cases h) (fun s' k h=>by cases h) (fun t e=>by cases e;rw[show S.sl u=.c (.own e c) from hc];rfl)
  exact⟨_,_,_,w',G',rfl,h1,h2⟩
 ·rename_i ho;cases h;obtain⟨xs,hxc,hxs⟩:=iU hvs (by simpa using ho) hX
  obtain⟨w',G',h1,h2⟩:=main xs G (fun _=>False) none hxc hxs.length.symm (.refl _ _) hw rfl
   (fun k z hz=>let ⟨y,h1,h2⟩:=hxs.get hz;⟨y,h1,.of_RN h2⟩) (fun _ h=>h.elim) (fun _ h=>h) (fun _ _ h=>h) (fun _ e=>by cases e)
  exact⟨_,_,_,w',G',rfl,h1,h2⟩
def Gh.box (G:Gh) (d b:Nat):Gh := { G with bb:=upd G.bb d (some b),ow:=upd G.ow b (some (.box d)) }
theorem am (w:World) (o:Obj):(w.alloc o).heap.size=w.heap.size+1:=by show (w.heap.push o).size=_;simp
theorem aA (w:World) (o:Obj) (r:Nat) (h:r<w.heap.size):(w.alloc o).heap[r]? = w.heap[r]? := by
 show (w.heap.push o)[r]? = _
 rw[Array.getElem?_push_lt h,Array.getElem?_eq_getElem h]
theorem dH (w:World) (o:Obj) {b off:Nat} (h:b<w.heap.size):(w.alloc o).cell? ⟨b,off,none⟩=w.cell? ⟨b,off,none⟩:=by
 simp[World.cell?,aA w o b h]
theorem I_lt (hw:WI G w) {b o:Nat} {y:Value} (h:G.I b o=some y):b<w.heap.size:=by
 rcases Nat.lt_or_ge b w.heap.size with h1|h1
 ·exact h1
 ·have:=(hw.fresh b h1).1 o;rw[h] at this;cases this
theorem qz {l:List CV} {cs:List Value} {ty:TypeId} {d:Delta} (h:cz S.bx dst l=some d) (hf:FR G w S a) (hw:WI G w) (hc:All2 (RN G) l cs) (hbl:Bld ty l) :
  ∃ v bs G',d=.val v none bs∧Step G w S a dst v none bs (.pointer (some ⟨w.heap.size,0,none⟩)) G' (w.alloc (.cells cs.toArray ty)):=by
 unfold cz at h;split at h
 case h_2=>cases h
 rename_i dd;split at h
 case isFalse=>cases h
 rename_i hcond;obtain⟨hd,hno⟩:=hcond;cases h;have hno':S.bx dd=none:=by simpa using hno
 have hbb:G.bb dd=none:=hf.nob dd hno' hd
 have hnew:(w.alloc (.cells cs.toArray ty)).heap[w.heap.size]? = some (.cells cs.toArray ty (0,0)):=heap_alloc_new w _
 have g:Gr (fun _=>False) G w (G.box dd w.heap.size) (w.alloc (.cells cs.toArray ty)):=by
  refine⟨⟨fun _ _ _ h=>h,fun c hc ho=>⟨?_,aA w _ c hc,fun _=>rfl⟩,by rw[am];omega,rfl,rfl,rfl,fun k hk => ?_⟩,fun s b hb => ?_,fun b ℓ hb _=>⟨?_,aA w _ b (dU hw hb),fun _=>rfl⟩⟩
  ·show upd G.ow w.heap.size _ c=none
   unfold upd;rw[if_neg (by omega)];exact ho
  ·show upd G.bb dd _ k=_
   unfold upd;rw[if_neg (by omega)]
  ·show upd G.bb dd _ s=_
   unfold upd;rw[if_neg (fun e=>by rw[e,hbb] at hb;cases hb)];exact hb
  ·show upd G.ow w.heap.size _ b=_
   have:=dU hw hb
   unfold upd;rw[if_neg (by omega)];exact hb
 have hw':WI (G.box dd w.heap.size) (w.alloc (.cells cs.toArray ty)):=by
  refine⟨fun b o y hI => ?_,fun b hb => ?_,fun b s hb o => ?_,fun s b hb => ?_,hw.tab.map fun c hc ho=>⟨(g.ext.old c hc ho).1,(g.ext.old c hc ho).2.1⟩⟩
  ·rw[dH w _ (I_lt hw hI)];exact hw.cell b o y hI
  ·rw[am] at hb;refine⟨(hw.fresh b (by omega)).1,?_⟩
   show upd G.ow w.heap.size _ b=none
   unfold upd;rw[if_neg (by omega)];exact(hw.fresh b (by omega)).2
  ·have hb':upd G.ow w.heap.size (some (.box dd)) b=some (.box s):=hb
   unfold upd at hb';split at hb'
   ·rename_i he;subst he;exact(hw.fresh _ (Nat.le_refl _)).1 o
   ·exact hw.boxI b s hb' o
  ·have hb':upd G.bb dd (some w.heap.size) s=some b:=hb
   show upd G.ow w.heap.size _ b=_
   unfold upd at hb' ⊢;split at hb'
   ·rename_i he;subst he;cases hb';rw[if_pos rfl]
   ·have h1:=hw.bbow s b hb'
    have h2:=dU hw h1
    rw[if_neg (by omega)];exact h1
 refine⟨_,_,G.box dd w.heap.size,rfl,Step.of_gr hf hw g hw' (fun d' e => ?_) (fun _ h=>h.elim) (fun s l' hl => ?_) (fun s hs hlk => ?_)⟩
 ·cases e
  exact⟨w.heap.size,by simp[Gh.box,upd],rfl⟩
 ·rw[eB] at hl;split at hl
  ·rename_i he;subst he;cases hl;refine .inr ⟨w.heap.size,cs.toArray,ty,by simp[Gh.box,upd],hnew,⟨by simp[hc.length],hbl⟩,fun k u hu => ?_⟩
   obtain⟨z,h1,h2⟩:=hc.get hu;exact⟨z,by simpa using h1,.of_RN (h2.gr g)⟩
  ·exact .inl ⟨hl,fun h=>h,fun _ h=>h⟩
 ·rw[eB] at hs;split at hs
  ·cases hs
  ·rename_i he
   show upd G.bb dd _ s=none
   unfold upd;rw[if_neg he];exact hf.nob s hs hlk
def Gh.row (G:Gh) (b:Nat) (f:Nat→Option Value) (o:Option Own):Gh := { G with I:=fun c k=>if c=b then f k else G.I c k,ow:=upd G.ow b o }
theorem jN (hw:WI G w) {cs:Array Value} {ty:TypeId} {fz:Nat×Nat} {f:Nat→Option Value} {o:Option Own} (hf:∀ k y,f k=some y→cs[k]? = some y) (ho:∀ s,o≠some (.box s)) :
  Gr (fun _=>False) G w (G.row w.heap.size f o) (w.alloc (.cells cs ty fz))∧WI (G.row w.heap.size f o) (w.alloc (.cells cs ty fz)):=by
 have hI:∀ b k y,G.I b k=some y→(G.row w.heap.size f o).I b k=some y:=fun b k y h=>by
  have:=I_lt hw h
  show (if b=_ then f k else G.I b k)=_
  rw[if_neg (by omega)];exact h
 refine⟨⟨⟨hI,fun c hc hn=>⟨?_,aA w _ c hc,fun k => ?_⟩,by rw[am];omega,rfl,rfl,rfl,fun k hk=>rfl⟩,fun s b hb=>hb,fun b ℓ hb _=>⟨?_,aA w _ b (dU hw hb),fun k => ?_⟩⟩,⟨fun b k y h => ?_,fun b hb => ?_,fun b s hb k => ?_,fun s b hb => ?_,hw.tab.map fun c hc hn=>⟨by show upd G.ow w.heap.size _ c=none;unfold upd;rw[if_neg (by omega)];exact hn,aA w _ c hc⟩⟩⟩
 ·show upd G.ow w.heap.size _ c=none
  unfold upd;rw[if_neg (by omega)];exact hn
 ·show (if c=_ then f k else G.I c k)=_
  rw[if_neg (by omega)]
 ·have:=dU hw hb
  show upd G.ow w.heap.size _ b=_
  unfold upd;rw[if_neg (by omega)];exact hb
 ·have:=dU hw hb
  show (if b=_ then f k else G.I b k)=_
  rw[if_neg (by omega)]
 ·have h':(if b=w.heap.size then f k else G.I b k)=some y:=h
  split at h'
  ·rename_i he;subst he;rw[aa (heap_alloc_new w _)];exact hf k y h'
  ·rw[dH w _ (I_lt hw h')];exact hw.cell b k y h'
 ·rw[am] at hb;refine⟨fun k => ?_,?_⟩
  ·show (if b=_ then f k else G.I b k)=_
   rw[if_neg (by omega)];exact(hw.fresh b (by omega)).1 k
  ·show upd G.ow w.heap.size _ b=none
   unfold upd;rw[if_neg (by omega)];exact(hw.fresh b (by omega)).2
 ·have hb':upd G.ow w.heap.size o b=some (.box s):=hb
  unfold upd at hb';split at hb'
  ·exact absurd hb' (ho s)
  ·have:=dU hw hb'
   show (if b=_ then f k else G.I b k)=_
   rw[if_neg (by omega)];exact hw.boxI b s hb' k
 ·have h1:=hw.bbow s b hb
  have h2:=dU hw h1
  show upd G.ow w.heap.size _ b=_
  unfold upd;rw[if_neg (by omega)];exact h1
theorem oA (n:Nat):∀ (k:Nat) (l:List PV) (i:Nat) (el:List PV),(chunks n l k)[i]? = some el→el=(l.drop (i*n)).take n
 | 0,l,i,el,h=>by simp[chunks] at h
 | k+1,l,0,el,h=>by simp[chunks] at h;simp[h]
 | k+1,l,i+1,el,h=>by
  simp only[chunks,List.getElem?_cons_succ] at h
  rw[oA n k _ i el h,List.drop_drop]
  congr 2
  rw[Nat.add_mul];omega
theorem kx (n:Nat):∀ (k:Nat) (l:List PV),(chunks n l k).length=k
 | 0,l=>rfl
 | k+1,l=>by simp[chunks,kx n k]
theorem oI (n:Nat):∀ (k:Nat) (l:List PV),l.length=k*n→∀ el∈chunks n l k,el.length=n
 | 0,l,_,el,h=>by simp[chunks] at h
 | k+1,l,hl,el,h=>by
  simp only[chunks,List.mem_cons] at h;rw[Nat.add_mul] at hl;rcases h with rfl|h
  ·simp;omega
  ·exact oI n k _ (by simp;omega) el h
theorem we:∀ (n:Nat) {z:List CV} {zs:List Value},All2 (RN G) z zs→All2 (RN G) (reps z n) ((List.range (n*zs.length)).map fun i=>zs[i % zs.length]!)
 | 0,z,zs,h=>by simp[reps];exact .nil
 | n+1,z,zs,h=>by
  have ih:=we n h
  simp only[reps];have e:(List.range ((n+1)*zs.length)).map (fun i=>zs[i % zs.length]!)=zs++(List.range (n*zs.length)).map fun i=>zs[i % zs.length]! := by
   rw[Nat.add_mul,Nat.one_mul,Nat.add_comm,List.range_add,List.map_append,List.map_map]
   congr 1
   ·apply List.ext_getElem?
    intro i;by_cases hi:i<zs.length
    ·simp[hi,Nat.mod_eq_of_lt hi]
    ·simp[hi]
   ·apply List.map_congr_left
    intro i _;simp
  rw[e];exact h.append ih
theorem jB {t:TypeId} {len:Nat} {parts:List (Nat×AV)} {parts':Array (Nat×Value)} (h:dl P t len parts=some v) (hf:FR G w S a) (hw:WI G w) (hp:All2 (RPart G w) parts parts'.toList) :
  ∃ x w' G',(Instr.buildSlice t len parts').run P w=.ok x w'∧Step G w S a dst v none [] x G' w'∧∃ ad,x=.slice ad len len:=by
 unfold dl at h;split at h
 case h_2=>cases h
 rename_i e hu;split at h
 case h_2=>cases h
 rename_i n z hn hz;split at h
 case isFalse=>cases h
 rename_i hc;obtain⟨hzl,hpos,hlim⟩:=hc;split at h
 case h_2=>cases h
 rename_i l hl;split at h
 case h_2=>cases h
 rename_i ps hps;cases h;obtain⟨i,zv,hi,hzz,hzrun,hzlen,hzcells⟩:=fK (G:=G) (w:=w) hz;have hsz:zv.cells.size=n:=by rw[←hzlen,hzl]
 have hreps:=we len hzcells
 simp only[Array.length_toList,hsz] at hreps;obtain⟨cs',h1,h2⟩:=nk (G:=G) (w:=w) (place':=fun i=>some (i*n,n)) (cs:=((Array.range (len*n)).map (zv.cells[· % n]!))) (fun _=>rfl) hl hp (by
  have e:((Array.range (len*n)).map (zv.cells[· % n]!)).toList=(List.range (len*n)).map fun i=>zv.cells.toList[i % n]! := by
   simp only[Array.toList_map,Array.toList_range]
   apply List.map_congr_left
   intro i _;have:i % n<zv.cells.size:=by rw[hsz];exact Nat.mod_lt _ hpos
   simp[this]
  rw[e];exact hreps)
 have hlen:l.length=len*n:=by
  have hfl:∀ (parts:List (Nat×AV)) (cells l:List CV),aD (fun i=>some (i*n,n)) cells parts=some l→l.length=cells.length:=by
   intro parts
   induction parts with
   | nil=>intro cells l h;simp[aD] at h;rw[h]
   | cons p parts ih =>
    intro cells l h;obtain⟨i,x⟩:=p;unfold aD at h;split at h
    case h_2=>cases h
    rename_i off size vs ho hvs;split at h
    case isFalse=>cases h
    rename_i hcc;rw[ih _ _ h,eD _ _ _ hcc.2]
  have hr:(reps z len).length=len*n:=by rw[hreps.length];simp
  rw[hfl _ _ _ hl,hr]
 have hall:=kz hps h2
 have hpl:ps.length=len*n:=by
  rw[hall.length,←h2.length,hlen]
 have hcsz:cs'.size=len*n:=by rw[←Array.length_toList,←h2.length,hlen]
 have hrun:(Instr.buildSlice t len parts').run P w=.ok (.slice (some ⟨w.heap.size,0,none⟩) len len) (w.alloc (.cells cs' e)):=by
  have hl24:¬ (16777216<len*n):=by omega
  by_cases h0:len*n=0
  ·have hl0:len=0:=by rcases Nat.mul_eq_zero.1 h0 with h|h;exact h;omega
   subst hl0;have he:∀ f:Nat→Value,(Array.range (0*n)).map f=#[]:=fun f=>by apply Array.ext';simp
   rw[he] at h1;simp only[Instr.buildSlice,Sem.run_bind,run_underlying hu,cT hn,Result.andThen_ok,he,h1];simp[newRow]
  ·simp[Instr.buildSlice,run_underlying hu,cT hn,hl24,h0,hzrun,hsz,h1,newRow]
 obtain⟨g,hw'⟩:=jN hw (cs:=cs') (ty:=e) (fz:=(0,0)) (f:=fun k=>cs'[k]?) (o:=dst.map Own.slot) (fun k y h=>h) (fun s=>by cases dst<;>simp)
 refine⟨_,_,_,hrun,Step.of_gr hf hw g hw' (fun d hd => ?_) (fun _ h=>h.elim) (fun s l hl=>.inl ⟨hl,fun h=>h,fun _ h=>h⟩) (fun s hs hlk=>hf.nob s hs hlk),_,rfl⟩
 subst hd;by_cases h0:len=0
 ·subst h0;exact .inl ⟨rfl,_,rfl,.inr ⟨w.heap.size,cs',e,rfl,by simp[Gh.row,upd],heap_alloc_new w _⟩⟩
 ·have hcl:=kx n len ps
  refine .inr ⟨fun e=>by rw[e] at hcl;simp at hcl;omega,w.heap.size,len,cs',n,by rw[hcl],by simp[Gh.row,upd],heap_alloc_new w _,by omega,by rw[hcsz],hpos,oI n len ps hpl,fun i el j p hi hj => ?_,fun o ho => ?_⟩
  ·have hel:=oA n len ps i el hi
   rw[hel,List.getElem?_take] at hj
   split at hj
   case isFalse=>cases hj
   rw[List.getElem?_drop] at hj
   obtain⟨y,hy1,hy2⟩:=hall.get hj;refine⟨y,?_,hy2.mono g.ext.I⟩
   show (if w.heap.size=w.heap.size then _ else _)=_
   rw[if_pos rfl]
   simpa using hy1
  ·show (if w.heap.size=w.heap.size then _ else _)=_
   rw[if_pos rfl,hcl] at *
   simp[hcsz];exact ho
theorem pF {b:Bool} {t:TypeId} {len:Nat} {parts:List (Nat×AV)} {parts':Array (Nat×Value)} (h:cw b (dl P t len parts)=some v) (hf:FR G w S a) (hw:WI G w) (hp:All2 (RPart G w) parts parts'.toList) :
  ∃ x w' G',(Instr.buildSlice t len parts').run P w=.ok x w'∧Step G w S a dst v none [] x G' w':=by
 cases b with
 | false =>
  obtain⟨x,w',G',h1,h2,_⟩:=jB (dst:=dst) (parts':=parts') (show dl P t len parts=some v from h) hf hw hp
  exact⟨x,w',G',h1,h2⟩
 | true =>
  unfold cw at h;split at h
  ·rename_i hb;cases hb
  ·rename_i e el l hb hs;cases h;obtain⟨x,w',G',h1,h2,ad,hx⟩:=jB (dst:=dst) (parts':=parts') hs hf hw hp;exact⟨x,w',G',h1,⟨h2.ext,h2.wi,fun d hd=>⟨OwnAt.rp (h2.val d hd),by simp,ad,len,hx⟩,h2.slot,h2.box,h2.nob⟩⟩
  ·cases h
end
end Go.Abs
namespace Go.Abs
open Go
section
variable {P:Program} {G G':Gh} {w w':World} {S:St} {a:Act} {dst dg:Option Nat} {v:AV} {x:Value}
theorem tJ (sz:Nat):∀ (c:List (List PV)),(∀ e∈c,e.length=sz)→∀ (i:Nat) (el:List PV) (j:Nat) (p:PV),c[i]? = some el→el[j]? = some p→c.flatten[i*sz+j]? = some p
 | [],_,i,el,j,p,hi,_=>by simp at hi
 | e::c,h,0,el,j,p,hi,hj=>by
  simp at hi;subst hi;have hlt:=(List.getElem?_eq_some_iff.1 hj).1
  rw[List.flatten_cons,Nat.zero_mul,Nat.zero_add,List.getElem?_append_left hlt];exact hj
 | e::c,h,i+1,el,j,p,hi,hj=>by
  have he:=h e (by simp)
  rw[List.flatten_cons,List.getElem?_append_right (by rw[he,Nat.add_mul];omega)]
  have:=tJ sz c (fun e' h'=>h e' (by simp[h'])) i el j p (by simpa using hi) hj
  rw[←this];congr 1;rw[he,Nat.add_mul];omega
theorem ef (sz:Nat):∀ (c:List (List PV)),(∀ e∈c,e.length=sz)→c.flatten.length=c.length*sz
 | [],_=>by simp
 | e::c,h=>by
  rw[List.flatten_cons,List.length_append,h e (by simp),ef sz c fun e' h'=>h e' (by simp[h']),List.length_cons,Nat.add_mul];omega
theorem nZ (sz:Nat) (hpos:0<sz):∀ (c:List (List PV)),(∀ e∈c,e.length=sz)→∀ (k:Nat) (p:PV),c.flatten[k]? = some p→∃ i el j,c[i]? = some el∧el[j]? = some p∧k=i*sz+j∧j<sz
 | [],_,k,p,h=>by simp at h
 | e::c,h,k,p,hk=>by
  have he:=h e (by simp)
  rw[List.flatten_cons] at hk;by_cases hlt:k<e.length
  ·rw[List.getElem?_append_left hlt] at hk
   exact⟨0,e,k,rfl,hk,by omega,by omega⟩
  ·rw[List.getElem?_append_right (by omega)] at hk
   obtain⟨i,el,j,h1,h2,h3,h4⟩:=nZ sz hpos c (fun e' h'=>h e' (by simp[h'])) _ p hk
   exact⟨i+1,el,j,by simpa using h1,h2,by rw[Nat.add_mul];omega,h4⟩
theorem fj {I:Nat→Nat→Option Value} {b o sz:Nat} {c:List (List PV)} (hpos:0<sz) (hsz:∀ e∈c,e.length=sz) (h:Seg I b o sz c) :
  ∃ ys:List Value,ys.length=c.length*sz∧(∀ k y,ys[k]? = some y→I b (o+k)=some y)∧All2 (RP I) c.flatten ys:=by
 have hl:=ef sz c hsz
 refine⟨(List.range (c.length*sz)).map fun k=>(I b (o+k)).getD default,by simp,fun k y hk => ?_,All2.mk (by simp[hl]) fun k p y hp hy => ?_⟩
 ·have hlt:k<c.length*sz:=by have:=(List.getElem?_eq_some_iff.1 hk).1;simpa using this
  have hp:c.flatten[k]? = some c.flatten[k]:=by rw[List.getElem?_eq_getElem (by omega)]
  obtain⟨i,el,j,h1,h2,h3,_⟩:=nZ sz hpos c hsz k _ hp;obtain⟨z,hz,_⟩:=h i el j _ h1 h2;simp[hlt] at hk;rw[h3,hz] at hk ⊢
  simpa using hk
 ·obtain⟨i,el,j,h1,h2,h3,_⟩:=nZ sz hpos c hsz k p hp;obtain⟨z,hz,hr⟩:=h i el j _ h1 h2;have hlt:k<c.length*sz:=by rw[←hl];exact(List.getElem?_eq_some_iff.1 hp).1
  subst h3;rw[List.getElem?_map,List.getElem?_range hlt] at hy
  simp[hz] at hy;subst hy;exact hr
theorem eV {I:Nat→Nat→Option Value} {b o sz:Nat} {c:List (List PV)} {ys:List Value} (hsz:∀ e∈c,e.length=sz) (hI:∀ (k:Nat) (y:Value),ys[k]? = some y→I b (o+k)=some y) (h:All2 (RP I) c.flatten ys):Seg I b o sz c :=
 fun i el j p hi hj=>by
  obtain⟨y,h1,h2⟩:=h.get (tJ sz c hsz i el j p hi hj);exact⟨y,hI _ _ h1,h2⟩
theorem gj {ys:List Value} {ps:List PV} {I:Nat→Nat→Option Value} (h:All2 (RP I) ps ys):∀ u∈ys,u.oneCell'=true:=fun u hu=>by
 obtain⟨k,hk⟩:=List.mem_iff_getElem?.1 hu
 obtain⟨p,_,h2⟩:=h.getR hk;exact h2.one
def Brings (P:Program) (w:World) (size m:Nat) (x:Value) (news:List Value):Prop :=
 (Builtin.lenOf x).run P w=.ok m w∧(Builtin.firstCells size m x).run P w=.ok news.toArray w∧(Builtin.lenOf x).run P w.drew=.ok m w.drew∧(Builtin.firstCells size m x).run P w.drew=.ok news.toArray w.drew
theorem lD {c:List (List PV)} {sz:Nat} (hw:WI G w) (hpos:0<sz) (hsz:∀ e∈c,e.length=sz) (h:RP G.I (.sl c) x):∃ news,Brings P w sz c.length x news∧All2 (RP G.I) c.flatten news:=by
 obtain⟨ad,cap,rfl,hcap,hne⟩:=h.slice_inv;by_cases hc:c=[]
 ·subst hc;refine⟨[],⟨rfl,?_,rfl,?_⟩,.nil⟩<;>cases ad<;>simp[Builtin.firstCells,loadCells,loadCellsFrom]
 ·obtain⟨b,o,sz',rfl,hsz',hseg⟩:=hne hc;have hs:sz'=sz:=by
   cases c with
   | nil=>exact absurd rfl hc
   | cons e c=>rw[←hsz' e (by simp),hsz e (by simp)]
  subst hs;obtain⟨ys,h1,h2,h3⟩:=fj hpos hsz hseg;have hadd:∀ j,(⟨b,o,none⟩:Addr).add j=⟨b,o+j,none⟩:=fun j=>by simp only[Addr.add];split<;>simp_all
  have hc1:∀ j y,ys[j]? = some y→w.cell? ((⟨b,o,none⟩:Addr).add j)=some y:=fun j y hy=>by rw[hadd];exact hw.cell _ _ _ (h2 j y hy)
  refine⟨ys,⟨rfl,?_,rfl,?_⟩,h3⟩
  ·exact run_firstCells_some (P:=P) w sz' c.length ⟨b,o,none⟩ c.length cap ys h1 hc1
  ·exact run_firstCells_some (P:=P) w.drew sz' c.length ⟨b,o,none⟩ c.length cap ys h1 (by simpa using hc1)
theorem pz {s:List UInt8}:∃ news,Brings P w 1 s.length (.string (ByteArray.mk s.toArray)) news∧All2 (RP G.I) (s.map fun b=>[PV.int .u8 b.toNat]).flatten news:=by
 have hsz:(ByteArray.mk s.toArray).size=s.length:=by simp[ByteArray.size]
 have he:(ByteArray.mk s.toArray).extract 0 s.length=ByteArray.mk s.toArray:=by rw[ByteArray.extract_mk];simp
 refine⟨s.map fun b=>.int .u8 b.toNat,⟨by simp[Builtin.lenOf,hsz],?_,by simp[Builtin.lenOf,hsz],?_⟩,?_⟩
 ·simp[Builtin.firstCells,he]
 ·simp[Builtin.firstCells,he]
 ·induction s with
  | nil=>exact .nil
  | cons b s ih=>exact .cons (.int _ _) (ih (by simp[ByteArray.size]) (by rw[ByteArray.extract_mk];simp))
structure AppT (P:Program) (t u e:TypeId) (i:TypeInfo) (z:Value):Prop where
 ht:P.underlying t=some (.slice e)
 hu:∃ d,P.underlying u=some d∧∀ k,d≠.int k
 hi:P.info? e=some i
 hz:i.zero=some z
 hzs:z.cells.size=i.size
 hpos:0<i.size
 hby:i.bytes≤4096
theorem kw {t u ty e:TypeId} {i:TypeInfo} {z:Value} (A:AppT P t u e i z) {g n m cap:Nat} {cur:Array Value} {e':TypeId} {news:List Value} (hb:Brings P w i.size m x news)
  (hg:w.heap[g]? = some (.cells cur e' (0,0))) (hroom:n+m≤cap) (hfit:n*i.size+news.length≤cur.size) (h1:∀ u∈news,u.oneCell'=true) :
  (Builtin.append_ #[t,u] ty #[.slice (some ⟨g,0,none⟩) n cap,x]).run P w=.ok (.slice (some ⟨g,0,none⟩) (n+m) cap) (w.setRow g (cur.toList.take (n*i.size)++news++cur.toList.drop (n*i.size+news.length)).toArray):=by
 obtain⟨d,hd,hdn⟩:=A.hu;have hst:=run_storeCells_at P g (n*i.size) e' news 0 cur w hg (by simpa using hfit) h1
 simp only[Nat.add_zero] at hst;have hadd:(⟨g,0,none⟩:Addr).add (n*i.size)=⟨g,n*i.size,none⟩:=by simp only[Addr.add];split<;>simp_all
 have hm:(match d with|.int _=>true|_=>false)=false:=by cases d<;>first|rfl|exact absurd rfl (hdn _)
 simp[Builtin.append_,run_underlying A.ht,run_underlying hd,sizeOf,typeInfo,A.hi,hb.1,hb.2.1,hroom,hadd,hst]
theorem jc {t u ty e:TypeId} {i:TypeInfo} {z:Value} (A:AppT P t u e i z) {ad:Option Addr} (hb:Brings P w i.size 0 x []) :
  (Builtin.append_ #[t,u] ty #[.slice ad 0 0,x]).run P w=.ok (.slice ad 0 0) w:=by
 obtain⟨d,hd,hdn⟩:=A.hu;have hm:(match d with|.int _=>true|_=>false)=false:=by cases d<;>first|rfl|exact absurd rfl (hdn _)
 cases ad<;>simp[Builtin.append_,run_underlying A.ht,run_underlying hd,sizeOf,typeInfo,A.hi,hb.1,hb.2.1,storeCells]
theorem fp {t u ty e:TypeId} {i:TypeInfo} {z:Value} (A:AppT P t u e i z) {ad:Option Addr} {n m cap:Nat} {olds news:List Value} (hb:Brings P w i.size m x news)
  (ho:(Builtin.firstCells i.size n (.slice ad n cap)).run P w.drew=.ok olds.toArray w.drew) (hroom:cap<n+m) (hlim:n+m<fg) :
  (Builtin.append_ #[t,u] ty #[.slice ad n cap,x]).run P w=.ok (.slice (some ⟨w.heap.size,0,none⟩) (n+m) (grownCap w (n+m) cap e))
   (w.drew.alloc (.cells (olds.toArray++news.toArray++Builtin.zeroCells z.cells (grownCap w (n+m) cap e - (n+m))) e)):=by
 obtain⟨d,hd,hdn⟩:=A.hu;have hm:(match d with|.int _=>true|_=>false)=false:=by cases d<;>first|rfl|exact absurd rfl (hdn _)
 have hn:¬ (n+m≤cap):=by omega
 have h63:¬ ((9223372036854775807:Int)<((n:Int)+(m:Int))):=by simp[fg] at hlim;omega
 have hfit:¬ (281474976710656<Builtin.nextslicecap (n+m) cap*i.bytes):=by
  have hmul:(n+m)*i.bytes≤4294967296*4096:=Nat.mul_le_mul (by simp[fg] at hlim;omega) A.hby
  have:=growslice_fits (need:=n+m) (old:=cap) (bytes:=i.bytes) hroom (by omega)
  omega
 have hz : zeroValue e = (do let i ← typeInfo e; match i.zero with | some v => pure v | none => unsupported (.resourceLimit "a value of more than 2^22 cells")) := rfl
 simp[Builtin.append_,run_underlying A.ht,run_underlying hd,sizeOf,typeInfo,A.hi,hb.1,hb.2.2.2,hn,h63,hfit,ho,zeroValue,A.hz,newRow,grownCap,Question.forced,Question.cut];rw[show ∀ Z:Array Value,olds.toArray++(news.toArray++Z)=(olds++news).toArray++Z from fun Z=>by apply Array.ext';simp]
theorem fB {g:Nat} {cur new:Array Value} {e:TypeId} {fr:Nat×Nat} (hg:w.heap[g]? = some (.cells cur e fr)) (k:Nat):(w.setRow g new).cell? ⟨g,k,none⟩=new[k]? := by
 rw[aa (setRow_heap w g cur new e fr hg)]
def Gh.ext (G:Gh) (g o:Nat) (news:List Value) (ℓ:Own):Gh :=
 { G with I:=fun c k=>if c=g∧o≤k∧k<o+news.length then news[k - o]? else G.I c k,ow:=upd G.ow g (some ℓ) }
theorem qr (hw:WI G w) {ℓ ℓ':Own} {g o:Nat} {cur:Array Value} {e:TypeId} {news:List Value} (hg:w.heap[g]? = some (.cells cur e (0,0))) (hfit:o+news.length≤cur.size)
  (ho:G.ow g=some ℓ) (hℓ:∀ s,ℓ≠.box s) (hℓ':∀ s,ℓ'≠.box s) (hfree:∀ k,o≤k→G.I g k=none) :
  Gr (fun x=>x=ℓ) G w (G.ext g o news ℓ') (w.setRow g (cur.toList.take o++news++cur.toList.drop (o+news.length)).toArray) ∧
   WI (G.ext g o news ℓ') (w.setRow g (cur.toList.take o++news++cur.toList.drop (o+news.length)).toArray):=by
 have hlt:=dU hw ho
 have hI:∀ b k y,G.I b k=some y→(G.ext g o news ℓ').I b k=some y:=fun b k y h=>by
  show (if b=g∧o≤k∧k<o+news.length then news[k - o]? else G.I b k)=_
  rw[if_neg (fun ⟨e1,e2,_⟩=>by subst e1;rw[hfree k e2] at h;cases h)];exact h
 have hIne:∀ b k,b≠g→(G.ext g o news ℓ').I b k=G.I b k:=fun b k h=>by
  show (if b=g∧o≤k∧k<o+news.length then news[k - o]? else G.I b k)=_
  rw[if_neg (fun e=>h e.1)]
 refine⟨⟨⟨hI,fun c hc hn => ?_,by rw[dI];exact Nat.le_refl _,rfl,rfl,rfl,fun _ _=>rfl⟩,fun _ _ h=>h,fun c m hm hne => ?_⟩,⟨fun b k y h => ?_,fun b hb => ?_,fun b s hb k => ?_,fun s b hb => ?_,hw.tab.map fun c hc hn=>⟨by show upd G.ow g _ c=none;unfold upd;rw[if_neg (fun e=>by rw[e,ho] at hn;cases hn)];exact hn,setRow_other w g c _ (fun e=>by rw[e,ho] at hn;cases hn)⟩⟩⟩
 ·have hne:c≠g:=fun e=>by rw[e,ho] at hn;cases hn
  refine⟨?_,setRow_other w g c _ hne,fun k=>hIne c k hne⟩
  show upd G.ow g _ c=none
  unfold upd;rw[if_neg hne];exact hn
 ·have hne':c≠g:=fun e=>hne (by rw[e,ho] at hm;exact(Option.some.inj hm).symm)
  refine⟨?_,setRow_other w g c _ hne',fun k=>hIne c k hne'⟩
  show upd G.ow g _ c=some m
  unfold upd;rw[if_neg hne'];exact hm
 ·by_cases hb:b=g
  ·subst hb;rw[fB hg,gg _ _ _ hfit];have h':(if b=b∧o≤k∧k<o+news.length then news[k - o]? else G.I b k)=some y:=h
   by_cases hk:o≤k∧k<o+news.length
   ·rw[if_pos ⟨rfl,hk⟩] at h';rw[if_pos hk];exact h'
   ·rw[if_neg (fun e=>hk e.2)] at h'
    rw[if_neg hk];have:=hw.cell b k y h'
    rw[aa hg] at this;exact this
  ·rw[hIne b k hb] at h;rw[cell_setRow_other w g _ ⟨b,k,none⟩ hb];exact hw.cell b k y h
 ·rw[dI] at hb;have hne:b≠g:=by omega
  refine⟨fun k=>by rw[hIne b k hne];exact(hw.fresh b hb).1 k,?_⟩
  show upd G.ow g _ b=none
  unfold upd;rw[if_neg hne];exact(hw.fresh b hb).2
 ·have hb':upd G.ow g (some ℓ') b=some (.box s):=hb
  unfold upd at hb';split at hb'
  ·exact absurd (Option.some.inj hb') (hℓ' s)
  ·rename_i hne;rw[hIne b k hne];exact hw.boxI b s hb' k
 ·show upd G.ow g _ b=_
  have h1:=hw.bbow s b hb
  unfold upd;rw[if_neg (fun e=>by rw[e,ho] at h1;exact hℓ s (Option.some.inj h1))];exact h1
theorem eA (hw:WI G w):Gr (fun _=>False) G w G w.drew∧WI G w.drew :=
 ⟨⟨⟨fun _ _ _ h=>h,fun c _ h=>⟨h,rfl,fun _=>rfl⟩,Nat.le_refl _,rfl,rfl,rfl,fun _ _=>rfl⟩,fun _ _ h=>h,fun _ _ h _=>⟨h,rfl,fun _=>rfl⟩⟩,⟨hw.cell,hw.fresh,hw.boxI,hw.bbow,hw.tab.map fun _ _ h=>⟨h,rfl⟩⟩⟩
theorem qF (hw:WI G w) {c:List (List PV)} {ys:List Value} {rest:Array Value} {e:TypeId} {sz cap:Nat} {ℓ:Own} (hpos:0<sz) (hsz:∀ el∈c,el.length=sz) (hys:All2 (RP G.I) c.flatten ys)
  (hcap:c.length≤cap) (hrest:rest.size=(cap - c.length)*sz) (hc:c≠[]) (hℓ:∀ s,ℓ≠.box s) :
  ∃ G',Gr (fun _=>False) G w G' (w.alloc (.cells (ys.toArray++rest) e))∧WI G' (w.alloc (.cells (ys.toArray++rest) e))∧G'.bb=G.bb ∧
   OwnAt G' (w.alloc (.cells (ys.toArray++rest) e)) ℓ e c (.slice (some ⟨w.heap.size,0,none⟩) c.length cap):=by
 have hl:=ef sz c hsz
 have hyl:ys.length=c.length*sz:=by rw[←hys.length,hl]
 obtain⟨g,hw'⟩:=jN hw (cs:=ys.toArray++rest) (ty:=e) (fz:=(0,0)) (f:=fun k=>ys[k]?) (o:=some ℓ) (fun k y h=>by
  have hlt:=(List.getElem?_eq_some_iff.1 h).1
  rw[Array.getElem?_append_left (by simpa using hlt)];simpa using h) (fun s h=>hℓ s (Option.some.inj h))
 refine⟨_,g,hw',rfl,.inr ⟨hc,w.heap.size,cap,_,sz,rfl,by simp[Gh.row,upd],heap_alloc_new w _,hcap,?_,hpos,hsz,?_,fun o ho => ?_⟩⟩
 ·rw[Array.size_append,hrest];simp only[List.size_toArray,hyl,←Nat.add_mul]
  congr 1;omega
 ·refine eV hsz (ys:=ys) (fun k y h => ?_) (hys.imp fun p y _ h=>h.mono g.ext.I)
  show (if w.heap.size=w.heap.size then _ else _)=_
  rw[if_pos rfl,Nat.zero_add];exact h
 ·show (if w.heap.size=w.heap.size then _ else _)=_
  rw[if_pos rfl,List.getElem?_eq_none (by omega)]
theorem eO (z:Array Value) (n:Nat):(Builtin.zeroCells z n).size=n*z.size:=by simp[Builtin.zeroCells]
theorem qp {e u:TypeId} {X:AV} {cb:List (List PV)} {ℓ:Own} {sz:Nat} (h:fy P e u X=some cb) (hw:WI G w) (hX:RA G w ℓ X x) (hpos:0<sz) (hsz:∀ el∈cb,el.length=sz) :
  (∃ d,P.underlying u=some d∧∀ k,d≠.int k)∧∃ news,Brings P w sz cb.length x news∧All2 (RP G.I) cb.flatten news:=by
 unfold fy at h;split at h
 ·rename_i e' hu;exact⟨⟨_,hu,by simp⟩,lD hw hpos hsz (gi h hX)⟩
 ·rename_i hu;split at h
  case h_2=>cases h
  rename_i s;split at h
  case isFalse=>cases h
  cases h
  cases hX.strv
  refine⟨⟨_,hu,by simp⟩,?_⟩
  rw[List.length_map];by_cases hs:s=[]
  ·subst hs;refine⟨[],⟨rfl,?_,rfl,?_⟩,.nil⟩<;>simp[Builtin.firstCells]
  ·have h1:sz=1:=by
    cases s with
    | nil=>exact absurd rfl hs
    | cons b s=>exact(hsz [PV.int .u8 b.toNat] (by simp)).symm
   subst h1;exact pz
 ·cases h
theorem wJ {ts:List TypeId} {ty:TypeId} {sO:Operand} {X:AV} {ℓ:Own} (h:eW P ts (opd S.sl sO) X=some v) (hf:FR G w S a) (hw:WI G w) (hX:RA G w ℓ X x)
  (hdg:(∃ u,sO=.tmp u∧dg=if bC (opd S.sl sO) then some u else none)∨(∃ c,sO=.const c∧dg=none)) :
  ∃ z w' G',(Builtin.append_ ts.toArray ty #[a.eval sO,x]).run P w=.ok z w'∧Step G w S a dst v dg [] z G' w':=by
 unfold eW at h;split at h
 case h_2=>cases h
 rename_i t u;split at h
 case h_2=>cases h
 rename_i e ht;split at h
 case h_1=>cases h
 case h_2=>cases h
 case h_4=>cases h
 rename_i ca cb i hca hcb hi hnp hnf;split at h
 case isFalse=>cases h
 rename_i hcond;obtain⟨hlim,hby,hpos,hz,hsa,hsb,hot⟩:=hcond;cases h;have hsa':∀ el∈ca,el.length=i.size:=fun el hel=>by simpa using List.all_eq_true.1 hsa el hel
 have hsb':∀ el∈cb,el.length=i.size:=fun el hel=>by simpa using List.all_eq_true.1 hsb el hel
 cases hzz:i.zero with
 | none=>simp[hzz] at hz
 | some z =>
 have hzs:z.cells.size=i.size:=by simpa[hzz] using hz
 obtain⟨hu,news,hnews,hnall⟩:=qp hcb hw hX hpos hsb';have A:AppT P t u e i z:=⟨ht,hu,hi,hzz,hzs,hpos,hby⟩
 have hS:=hf.opd sO
 have hit:∀ t,dg=some t→(S.sl t).isIter=false:=fun t e=>by
  rcases hdg with⟨u2,hs2,h4⟩|⟨c,hs2,h4⟩
  ·rw[h4] at e
   split at e
   case isFalse=>cases e
   have e2:=Option.some.inj e
   subst e2;rw[hs2,show opd S.sl (.tmp u2)=S.sl u2 from rfl] at hca
   cases hv:S.sl u2 with
   | c v=>rw[hv] at hca;cases v<;>first|rfl|(exfalso;cases hca;done)
   | agg l=>rfl
   | tup l=>rfl
  ·rw[h4] at e;cases e
 let ℓd:Own:=match dst with|some d=>.slot d|none=>.ret
 have hℓd:∀ s,ℓd≠.box s:=fun s=>by cases dst<;>simp[ℓd]
 have hval:∀ {G':Gh} {w':World} {y:Value},OwnAt G' w' ℓd e (ca++cb) y→∀ d,dst=some d→RA G' w' (.slot d) (.c (.own e (ca++cb))) y:=fun hown d hd=>by subst hd;exact hown
 have hlens:∀ el∈ca++cb,el.length=i.size:=fun el hel=>by
  rcases List.mem_append.1 hel with h|h
  ·exact hsa' el h
  ·exact hsb' el h
 have hnl:news.length=cb.length*i.size:=by rw[←hnall.length,ef _ _ hsb']
 have fresh:∀ ad,a.eval sO=.slice ad 0 0→ca=[]→(ad=none∨∃ uu,dg=some uu∧OwnAt G w (.slot uu) e [] (.slice ad 0 0))→∃ z w' G',(Builtin.append_ [t,u].toArray ty #[a.eval sO,x]).run P w=.ok z w'∧Step G w S a dst (.c (.own e (ca++cb))) dg [] z G' w':=by
  intro ad he hca0 hoa;subst hca0;rw[he];by_cases hb0:cb=[]
  ·subst hb0;have hn0:news=[]:=List.eq_nil_of_length_eq_zero (by rw[hnl];simp)
   subst hn0;rcases hoa with hoa|⟨uu,hdu,hoa⟩
   ·exact⟨_,_,G,jc A hnews,Step.of_gr (ch:=fun _=>False) hf hw (.refl _ _) hw (hval (.inl ⟨rfl,ad,rfl,.inl hoa⟩)) (fun _ h=>h.elim) (fun s l hl=>.inl ⟨hl,fun h=>h,fun _ h=>h⟩) hf.nob hit⟩
   ·obtain⟨G',g,hw',hown',hbb⟩:=iq (ℓ':=ℓd) hw hoa (by simp) hℓd
    exact⟨_,_,G',jc A hnews,Step.of_gr hf hw g hw' (hval hown') (fun t' ht'=>.inr (by cases ht';exact hdu)) (fun s l hl=>.inl ⟨hl,by simp,by simp⟩) (fun s hs hlk=>by rw[hbb];exact hf.nob s hs hlk) hit⟩
  ·have hcl:0<cb.length:=List.length_pos_iff.2 hb0
   have hrun:=fp (ty:=ty) A (ad:=ad) (n:=0) (m:=cb.length) (cap:=0) (olds:=[]) hnews (by cases ad<;>simp[Builtin.firstCells,loadCells,loadCellsFrom]) (by omega) (by simpa using hlim)
   obtain⟨gd,hwd⟩:=eA hw;obtain⟨G',g,hw',hbb,hown⟩:=qF (w:=w.drew) (ℓ:=ℓd) (c:=cb) (ys:=news) (rest:=Builtin.zeroCells z.cells (grownCap w (0+cb.length) 0 e - (0+cb.length))) (e:=e) (cap:=grownCap w (0+cb.length) 0 e) hwd hpos hsb' hnall
    (by have:=grownCap_ge w (0+cb.length) 0 e;omega) (by rw[eO,hzs];congr 1;omega) hb0 hℓd
   refine⟨_,_,G',hrun,Step.of_gr (ch:=fun ℓ=>False∨False) hf hw ?_ ?_ ?_ (fun _ h=>by simp at h) (fun s l hl=>.inl ⟨hl,by simp,by simp⟩) (fun s hs hlk=>by rw[hbb];exact hf.nob s hs hlk) hit⟩
   ·simpa using gd.trans g
   ·simpa using hw'
   ·intro d hd;refine hval ?_ d hd
    simpa using hown
 have hcases:(∃ ad,a.eval sO=.slice ad 0 0∧ca=[]∧(ad=none∨∃ uu,sO=.tmp uu∧bC (opd S.sl sO)=true∧OwnAt G w (.slot uu) e [] (.slice ad 0 0)))∨(∃ uu,sO=.tmp uu∧bC (opd S.sl sO)=true∧ca≠[]∧OwnAt G w (.slot uu) e ca (a.eval sO))∨(∃ ad,a.eval sO=.slice ad ca.length ca.length∧ca≠[]∧cb≠[]∧RP G.I (.sl ca) (a.eval sO)):=by
  unfold content at hca;split at hca
  ·rename_i c' heq;exact(hnp _ heq).elim
  ·rename_i e' c' heq;cases hca;rw[heq] at hS;have hS':OwnAt G w (place sO) e' ca (a.eval sO):=hS
   rcases hS' with⟨h1,ad,h2,h3⟩|h1
   ·refine .inl ⟨ad,h2,h1,?_⟩
    cases sO with
    | tmp uu=>exact .inr ⟨uu,rfl,by rw[heq];rfl,.inl ⟨rfl,ad,rfl,h3⟩⟩
    | const c=>have:=jJ c;rw[show opd S.sl (.const c)=avOf c from rfl] at heq;rw[heq] at this;cases this
    | func f=>cases heq
    | global g=>cases heq
   ·cases sO with
    | tmp uu =>
     have hee:e'=e:=by
      rw[heq] at hot;rcases hot with hot|hot|hot
      ·cases hot
      ·exact Option.some.inj hot
      ·exact absurd (by simpa using hot) h1.1
     subst hee;exact .inr (.inl ⟨uu,rfl,by rw[heq];rfl,h1.1,.inr h1⟩)
    | const c=>have:=jJ c;rw[show opd S.sl (.const c)=avOf c from rfl] at heq;rw[heq] at this;cases this
    | func f=>cases heq
    | global g=>cases heq
  ·rename_i c' heq;cases hca;rw[heq] at hS;have hS':RP G.I (.sl ca) (a.eval sO)∧ca≠[]∧∃ ad n,a.eval sO=.slice ad n n:=hS
   obtain⟨hr,hne,ad,n,hx⟩:=hS';obtain⟨ad',cap,e1,_,_⟩:=hr.slice_inv;have e2:=hx.symm.trans e1
   injection e2 with _ e3 _
   exact .inr (.inr ⟨ad,by rw[hx,e3],hne,fun e=>hnf _ heq e,hr⟩)
  ·rename_i heq;cases hca;rw[heq] at hS;have hS':a.eval sO=.slice none 0 0:=hS
   exact .inl ⟨none,hS',rfl,.inl rfl⟩
  ·cases hca
 rcases hcases with⟨ad,h1,h2,h0⟩|⟨uu,rfl,hown,hne,hrow⟩|⟨ad,h1,hne,hb0,hr⟩
 ·refine fresh ad h1 h2 ?_
  rcases h0 with h0|⟨uu,rfl,ho,hoa⟩
  ·exact .inl h0
  ·refine .inr ⟨uu,?_,hoa⟩
   rcases hdg with⟨u2,h3,h4⟩|⟨c,h3,_⟩
   ·cases h3;rw[h4,if_pos ho]
   ·cases h3
 ·have hdg':dg=some uu:=by
   rcases hdg with⟨u2,h3,h4⟩|⟨c,h3,_⟩
   ·cases h3;rw[h4,if_pos hown]
   ·cases h3
  rcases hrow with⟨h0,_⟩|⟨_,b,cap,cur,sz,hx,how,hheap,hcap,hcur,hsz0,hszs,hseg,hfree⟩
  ·exact absurd h0 hne
  have hsz:sz=i.size:=by
   cases ca with
   | nil=>exact absurd rfl hne
   | cons el c=>rw[←hszs el (by simp),hsa' el (by simp)]
  subst hsz;rw[hx];have hne2:ca++cb≠[]:=by simp[hne]
  by_cases hroom:ca.length+cb.length≤cap
  ·have hfit:ca.length*i.size+news.length≤cur.size:=by rw[hnl,←hcur,←Nat.add_mul];exact Nat.mul_le_mul_right _ hroom
   have hrun:=kw (ty:=ty) A (g:=b) (n:=ca.length) (m:=cb.length) (cap:=cap) hnews hheap hroom hfit (gj hnall)
   obtain⟨g,hw'⟩:=qr (ℓ':=ℓd) hw hheap hfit how (by simp) hℓd hfree
   refine⟨_,_,_,hrun,Step.of_gr hf hw g hw' (hval ?_) (fun t' ht'=>.inr (by cases ht';exact hdg')) (fun s l hl=>.inl ⟨hl,by simp,by simp⟩) (fun s hs hlk=>hf.nob s hs hlk) hit⟩
   refine .inr ⟨hne2,b,cap,_,i.size,by rw[List.length_append],by simp[Gh.ext,upd],setRow_heap w b cur _ e _ hheap,by rw[List.length_append];exact hroom,by rw[fL _ _ _ hfit];exact hcur,hpos,hlens,?_,fun o ho => ?_⟩
   ·obtain⟨ys,hy1,hy2,hy3⟩:=fj hpos hsa' hseg;refine eV hlens (ys:=ys++news) (fun k y hk => ?_) ?_
    ·show (if b=b∧ca.length*i.size≤0+k∧0+k<ca.length*i.size+news.length then news[0+k - ca.length*i.size]? else G.I b (0+k))=_
     by_cases hlt:k<ys.length
     ·rw[List.getElem?_append_left hlt] at hk
      rw[if_neg (by omega)];exact hy2 k y hk
     ·rw[List.getElem?_append_right (by omega)] at hk
      have hkl:=(List.getElem?_eq_some_iff.1 hk).1
      rw[if_pos ⟨rfl,by omega,by omega⟩,←hk]
      congr 1;omega
    ·rw[List.flatten_append];exact(hy3.append hnall).imp fun p y _ h=>h.mono g.ext.I
   ·show (if b=b∧ca.length*i.size≤o∧o<ca.length*i.size+news.length then news[o - ca.length*i.size]? else G.I b o)=none
    rw[List.length_append,Nat.add_mul] at ho;rw[if_neg (by omega)];exact hfree o (by omega)
  ·obtain⟨ys,hy1,hy2,hy3⟩:=fj hpos hsa' hseg;have hold:(Builtin.firstCells i.size ca.length (.slice (some ⟨b,0,none⟩) ca.length cap)).run P w.drew=.ok ys.toArray w.drew:=by
    refine run_firstCells_some (P:=P) w.drew i.size ca.length ⟨b,0,none⟩ ca.length cap ys hy1 fun j y hj => ?_
    have hadd:(⟨b,0,none⟩:Addr).add j=⟨b,0+j,none⟩:=by simp only[Addr.add];split<;>simp_all
    rw[hadd];exact(eA hw).2.cell _ _ _ (hy2 j y hj)
   have hrun:=fp (ty:=ty) A (n:=ca.length) (m:=cb.length) (cap:=cap) hnews hold (by omega) hlim
   obtain⟨gd,hwd⟩:=eA hw;obtain⟨G',g,hw',hbb,hown'⟩:=qF (w:=w.drew) (ℓ:=ℓd) (c:=ca++cb) (ys:=ys++news) (rest:=Builtin.zeroCells z.cells (grownCap w (ca.length+cb.length) cap e - (ca.length+cb.length))) (e:=e) (cap:=grownCap w (ca.length+cb.length) cap e) hwd hpos hlens
    (by rw[List.flatten_append];exact hy3.append hnall) (by have:=grownCap_ge w (ca.length+cb.length) cap e;rw[List.length_append];omega) (by rw[eO,hzs,List.length_append]) hne2 hℓd
   rw[show ys.toArray++news.toArray=(ys++news).toArray from by simp] at hrun
   refine⟨_,_,G',hrun,Step.of_gr (ch:=fun ℓ=>False∨False) hf hw (gd.trans g) hw' (hval ?_) (fun _ h=>by simp at h) (fun s l hl=>.inl ⟨hl,by simp,by simp⟩) (fun s hs hlk=>by rw[hbb];exact hf.nob s hs hlk) hit⟩
   simpa using hown'
 ·obtain⟨olds,hold,holda⟩:=lD hw hpos hsa' hr;rw[h1] at hold ⊢;have hcl:0<cb.length:=List.length_pos_iff.2 hb0
  have hrun:=fp (ty:=ty) A (ad:=ad) (n:=ca.length) (m:=cb.length) (cap:=ca.length) hnews hold.2.2.2 (by omega) hlim
  obtain⟨gd,hwd⟩:=eA hw;obtain⟨G',g,hw',hbb,hown'⟩:=qF (w:=w.drew) (ℓ:=ℓd) (c:=ca++cb) (ys:=olds++news) (rest:=Builtin.zeroCells z.cells (grownCap w (ca.length+cb.length) ca.length e - (ca.length+cb.length))) (e:=e) (cap:=grownCap w (ca.length+cb.length) ca.length e) hwd hpos hlens
   (by rw[List.flatten_append];exact holda.append hnall) (by have:=grownCap_ge w (ca.length+cb.length) ca.length e;rw[List.length_append];omega) (by rw[eO,hzs,List.length_append]) (by simp[hne]) hℓd
  rw[show olds.toArray++news.toArray=(olds++news).toArray from by simp] at hrun
  refine⟨_,_,G',hrun,Step.of_gr (ch:=fun ℓ=>False∨False) hf hw (gd.trans g) hw' (hval ?_) (fun _ h=>by simp at h) (fun s l hl=>.inl ⟨hl,by simp,by simp⟩) (fun s hs hlk=>by rw[hbb];exact hf.nob s hs hlk) hit⟩
  simpa using hown'
end
end Go.Abs
namespace Go.Abs
open Go
section
variable {P:Program} {G G':Gh} {w w':World} {S:St} {a:Act} {dst dg:Option Nat} {v:AV} {x:Value}
theorem nQ:∀ {c:List (List PV)} {s:List UInt8} {ys:List Value},bytesOf c=some s→All2 (RP G.I) c.flatten ys→∃ ns:List Int,ys=ns.map (Value.int .u8)∧s=ns.map fun n=>UInt8.ofNat n.toNat
 | [],s,ys,h,hy=>by
  simp[bytesOf] at h;subst h;simp at hy;cases hy;exact⟨[],rfl,rfl⟩
 | e::c,s,ys,h,hy=>by
  unfold bytesOf at h;split at h
  ·rename_i heq;cases heq
  ·rename_i n c' heq;cases heq;simp only[Option.map_eq_some_iff] at h;obtain⟨s',hs,rfl⟩:=h;simp only[List.flatten_cons,List.singleton_append] at hy;cases hy with
   | cons h1 h2 =>
   cases h1
   obtain⟨ns,rfl,rfl⟩:=nQ hs h2;exact⟨n::ns,rfl,rfl⟩
  ·cases h
theorem mO:∀ {c:List (List PV)} {s:List UInt8},bytesOf c=some s→∀ e∈c,e.length=1
 | [],s,h,e,he=>by simp at he
 | x::c,s,h,e,he=>by
  unfold bytesOf at h;split at h
  ·rename_i heq;cases heq
  ·rename_i n c' heq;cases heq;simp only[Option.map_eq_some_iff] at h;obtain⟨s',hs,rfl⟩:=h;rcases List.mem_cons.1 he with rfl|he
   ·rfl
   ·exact mO hs e he
  ·cases h
theorem ga:∀ (ns:List Int) (s:List UInt8),ns.foldl (fun r n=>r.push (UInt8.ofNat n.toNat)) (ByteArray.mk s.toArray)=ByteArray.mk (s++ns.map fun n=>UInt8.ofNat n.toNat).toArray
 | [],s=>by simp
 | n::ns,s=>by
  simp only[List.foldl_cons,List.map_cons];have:(ByteArray.mk s.toArray).push (UInt8.ofNat n.toNat)=ByteArray.mk (s++[UInt8.ofNat n.toNat]).toArray:=by
   apply ByteArray.ext;simp[ByteArray.push]
  rw[this,ga ns];simp
theorem Ci {src dst':TypeId} {X:AV} {ℓ:Own} (h:fX P src dst' X=some v) (hf:FR G w S a) (hw:WI G w) (hX:RA G w ℓ X x) :
  ∃ z w' G',(Go.convert src dst' x).run P w=.ok z w'∧Step G w S a dst v none [] z G' w':=by
 unfold fX at h;split at h
 ·rename_i k' k hs hd;split at h
  case h_2=>cases h
  cases h
  exact⟨_,_,G,zJ ⟨_,hs⟩ hd hX.intv,Step.pure hf hw fun d _=>RA.of_RN (v:=.pv (.int _ _)) (RP.int _ _)⟩
 ·rename_i k hs hd;split at h
  case h_2=>cases h
  cases h
  rw[hX.intv];refine⟨_,_,G,run_convert_int_string _ _ _ _ _ (by rw[hs];rfl) hd,Step.pure hf hw fun d _=>RA.of_RN (v:=.pv (.str _)) ?_⟩
  exact RP.str _
 ·rename_i hs hd;split at h
  case h_2=>cases h
  cases h
  cases hX.strv
  exact⟨_,_,G,yj ⟨_,hs⟩ hd,Step.pure hf hw fun d _=>RA.of_RN (v:=.pv (.str _)) (RP.str _)⟩
 ·rename_i e hs hd;split at h
  case h_2=>cases h
  rename_i s;split at h
  case isFalse=>cases h
  rename_i hc;simp only[Bool.and_eq_true] at hc;cases h;cases hX.strv;have he:P.underlying e=some (.int .u8):=by
   have:=hc.1
   unfold isU8 at this
   split at this
   ·rename_i h;exact h
   ·cases this
  have hsz:(ByteArray.mk s.toArray).size=s.length:=by simp[ByteArray.size]
  have hrun:=run_bytes_of_string w src dst' e (ByteArray.mk s.toArray) hs hd he
  rw[hsz] at hrun;generalize hcap:grownCap w s.length 0 e=cap at hrun;have hge:s.length≤cap:=by rw[←hcap];exact grownCap_ge w s.length 0 e
  obtain⟨gd,hwd⟩:=eA hw;have hrow:∀ (k:Nat) (y:Value),(s.map fun b=>Value.int .u8 b.toNat)[k]? = some y→(bytesRow (ByteArray.mk s.toArray) cap)[k]? = some y:=fun k y hk=>by
   have hlt:=(List.getElem?_eq_some_iff.1 hk).1
   unfold bytesRow;rw[Array.getElem?_append_left (by simpa using hlt)]
   simpa using hk
  obtain⟨g,hw'⟩:=jN hwd (cs:=bytesRow (ByteArray.mk s.toArray) cap) (ty:=e) (fz:=((bytesRow (ByteArray.mk s.toArray) cap).size,(bytesRow (ByteArray.mk s.toArray) cap).size+1))
   (f:=fun k=>(s.map fun b=>Value.int .u8 b.toNat)[k]?) (o:=none) hrow (fun s h=>by cases h)
  refine⟨_,_,_,hrun,Step.of_gr hf hw (gd.trans g) hw' (fun d _=>RA.of_RN (v:=.pv (.sl _)) ?_) (fun _ h=>by simp at h) (fun s l hl=>.inl ⟨hl,by simp,by simp⟩) (fun s hs hlk=>hf.nob s hs hlk)⟩
  have hl:(s.map fun b=>[PV.int .u8 b.toNat]).length=s.length:=by simp
  show RP _ _ _
  rw[←hl];refine .of_seg (sz:=1) (by rw[hl];exact hge) (fun el hel=>by
   obtain⟨b,_,rfl⟩:=List.mem_map.1 hel;rfl) fun i el j p hi hj => ?_
  rw[List.getElem?_map] at hi
  cases hb:s[i]? with
  | none=>simp[hb] at hi
  | some b =>
   simp[hb] at hi;subst hi;cases j with
   | succ j=>simp at hj
   | zero =>
    simp at hj;subst hj;refine⟨.int .u8 b.toNat,?_,.int _ _⟩
    show (if w.drew.heap.size=w.drew.heap.size then _ else _)=_
    rw[if_pos rfl];simp[hb]
 ·rename_i e hs hd;split at h
  case isFalse=>cases h
  rename_i hc;have he:P.underlying e=some (.int .u8):=by
   unfold isU8 at hc;split at hc
   ·rename_i h;exact h
   ·cases hc
  split at h
  case h_2=>cases h
  rename_i c hcon;split at h
  case h_2=>cases h
  rename_i s hby;cases h;have hall:=mO hby
  obtain⟨ad,cap,rfl,hcap,hne⟩:=(gi hcon hX).slice_inv;by_cases hc0:c=[]
  ·subst hc0;simp[bytesOf] at hby
   subst hby;refine⟨.string (ByteArray.mk [].toArray),w,G,?_,Step.pure hf hw fun d _=>RA.of_RN (v:=.pv (.str _)) (RP.str _)⟩
   rw[run_convert_bytes_string w src dst' e ad _ _ hs he hd];cases ad with
   | none=>rfl
   | some ad =>
    exact run_bytesToString (P:=P) w ad 0 cap [] (by simp[loadCells,loadCellsFrom])
  ·obtain⟨b,o,sz,rfl,hsz,hseg⟩:=hne hc0;have hs1:sz=1:=by
    cases c with
    | nil=>exact absurd rfl hc0
    | cons el c=>rw[←hsz el (by simp),hall el (by simp)]
   subst hs1;obtain⟨ys,h1,h2,h3⟩:=fj (by omega) hsz hseg
   obtain⟨ns,rfl,rfl⟩:=nQ hby h3;refine⟨_,w,G,?_,Step.pure hf hw fun d _=>RA.of_RN (v:=.pv (.str _)) (RP.str _)⟩
   rw[run_convert_bytes_string w src dst' e _ _ _ hs he hd];have hload:(loadCells ⟨b,o,none⟩ c.length).run P w=.ok (ns.map (Value.int .u8)).toArray w:=by
    have:=run_loadCells_list (P:=P) w ⟨b,o,none⟩ (ns.map (Value.int .u8)) (fun j y hy=>by
     have hadd:(⟨b,o,none⟩:Addr).add j=⟨b,o+j,none⟩:=by simp only[Addr.add];split<;>simp_all
     rw[hadd];exact hw.cell _ _ _ (h2 j y hy))
    rw[←this];congr 2;omega
   rw[run_bytesToString w _ _ _ ns hload];have:=ga ns []
   simp only[List.nil_append] at this
   rw[←this];rfl
 ·cases h
theorem tY (hw:WI G w) (s:ByteArray) (pos:Nat) {o:Option Own} (ho:∀ s,o≠some (.box s)) :
  Gr (fun _=>False) G w { G with ow:=upd G.ow w.heap.size o } (w.alloc (.stringIter s pos))∧WI { G with ow:=upd G.ow w.heap.size o } (w.alloc (.stringIter s pos)):=by
 refine⟨⟨⟨fun _ _ _ h=>h,fun c hc hn=>⟨?_,aA w _ c hc,fun k=>rfl⟩,by rw[am];omega,rfl,rfl,rfl,fun k hk=>rfl⟩,fun s b hb=>hb,fun b ℓ hb _=>⟨?_,aA w _ b (dU hw hb),fun k=>rfl⟩⟩,⟨fun b k y h => ?_,fun b hb => ?_,fun b s hb k => ?_,fun s b hb => ?_,hw.tab.map fun c hc hn=>⟨by show upd G.ow w.heap.size _ c=none;unfold upd;rw[if_neg (by omega)];exact hn,aA w _ c hc⟩⟩⟩
 ·show upd G.ow w.heap.size _ c=none
  unfold upd;rw[if_neg (by omega)];exact hn
 ·have:=dU hw hb
  show upd G.ow w.heap.size _ b=_
  unfold upd;rw[if_neg (by omega)];exact hb
 ·rw[dH w _ (I_lt hw h)];exact hw.cell b k y h
 ·rw[am] at hb;refine⟨fun k=>(hw.fresh b (by omega)).1 k,?_⟩
  show upd G.ow w.heap.size _ b=none
  unfold upd;rw[if_neg (by omega)];exact(hw.fresh b (by omega)).2
 ·have hb':upd G.ow w.heap.size o b=some (.box s):=hb
  unfold upd at hb';split at hb'
  ·exact absurd hb' (ho s)
  ·exact hw.boxI b s hb' k
 ·have h1:=hw.bbow s b hb
  have h2:=dU hw h1
  show upd G.ow w.heap.size _ b=_
  unfold upd;rw[if_neg (by omega)];exact h1
theorem yM {t:TypeId} {X:AV} {ℓ:Own} (h:jv P t X=some v) (hf:FR G w S a) (hw:WI G w) (hX:RA G w ℓ X x) :
  ∃ z w' G',(Instr.range t x).run P w=.ok z w'∧Step G w S a dst v none [] z G' w':=by
 unfold jv at h;split at h
 case h_2=>cases h
 rename_i s;split at h
 case h_2=>cases h
 rename_i ht;cases h;cases hX.strv
 let ℓd:Own:=match dst with|some d=>.slot d|none=>.ret
 have hℓd:∀ s,some ℓd≠some (.box s):=fun s=>by cases dst<;>simp[ℓd]
 obtain⟨g,hw'⟩:=tY hw (ByteArray.mk s.toArray) 0 hℓd;refine⟨_,_,_,run_range_string w t _ ht,Step.of_gr hf hw g hw' (fun d hd => ?_) (fun _ h=>h.elim) (fun s l hl=>.inl ⟨hl,fun h=>h,fun _ h=>h⟩) (fun s hs hlk=>hf.nob s hs hlk)⟩
 subst hd;exact⟨w.heap.size,rfl,by simp[upd,ℓd],heap_alloc_new w _⟩
theorem jT (w:World) (b c:Nat) (o:Obj) (h:c≠b):(w.heap.setIfInBounds b o)[c]? = w.heap[c]? := by
 rw[Array.getElem?_setIfInBounds_ne (Ne.symm h)]
theorem sY {b u:Nat} {s s':ByteArray} {pos pos':Nat} (hw:WI G w) (hb:w.heap[b]? = some (.stringIter s pos)) (ho:G.ow b=some (.slot u)) :
  Gr (fun ℓ=>ℓ=.slot u) G w G { w with heap:=w.heap.setIfInBounds b (.stringIter s' pos') }∧WI G { w with heap:=w.heap.setIfInBounds b (.stringIter s' pos') }:=by
 refine⟨⟨⟨fun _ _ _ h=>h,fun c hc hn=>⟨hn,jT w b c _ (fun e=>by rw[e,ho] at hn;cases hn),fun k=>rfl⟩,by simp,rfl,rfl,rfl,fun k hk=>rfl⟩,fun s b hb=>hb,fun c ℓ hc hne=>⟨hc,jT w b c _ (fun e=>by rw[e,ho] at hc;exact hne (Option.some.inj hc).symm),fun k=>rfl⟩⟩,⟨fun c k y h => ?_,fun c hc=>hw.fresh c (by simpa using hc),hw.boxI,hw.bbow,hw.tab.map fun c hc hn=>⟨hn,jT w b c _ (fun e=>by rw[e,ho] at hn;cases hn)⟩⟩⟩
 have h0:=hw.cell c k y h
 have hne:c≠b:=fun e=>by
  subst e;simp[World.cell?,hb] at h0
 rw[←h0];simp only[World.cell?]
 rw[jT w b c _ hne]
theorem pY {p:PV} {x:Value} (h:RP G.I p x):RT G (.c (.pv p)) x:=h
theorem Bi {str:Bool} {X:Operand} {ty:TypeId} {d:Delta} (h:co dst str X (opd S.sl X)=some d) (hf:FR G w S a) (hw:WI G w) :
  ∃ v dg z w',d=.val v dg []∧(Instr.next (a.eval X) str ty).run P w=.ok z w'∧Step G w S a dst v dg [] z G w':=by
 unfold co at h;split at h
 case h_2=>cases h
 rename_i u s pos hv;split at h
 case isFalse=>cases h
 rename_i hc;simp only[Bool.and_eq_true,bne_iff_ne,ne_eq] at hc;obtain⟨rfl,hdu⟩:=hc;have hX:=hf.opd (.tmp u)
 rw[hv] at hX;obtain⟨b,he,ho,hh⟩:IterAt G w (.slot u) s pos (a.eval (.tmp u)):=hX;have hsz:(ByteArray.mk s.toArray).size=s.length:=by simp[ByteArray.size]
 split at h
 ·rename_i hlt;cases h;obtain⟨g,hw'⟩:=sY (s':=ByteArray.mk s.toArray) (pos':=fM s pos) hw hh ho;have hrun:(Instr.next (a.eval (.tmp u)) true ty).run P w=.ok (.tuple #[.bool true,.int .i64 pos,.int .i32 (Utf8.decode (ByteArray.mk s.toArray) pos).1]) { w with heap:=w.heap.setIfInBounds b (.stringIter (ByteArray.mk s.toArray) (fM s pos)) }:=by
   rw[he];have hbl:b<w.heap.size:=(Array.getElem?_eq_some_iff.1 hh).1
   simp[Instr.next,getObj,setObj,Sem.run,hh,hsz,hlt,goInt,fM]
  refine⟨_,_,_,_,rfl,hrun,⟨g.ext,hw',fun d' hd => ?_,fun t ht => ?_,fun s l hl=>(hf.box s l hl).gr hw g (by simp) (by simp),fun s hs hlk=>hf.nob s hs hlk⟩⟩
  ·exact⟨_,rfl,.cons (pY (.bool _)) (.cons (pY (.int _ _)) (.cons (pY (.int _ _)) .nil))⟩
  ·by_cases htu:u=t
   ·subst htu;rw[if_pos rfl,show S.sl u=.c (.iter s pos) from hv]
    have hbl:b<w.heap.size:=(Array.getElem?_eq_some_iff.1 hh).1
    exact⟨b,he,ho,by simp[hbl]⟩
   ·rw[if_neg (by simpa using htu)]
    exact(hf.slot t).gr g (by simpa using Ne.symm htu)
 ·rename_i hlt;cases h;have hrun:(Instr.next (a.eval (.tmp u)) true ty).run P w=.ok (.tuple #[.bool false]) w:=by
   rw[he];simp[Instr.next,getObj,Sem.run,hh,hsz,hlt]
  exact⟨_,_,_,_,rfl,hrun,Step.pure hf hw fun d _=>⟨_,rfl,.cons (pY (.bool _)) .nil⟩⟩
theorem lj {key:TypeId} {k:IntKind} (hk:P.underlying key=some (.int k)) (e:Bool) (n:Nat) (v:Value):(Instr.checkKey e (n+1) key v).run P w=.ok () w:=by
 unfold Instr.checkKey;simp only[Sem.run_bind,run_underlying hk,Result.andThen_ok];rfl
theorem jD {k:IntKind} {n:Int}:∀ {es:List MapEntry} (i:Nat),es.all (fun e=>match e.key with|.int k' _=>k'==k|_=>false)=true →
  (es.find? (kU k n)=none∧Instr.findNow (.int k) (.int k n) es i=some none)∨∃ e j,es.find? (kU k n)=some e∧Instr.findNow (.int k) (.int k n) es i=some (some (j,e.val))
 | [],i,_=>.inl ⟨rfl,rfl⟩
 | e::es,i,h=>by
  rw[List.all_cons,Bool.and_eq_true] at h;obtain⟨h1,h2⟩:=h;cases hke:e.key with
  | int k' m =>
   rw[hke] at h1;have hkk:k'=k:=by simpa using h1
   subst hkk;by_cases hnm:n=m
   ·right
    refine⟨e,i,?_,?_⟩
    ·rw[List.find?_cons];simp[kU,hke,hnm]
    ·rw[Instr.findNow,hke];simp[Instr.sameNow,hnm]
   ·have hf:kU k' n e=false:=by simp[kU,hke,hnm]
    have hs:Instr.findNow (.int k') (.int k' n) (e::es) i=Instr.findNow (.int k') (.int k' n) es (i+1):=by
     have hb:(n==m)=false:=by simpa using hnm
     rw[Instr.findNow,hke];simp only[Instr.sameNow,if_true,hb]
    rw[List.find?_cons,hf,hs]
    exact jD (i+1) h2
  | _=>rw[hke] at h1;cases h1
theorem BN {G:Gh} {w:World} {v:Value} {z:TV} (h:tvOf v=some z):RT G z v:=by
 have h3:=nl G w .ret v
 have h4:=jJ v
 unfold tvOf at h;split at h
 ·cases h
 ·rename_i u hne hv;cases h;rw[hv] at h3 h4;exact(h3.toRC (fun e=>hne e)).to_RN (by cases u<;>first|rfl|cases h4)
 ·rename_i l hv;cases h;rw[hv] at h3;exact h3
 ·cases h
theorem xG {t:TypeId} {X I' v:AV} {ℓ ℓ2 ℓ':Own} {x i:Value} {comma:Bool} (h:dB P t X I' comma=some v) (hx:RA G w ℓ X x) (hi:RA G w ℓ2 I' i) :
  ∃ z,(Instr.lookup t x i comma).run P w=.ok z w∧bC v=false∧RA G w ℓ' v z:=by
 unfold dB at h;split at h
 case h_2=>cases h
 rename_i key elem es k n ht;split at h
 case isFalse=>cases h
 rename_i hc;simp only[Bool.and_eq_true] at hc;obtain⟨⟨hk0,hcomma⟩,hall⟩:=hc;have hk:P.underlying key=some (.int k):=by
  unfold uZ at hk0;split at hk0
  ·rename_i k' hk';have:k'=k:=by simpa using hk0
   rw[hk',this]
  ·cases hk0
 subst hcomma;cases hi.intv;obtain⟨b,clock,rfl,_,hh⟩:MapAt G w ℓ es x:=hx;have hrun:∀ (r:Option (Nat×Value)) ,Instr.findNow (.int k) (.int k n) es 0=some r→(Instr.lookup t (.map (some b)) (.int k n) true).run P w=(do
   let (v,ok) ←match r with
    | some (_,v)=>(pure (v,true):Sem (Value×Bool))
    | none=>do pure (←zeroValue elem,false)
   pure (.tuple #[v,.bool ok]):Sem Value).run P w:=fun r hr=>by
  unfold Instr.lookup;have hget:(getObj b).run P w=.ok (.map es.toArray clock) w:=by simp[getObj,Sem.run,hh]
  have hfind:(Instr.findKey key (.int k n) es).run P w=.ok r w:=by
   unfold Instr.findKey;simp only[Sem.run_bind,run_underlying hk,Result.andThen_ok,hr];rfl
  have hck:=lj (w:=w) hk es.toArray.isEmpty 9999 (.int k n)
  simp only[Sem.run_bind,run_underlying ht,Result.andThen_ok,hget,Sem.run_pure,hck,hfind];cases r with
  | none=>simp
  | some p=>simp
 rcases jD (n:=n) 0 hall with⟨h1,h2⟩|⟨e,j,h1,h2⟩
 ·rw[h1] at h;simp only at h;split at h
  case h_2=>cases h
  rename_i z hz;cases h;obtain⟨y,hy1,hy2⟩:=vC (G:=G) (w:=w) hz;refine⟨.tuple #[y,.bool false],?_,rfl,[y,.bool false],rfl,.cons hy2 (.cons (pY (.bool false)) .nil)⟩
  rw[hrun none h2];simp[hy1]
 ·rw[h1] at h;simp only at h;split at h
  case h_2=>cases h
  rename_i z hz;cases h;refine⟨.tuple #[e.val,.bool true],?_,rfl,[e.val,.bool true],rfl,.cons (BN (w:=w) hz) (.cons (pY (.bool true)) .nil)⟩
  rw[hrun (some (j,e.val)) h2];simp
end
end Go.Abs
namespace Go.Abs
open Go
def REnd (n:Nat) (G':Gh) (w':World) (e:Ending):Res→Prop
 | .ret v cs=>∃ x,e=.returned x∧RA G' w' .ret v x∧cs.length=n∧∀ (i:Nat) (l:List CV),cs[i]? = some l→BoxR G' w' (LK+i) l
 | .pan v cs=>∃ x,e=.panicked [{ v:=x,recovered:=false }]∧RN G' v x∧cs.length=n∧∀ (i:Nat) (l:List CV),cs[i]? = some l→BoxR G' w' (LK+i) l
def Contract (P:Program) (f:FuncId) (args:List AV) (bxs:List (List CV)) (r:Res):Prop :=
 ∀ (G:Gh) (w:World) (cargs:List Value),WI G w→All2 (fun v x=>RA G w .ret v x) args cargs→(∀ v∈args,bC v=false) →
  (∀ (i:Nat) (l:List CV),bxs[i]? = some l→BoxR G w (LK+i) l)→(∀ s b,G.bb s=some b→∃ i,i<bxs.length∧s=LK+i) →
  Calls P f cargs.toArray w fun e w'=>∃ G',Ext G w G' w'∧WI G' w'∧REnd bxs.length G' w' e r
section
variable {P:Program} {G G':Gh} {w w':World} {S:St} {a:Act} {dst dg:Option Nat} {v:AV} {x:Value} {L:List Nat}
theorem nu {g:Nat→Option Nat} {v:CV} (h:v.ren g=.bld):v=.bld:=by
 cases v<;>simp only[CV.ren] at h<;>(try split at h)<;>first|rfl|cases h
theorem ia:∀ {L:List Nat} {s i:Nat},idx s L=some i→L[i]? = some s
 | [],s,i,h=>by simp[idx] at h
 | b::L,s,i,h=>by
  unfold idx at h;split at h
  ·rename_i e;simp at h;subst h;simp[e]
  ·simp only[Option.map_eq_some_iff] at h;obtain⟨j,hj,rfl⟩:=h
   simpa using ia hj
theorem iZ:∀ {L:List Nat} {s i:Nat},L.Nodup→L[i]? = some s→idx s L=some i
 | [],s,i,_,h=>by simp at h
 | b::L,s,0,_,h=>by simp at h;subst h;simp[idx]
 | b::L,s,i+1,hn,h=>by
  simp only[List.getElem?_cons_succ] at h
  have hmem:s∈L:=List.mem_of_getElem? h
  have hne:b≠s:=fun e=>by subst e;exact(List.nodup_cons.1 hn).1 hmem
  simp[idx,hne,iZ (List.nodup_cons.1 hn).2 h]
theorem vy:∀ {L:List Nat} {s:Nat},s∈L→∃ i,idx s L=some i
 | b::L,s,h=>by
  unfold idx;by_cases e:b=s
  ·exact⟨0,by simp[e]⟩
  ·rcases List.mem_cons.1 h with h1|h1
   ·exact absurd h1.symm e
   ·obtain⟨i,hi⟩:=vy h1;exact⟨i+1,by simp[e,hi]⟩
theorem jt:∀ l:List Nat,(dedup l).Nodup
 | []=>by simp[dedup]
 | a::l=>by
  unfold dedup;split
  ·exact jt l
  ·rename_i h;exact List.nodup_cons.2 ⟨by simpa using h,jt l⟩
theorem mg {s k:Nat} (h:lend L s=some k):back L k=some s∧LK≤k:=by
 unfold lend at h;simp only[Option.map_eq_some_iff] at h;obtain⟨i,hi,rfl⟩:=h;unfold back;rw[if_pos (by omega),Nat.add_sub_cancel_left]
 exact⟨ia hi,by omega⟩
theorem xy (hn:L.Nodup) {s k:Nat} (h:back L k=some s):lend L s=some k:=by
 unfold back at h;split at h
 case isFalse=>cases h
 rename_i hk;unfold lend;rw[iZ hn h];simp;omega
theorem vX {s k:Nat} (h:back L k=some s):LK≤k∧L[k - LK]? = some s:=by
 unfold back at h;split at h
 ·rename_i hk;exact⟨hk,h⟩
 ·cases h
def cx (L:List Nat):Option Own→Option Own
 | some (.box s)=>(lend L s).map Own.box
 | some (.cell s k)=>(lend L s).map fun t=>Own.cell t k
 | _=>none
def fU (G:Gh) (L:List Nat):Gh := { I:=G.I,bb:=fun k=>(back L k).bind G.bb,ow:=fun b=>cx L (G.ow b) }
theorem BQ (hn:L.Nodup) (hw:WI G w):WI (fU G L) w:=by
 refine⟨hw.cell,fun b hb=>⟨(hw.fresh b hb).1,?_⟩,fun b s hb o => ?_,fun k b hb => ?_,hw.tab.map fun c _ h=>⟨by show cx L (G.ow c)=none;rw[h];rfl,rfl⟩⟩
 ·show cx L (G.ow b)=none
  rw[(hw.fresh b hb).2];rfl
 ·have hb':cx L (G.ow b)=some (.box s):=hb
  cases ho:G.ow b with
  | none=>rw[ho] at hb';cases hb'
  | some ℓ =>
   rw[ho] at hb';cases ℓ<;>simp[cx] at hb'
   exact hw.boxI b _ ho o
 ·have hb':(back L k).bind G.bb=some b:=hb
  cases hk:back L k with
  | none=>rw[hk] at hb';cases hb'
  | some s =>
   rw[hk] at hb'
   show cx L (G.ow b)=_
   rw[hw.bbow s b hb'];simp[cx,xy hn hk]
theorem tW {g:Nat→Option Nat} {bb bb':Nat→Option Nat} (h:∀ s k b,g s=some k→bb s=some b→bb' k=some b):∀ {caps caps':List (Nat×Nat)} {vs:List Value},pf g caps=some caps' →
  All2 (fun (c:Nat×Nat) v=>∃ b,bb c.1=some b∧v=.pointer (some ⟨b,c.2,none⟩)) caps vs→All2 (fun (c:Nat×Nat) v=>∃ b,bb' c.1=some b∧v=.pointer (some ⟨b,c.2,none⟩)) caps' vs
 | [],caps',_,hc,.nil=>by simp[pf] at hc;subst hc;exact .nil
 | (s,o)::caps,caps',v::vs,hc,.cons h1 h2=>by
  unfold pf at hc;split at hc
  case h_2=>cases hc
  rename_i k m hk hm;cases hc;obtain⟨b,h3,h4⟩:=h1;exact .cons ⟨b,h s k b hk h3,h4⟩ (tW h hm h2)
theorem RN.ren {G1:Gh} {g:Nat→Option Nat} (hI:∀ b o y,G.I b o=some y→G1.I b o=some y) (h:∀ s k b,g s=some k→G.bb s=some b→G1.bb k=some b) {u:CV} (hu:RN G u x):RN G1 (u.ren g) x:=by
 have hone:=hu.one
 cases u with
 | loc s off =>
  obtain⟨b,h1,h2⟩:=hu;simp only[CV.ren];split
  ·rename_i k hk;exact⟨b,h s k b hk h1,h2⟩
  ·exact hone
 | fn f caps =>
  obtain⟨vs,h1,h2⟩:=hu;simp only[CV.ren];split
  ·rename_i m hm;exact⟨vs,h1,tW h hm h2⟩
  ·exact hone
 | cptr l =>
  obtain⟨b,o,h1,h2⟩:=hu;exact⟨b,o,h1,fun j p hp=>let ⟨y,h3,h4⟩:=h2 j p hp;⟨y,hI _ _ _ h3,h4.mono hI⟩⟩
 | pv p=>exact RP.mono hI hu
 | full c=>exact⟨RP.mono hI hu.1,hu.2⟩
 | top=>exact hu
 | nils=>exact hu
 | nilp=>exact hu
 | own e c=>exact False.elim hu
 | iter s pos=>exact False.elim hu
 | cmap es=>exact False.elim hu
 | bld=>exact hu
theorem RT.ren {G1:Gh} {g:Nat→Option Nat} (hI:∀ b o y,G.I b o=some y→G1.I b o=some y) (h:∀ s k b,g s=some k→G.bb s=some b→G1.bb k=some b) {u:TV} (hu:RT G u x):RT G1 (u.ren g) x:=by
 cases u with
 | c u=>exact RN.ren hI h hu
 | agg l=>obtain⟨vs,h1,h2⟩:=hu;exact⟨vs,h1,All2.cV (h2.imp fun _ _ _ h3=>h3.ren hI h)⟩
theorem wT (g:Nat→Option Nat) (u:CV) (h:bC (.c u)=false):bC (.c (u.ren g))=false:=by
 cases u with
 | loc s off=>simp only[CV.ren];split<;>rfl
 | fn f caps=>simp only[CV.ren];split<;>rfl
 | own e c=>cases h
 | iter s pos=>cases h
 | cmap es=>cases h
 | _=>rfl
theorem RA.ren_plain {G1:Gh} {w1:World} {g:Nat→Option Nat} (hI:∀ b o y,G.I b o=some y→G1.I b o=some y) (h:∀ s k b,g s=some k→G.bb s=some b→G1.bb k=some b) {ℓ ℓ':Own}
  (hv:bC v=false) (hu:RA G w ℓ v x):RA G1 w1 ℓ' (v.ren g) x:=by
 cases v with
 | c u =>
  by_cases ht:u=.top
  ·subst ht;exact trivial
  ·exact RA.of_RN (v:=u.ren g) (((hu.toRC ht).to_RN (by cases u<;>first|rfl|cases hv)).ren hI h)
 | agg l=>obtain⟨vs,h1,h2⟩:=hu;exact⟨vs,h1,All2.cV (h2.imp fun _ _ _ h3=>h3.ren hI h)⟩
 | tup l=>obtain⟨vs,h1,h2⟩:=hu;exact⟨vs,h1,All2.cV (h2.imp fun _ _ _ h3=>h3.ren hI h)⟩
theorem nv (s k b:Nat) (h:lend L s=some k) (hb:G.bb s=some b):(fU G L).bb k=some b:=by
 show (back L k).bind G.bb=_
 rw[(mg h).1];exact hb
theorem wM (hn:L.Nodup) {i s:Nat} {l:List CV} (hi:L[i]? = some s) (h:BoxR G w s l):BoxR (fU G L) w (LK+i) (l.map (CV.ren (lend L))):=by
 obtain⟨b,cs,ty,h1,h2,h3,h4⟩:=h;have hl:lend L s=some (LK+i):=by unfold lend;rw[iZ hn hi];rfl
 refine⟨b,cs,ty,nv s _ b hl h1,h2,⟨by simpa using h3.1,h3.2.map (fun v e=>nu e)⟩,fun k u hu => ?_⟩
 rw[List.getElem?_map,Option.map_eq_some_iff] at hu
 obtain⟨u',hu',rfl⟩:=hu;obtain⟨y,h5,h6⟩:=h4 k u' hu';refine⟨y,h5,?_⟩
 by_cases ho:u'.plain=true
 ·exact .of_RN (RN.ren (G:=G) (G1:=fU G L) (fun _ _ _ h=>h) nv (h6.to_RN ho))
 ·cases u'<;>simp[CV.plain] at ho
  case iter s2 pos=>exact IterAt.one h6
  case cmap es =>
   obtain⟨b',clock,k1,k2,k3⟩:=(h6:MapAt G w (.cell s k) es y);refine⟨b',clock,k1,?_,k3⟩
   show cx L (G.ow b')=_
   rw[k2];simp[cx,hl]
  rename_i e c;have h7:OwnAt G w (.cell s k) e c y:=h6
  show OwnAt (fU G L) w (.cell (LK+i) k) e c y
  rcases h7 with⟨h7,ad,h8,h9⟩|⟨hne,b',cap,cur,sz,k1,k2,k3⟩
  ·refine .inl ⟨h7,ad,h8,h9.map fun b' hb'=>⟨?_,rfl⟩⟩
   show cx L (G.ow b')=_
   rw[hb'];simp[cx,hl]
  ·refine .inr ⟨hne,b',cap,cur,sz,k1,?_,k3⟩
   show cx L (G.ow b')=_
   rw[k2];simp[cx,hl]
def fS (L:List Nat) (o:Own):Option Own→Option Own
 | some (.box k)=>(back L k).map Own.box
 | some (.cell k j)=>(back L k).map fun s=>Own.cell s j
 | some .ret=>some o
 | _=>none
def js (G:Gh) (n:Nat) (L:List Nat) (o:Own) (G1:Gh):Gh :=
  { I:=G1.I,bb:=G.bb,ow:=fun b=>if b<n∧cx L (G.ow b)=none then G.ow b else fS L o (G1.ow b) }
def mt (L:List Nat) (ℓ:Own):Prop:=∃ s∈L,ℓ=.box s∨∃ k,ℓ=.cell s k
theorem tL {ℓ:Own} (h:¬ mt L ℓ):cx L (some ℓ)=none:=by
 have hn:∀ s,s ∉ L→lend L s=none:=fun s hs=>by
  unfold lend;cases hi:idx s L with
  | none=>rfl
  | some i=>exact absurd (List.mem_of_getElem? (ia hi)) hs
 cases ℓ with
 | box s =>
  have:s ∉ L:=fun hs=>h ⟨s,hs,.inl rfl⟩
  simp[cx,hn s this]
 | cell s k =>
  have:s ∉ L:=fun hs=>h ⟨s,hs,.inr ⟨k,rfl⟩⟩
  simp[cx,hn s this]
 | slot t=>rfl
 | ret=>rfl
theorem Aw {o:Own} {G1:Gh} (hn:L.Nodup) (hw:WI G w) (hx:Ext (fU G L) w G1 w') (hw1:WI G1 w') (ho:∀ s,o≠.box s) :
  Gr (mt L) G w (js G w.heap.size L o G1) w'∧WI (js G w.heap.size L o G1) w':=by
 refine⟨⟨⟨hx.I,fun b hb hno => ?_,hx.size,hx.os,hx.output,hx.tape,fun _ _=>rfl⟩,fun _ _ h=>h,fun b ℓ hb hne => ?_⟩,⟨hw1.cell,fun b hb=>⟨(hw1.fresh b hb).1,?_⟩,fun b s hb k => ?_,fun s b hb => ?_,hw.tab.map fun b hb hno => ?_⟩⟩
 ·have h1:(fU G L).ow b=none:=by show cx L (G.ow b)=none;rw[hno];rfl
  have h2:=hx.old b hb h1
  refine⟨?_,h2.2.1,h2.2.2⟩
  show (if b<w.heap.size∧cx L (G.ow b)=none then G.ow b else _)=none
  rw[if_pos ⟨hb,h1⟩];exact hno
 ·have hlt:=dU hw hb
  have h1:(fU G L).ow b=none:=by show cx L (G.ow b)=none;rw[hb];exact tL hne
  have h2:=hx.old b hlt h1
  refine⟨?_,h2.2.1,h2.2.2⟩
  show (if b<w.heap.size∧cx L (G.ow b)=none then G.ow b else _)=some ℓ
  rw[if_pos ⟨hlt,h1⟩];exact hb
 ·show (if b<w.heap.size∧cx L (G.ow b)=none then G.ow b else fS L o (G1.ow b))=none
  have:=hx.size
  rw[if_neg (by omega),(hw1.fresh b hb).2];rfl
 ·have hb':(if b<w.heap.size∧cx L (G.ow b)=none then G.ow b else fS L o (G1.ow b))=some (.box s):=hb
  split at hb'
  ·rename_i hc;have h2:=hx.old b hc.1 hc.2
   show G1.I b k=none
   rw[h2.2.2 k];exact hw.boxI b s hb' k
  ·cases h3:G1.ow b with
   | none=>rw[h3] at hb';cases hb'
   | some ℓ =>
    rw[h3] at hb';cases ℓ<;>simp[fS] at hb'
    ·exact hw1.boxI b _ h3 k
    ·exact absurd hb' (ho s)
 ·show (if b<w.heap.size∧cx L (G.ow b)=none then G.ow b else fS L o (G1.ow b))=some (.box s)
  have h1:=hw.bbow s b hb
  have hlt:=dU hw h1
  by_cases hc:cx L (G.ow b)=none
  ·rw[if_pos ⟨hlt,hc⟩];exact h1
  ·rw[if_neg (fun e=>hc e.2)]
   rw[h1] at hc;cases hl:lend L s with
   | none=>simp[cx,hl] at hc
   | some k =>
    have h2:=nv (G:=G) s k b hl hb
    have h3:=hx.lent k (mg hl).2
    rw[h2] at h3;rw[hw1.bbow k b h3];simp[fS,(mg hl).1]
 ·have h1:(fU G L).ow b=none:=by show cx L (G.ow b)=none;rw[hno];rfl
  have h2:=hx.old b hb h1
  refine⟨?_,h2.2.1⟩
  show (if b<w.heap.size∧cx L (G.ow b)=none then G.ow b else _)=none
  rw[if_pos ⟨hb,h1⟩];exact hno
theorem lf {G1:Gh} (hx:Ext (fU G L) w G1 w') (k s b:Nat) (h:back L k=some s) (hb:G1.bb k=some b):G.bb s=some b:=by
 have h1:=hx.lent k (vX h).1
 have h2:(fU G L).bb k=G.bb s:=by show (back L k).bind G.bb=_;rw[h];rfl
 rw[←h2,←h1];exact hb
theorem qk {o:Own} {G1:Gh} (hx:Ext (fU G L) w G1 w') {ℓ ℓ':Own} (hℓ:fS L o (some ℓ)=some ℓ') {e:TypeId} {c:List (List PV)} {y:Value} (h:OwnAt G1 w' ℓ e c y):OwnAt (js G w.heap.size L o G1) w' ℓ' e c y:=by
 have key:∀ b,G1.ow b=some ℓ→(if b<w.heap.size∧cx L (G.ow b)=none then G.ow b else fS L o (G1.ow b))=some ℓ':=fun b k2=>by
  rw[if_neg (fun ⟨h1,h2⟩=>by have:=(hx.old b h1 h2).1;rw[k2] at this;cases this),k2]
  exact hℓ
 rcases h with⟨h1,ad,h2,h3⟩|⟨hne,b,cap,cur,sz,k1,k2,k3⟩
 ·exact .inl ⟨h1,ad,h2,h3.map fun b hb=>⟨key b hb,rfl⟩⟩
 ·exact .inr ⟨hne,b,cap,cur,sz,k1,key b k2,k3⟩
theorem pW {o:Own} {G1:Gh} (hx:Ext (fU G L) w G1 w') {ℓ ℓ':Own} (hℓ:fS L o (some ℓ)=some ℓ') {es:List MapEntry} {y:Value} (h:MapAt G1 w' ℓ es y):MapAt (js G w.heap.size L o G1) w' ℓ' es y:=by
 obtain⟨b,clock,k1,k2,k3⟩:=h;refine⟨b,clock,k1,?_,k3⟩
 show (if b<w.heap.size∧cx L (G.ow b)=none then G.ow b else fS L o (G1.ow b))=some ℓ'
 rw[if_neg (fun ⟨h1,h2⟩=>by have:=(hx.old b h1 h2).1;rw[k2] at this;cases this),k2]
 exact hℓ
theorem pd {o:Own} {G1:Gh} (hn:L.Nodup) (hx:Ext (fU G L) w G1 w') {i s:Nat} {l:List CV} (hi:L[i]? = some s) (h:BoxR G1 w' (LK+i) l) :
  BoxR (js G w.heap.size L o G1) w' s (l.map (CV.ren (back L))):=by
 obtain⟨b,cs,ty,h1,h2,h3,h4⟩:=h;have hb:back L (LK+i)=some s:=by unfold back;rw[if_pos (by omega),Nat.add_sub_cancel_left];exact hi
 refine⟨b,cs,ty,lf hx _ s b hb h1,h2,⟨by simpa using h3.1,h3.2.map (fun v e=>nu e)⟩,fun k u hu => ?_⟩
 rw[List.getElem?_map,Option.map_eq_some_iff] at hu
 obtain⟨u',hu',rfl⟩:=hu;obtain⟨y,h5,h6⟩:=h4 k u' hu';refine⟨y,h5,?_⟩
 by_cases ho:u'.plain=true
 ·exact .of_RN (RN.ren (G:=G1) (G1:=js G w.heap.size L o G1) (fun _ _ _ h=>h) (lf (G:=G) hx) (h6.to_RN ho))
 ·cases u'<;>simp[CV.plain] at ho
  case iter s2 pos=>exact IterAt.one h6
  case cmap es=>exact pW hx (by simp[fS,hb]) (h6:MapAt G1 w' (.cell (LK+i) k) es y)
  exact qk hx (by simp[fS,hb]) (h6:OwnAt G1 w' (.cell (LK+i) k) _ _ y)
theorem li {bx:Nat→Option (List CV)}:∀ {L:List Nat} {cs:List (List CV)},aJ bx L=some cs→cs.length=L.length∧∀ (i:Nat) (l:List CV),cs[i]? = some l→∃ s,L[i]? = some s∧bx s=some l
 | [],cs,h=>by simp[aJ] at h;subst h;exact⟨rfl,fun i l h=>by simp at h⟩
 | s::L,cs,h=>by
  unfold aJ at h;split at h
  case h_2=>cases h
  rename_i c m hc hm;cases h;obtain⟨h1,h2⟩:=li hm;refine⟨by simp[h1],fun i l hi => ?_⟩
  cases i with
  | zero=>simp at hi;subst hi;exact⟨s,rfl,hc⟩
  | succ i=>simpa using h2 i l (by simpa using hi)
theorem jR {g:FuncId} {args:List AV} {cargs:List Value} {cs:List (List CV)} {r:Res} {o:Own} (hn:L.Nodup) (hf:FR G w S a) (hw:WI G w) (ho:∀ s,o≠.box s)
  (hg:aJ S.bx L=some cs) (hargs:All2 (fun v x=>∃ ℓ,RA G w ℓ v x) args cargs)
  (hc:Contract P g (args.map fun a=>(a.deg).ren (lend L)) (cs.map fun c=>c.map (CV.ren (lend L))) r) :
  Calls P g cargs.toArray w fun e w'=>∃ G',Gr (mt L) G w G' w'∧WI G' w'∧G'.bb=G.bb ∧
   match r with
   | .ret v cs'=>∃ x,e=.returned x∧RA G' w' o (v.ren (back L)) x∧cs'.length=L.length∧∀ (i s:Nat) (l:List CV),L[i]? = some s→cs'[i]? = some l→BoxR G' w' s (l.map (CV.ren (back L)))
   | .pan v cs'=>∃ x,e=.panicked [{ v:=x,recovered:=false }]∧RN G' (v.ren (back L)) x∧cs'.length=L.length∧∀ (i s:Nat) (l:List CV),L[i]? = some s→cs'[i]? = some l→BoxR G' w' s (l.map (CV.ren (back L))):=by
 obtain⟨hlen,hget⟩:=li hg;refine(hc (fU G L) w cargs (BQ hn hw) (All2.cV (hargs.imp fun v x _ ⟨ℓ,h⟩=>RA.ren_plain (G:=G) (G1:=fU G L) (w:=w) (fun _ _ _ h=>h) nv (gc v) (h.deg (ℓ':=ℓ)))) ?_ ?_ ?_).mono ?_
 ·intro v hv;obtain⟨u,_,rfl⟩:=List.mem_map.1 hv;have h1:=gc u
  cases hd:u.deg with
  | c u'=>rw[hd] at h1;show bC (.c (u'.ren _))=false;exact wT _ _ h1
  | agg l=>rfl
  | tup l=>rfl
 ·intro i l hl;rw[List.getElem?_map,Option.map_eq_some_iff] at hl
  obtain⟨l',hl',rfl⟩:=hl;obtain⟨s,hs,hb⟩:=hget i l' hl';exact wM hn hs (hf.box s l' hb)
 ·intro s b hb;have hb':(back L s).bind G.bb=some b:=hb
  cases hk:back L s with
  | none=>rw[hk] at hb';cases hb'
  | some t =>
   obtain⟨h1,h2⟩:=vX hk;have:=(List.getElem?_eq_some_iff.1 h2).1
   exact⟨s - LK,by simp[hlen];exact this,by omega⟩
 ·rintro e w' ⟨G1,hx,hw1,hr⟩
  obtain⟨g1,hw2⟩:=Aw (o:=o) hn hw hx hw1 ho;refine⟨_,g1,hw2,rfl,?_⟩
  have hl:(cs.map fun c=>c.map (CV.ren (lend L))).length=L.length:=by simp[hlen]
  cases r with
  | ret v cs' =>
   obtain⟨x,h1,h2,h3,h4⟩:=hr;refine⟨x,h1,?_,by rw[h3,hl],fun i s l hi hl'=>pd hn hx hi (h4 i l hl')⟩
   by_cases hv:bC v=true
   ·cases v with
    | c u =>
     cases u<;>first|(cases hv;done)|skip
     case iter s2 pos=>exact trivial
     case cmap es=>exact pW hx rfl (h2:MapAt G1 w' .ret es x)
     exact qk hx rfl (h2:OwnAt G1 w' .ret _ _ x)
    | agg l=>cases hv
    | tup l=>cases hv
   ·exact RA.ren_plain (G:=G1) (G1:=js G w.heap.size L o G1) (fun _ _ _ h=>h) (lf (G:=G) hx) (by simpa using hv) h2
  | pan v cs' =>
   obtain⟨x,h1,h2,h3,h4⟩:=hr;exact⟨x,h1,RN.ren (G:=G1) (G1:=js G w.heap.size L o G1) (fun _ _ _ h=>h) (lf (G:=G) hx) h2,by rw[h3,hl],fun i s l hi hl'=>pd hn hx hi (h4 i l hl')⟩
end
end Go.Abs
namespace Go.Abs
structure Tok where
 kind:Int
 text:List UInt8
 n:Int
 deriving DecidableEq
def I64 (n:Int):Prop := -9223372036854775808≤n∧n≤9223372036854775807
def oneS (t:Tok):List UInt8 :=
 if t.kind=1 then t.text
 else if t.kind=2 then t.text++[40]
 else if t.kind=3 then 64::t.text
 else if t.kind=4 then 35::t.text
 else if t.kind=5 then Lib.itoa t.n++t.text
 else if t.kind=6 then(if t.n=39 then 39::t.text++[39] else 34::t.text++[34])
 else if t.kind=7 then(if t.text=[34]∨t.text=[39] then t.text++[47,42,10,42,47] else t.text)
 else if t.kind=8 then [10]
 else []
namespace Tk
def begins (c:UInt8):Bool:=decide (97≤c.toNat∧c.toNat≤122∨65≤c.toNat∧c.toNat≤90∨c.toNat=95∨128≤c.toNat)
def digit (c:UInt8):Bool:=decide (48≤c.toNat∧c.toNat≤57)
def within (c:UInt8):Bool:=begins c||digit c||c==45
def blank (c:UInt8):Bool:=c==32||c==10||c==9||c==12||c==13
def ending (c:UInt8):Bool:=c==10||c==12||c==13
def run (p:UInt8→Bool):List UInt8→Nat
 | []=>0
 | c::r=>if p c then run p r+1 else 0
def at0:List UInt8→UInt8
 | []=>0
 | c::_=>c
def dJ (l:List UInt8):Bool:=begins (at0 l)||(at0 l==45&&(begins (at0 l.tail)||at0 l.tail==45))
def name (l:List UInt8):Nat:=if dJ l then run within l else 0
def shut:List UInt8→Option Nat
 | []=>none
 | c::r=>if c=42∧at0 r=47 then some 2 else(shut r).map (· + 1)
def inner (q:UInt8):List UInt8→Option Nat
 | []=>none
 | c::r=>if c=q then some 0 else if ending c then none else(inner q r).map (· + 1)
def num (n:Int):List UInt8→Int
 | []=>n
 | c::r=>if digit c then num (min (10*n+(c.toNat - 48)) 999999999) r else n
def unit (l:List UInt8):Nat:=if at0 l=37 then 1 else name l
def comment (r:List UInt8):Nat:=match shut r with|some n=>n+2|none=>r.length+2
def number (neg:Bool) (l:List UInt8):Tok×Nat :=
 let e:=l.drop (run digit l)
 (⟨5,e.take (unit e),if neg then - num 0 l else num 0 l⟩,run digit l+unit e)
def step (c:UInt8) (r:List UInt8):Option Tok×Nat :=
 if c=47∧at0 r=42 then(none,comment r.tail)
 else if blank c then(some ⟨8,[10],0⟩,run blank (c::r))
 else if (c=34∨c=39)∧(inner c r).isSome then(some ⟨6,r.take ((inner c r).getD 0),c.toNat⟩,(inner c r).getD 0+2)
 else if c=35∧0<run within r then(some ⟨4,r.take (run within r),0⟩,run within r+1)
 else if c=64∧0<name r then(some ⟨3,r.take (name r),0⟩,name r+1)
 else if digit c then(some (number false (c::r)).1,(number false (c::r)).2)
 else if c=45∧digit (at0 r) then(some (number true r).1,(number true r).2+1)
 else if 0<name (c::r) then
  if at0 ((c::r).drop (name (c::r)))=40 then(some ⟨2,(c::r).take (name (c::r)),0⟩,name (c::r)+1)
  else(some ⟨1,(c::r).take (name (c::r)),0⟩,name (c::r))
 else(some ⟨7,[c],0⟩,1)
def allN:Nat→List UInt8→List Tok
 | 0,_=>[]
 | _,[]=>[]
 | k+1,c::r=>(step c r).1.toList++allN k ((c::r).drop (step c r).2)
def all (l:List UInt8):List Tok:=allN l.length l
def may (t:Tok):Bool:=decide (all (oneS t)=[t])
def apart (a b:Tok):Bool:=decide (all (oneS a++oneS b)≠[a,b])||oneS a++oneS b==[60,47]
def rest (a:Tok):List Tok→List UInt8
 | []=>[]
 | b::l=>(if apart a b then [47,42,42,47] else [])++(oneS b++rest b l)
def text:List Tok→List UInt8
 | []=>[]
 | a::l=>oneS a++rest a l
end Tk
end Go.Abs
namespace Go.Abs
def kH (k:Int) (s:List UInt8) (n:Int):Int :=
 if k=2 then 5 else if k=7∧n=0 then(if s=[40] then 2 else if s=[91] then 3 else if s=[123] then 4 else 0) else 0
inductive Val where
 | mk (kind:Int) (tok:Tok) (l:List Val)
namespace Ne
def opens (t:Tok):Int:=kH t.kind t.text t.n
def Cl (k:Int):UInt8:=if k=2 then 40 else if k=3 then 91 else 123
def iX (k:Int):UInt8:=if k=3 then 93 else if k=4 then 125 else 41
def qE (k:Int):Tok:=⟨7,[Cl k],0⟩
def eH (k:Int):Tok:=⟨7,[iX k],0⟩
def tok0:Tok:=⟨0,[],0⟩
def dm (kind:Int) (t:Tok):Bool:=decide (0<kind)&&decide (t=eH kind)
def fq (kind:Int):Nat→Nat→List Tok→Option (List Val×List Tok)
 | 0,_,l=>some ([],l)
 | _+1,_,[]=>some ([],[])
 | f+1,left,t::l =>
  if dm kind t then some ([],l)
  else if opens t=0 then(fq kind f left l).map fun r=>(.mk 1 t []::r.1,r.2)
  else
   match left with
   | 0=>none
   | n+1 =>
    match fq (opens t) f n l with
    | none=>none
    | some x=>(fq kind f (n+1) x.2).map fun r=>(.mk (opens t) (if opens t=5 then t else tok0) x.1::r.1,r.2)
def cO (kind:Int) (left:Nat) (l:List Tok):Option (List Val×List Tok):=fq kind (l.length+1) left l
def parse (left:Nat) (l:List Tok):Option (List Val):=(cO 0 left l).map (·.1)
mutual
def lm:Val→List Tok
 | .mk k t l=>if k=1 then [t] else if k=5 then t::(flat l++[eH 5]) else if 2≤k∧k≤4 then qE k::(flat l++[eH k]) else []
def flat:List Val→List Tok
 | []=>[]
 | v::l=>lm v++flat l
end
mutual
def iP:Val→Nat
 | .mk k _ l=>if 2≤k∧k≤5 then depth l+1 else 0
def depth:List Val→Nat
 | []=>0
 | v::l=>max (iP v) (depth l)
end
mutual
def qe:Val→Nat
 | .mk _ _ l=>size l+1
def size:List Val→Nat
 | []=>0
 | v::l=>qe v+size l
end
mutual
def Dy:Val→Val→Bool
 | .mk k t l,.mk k' t' l'=>k==k'&&decide (t=t')&&same l l'
def same:List Val→List Val→Bool
 | [],[]=>true
 | v::l,v'::l'=>Dy v v'&&same l l'
 | _,_=>false
end
/- may values stand where a kind of blocks goes on? -/
mutual
def ly:Int→Val→Bool
 | kind,.mk k t l=>(k==1 && !dm kind t&&opens t==0&&l.isEmpty)||(decide (2≤k∧k≤4)&&decide (t=tok0)&&good k l)||(k==5&&t.kind==2&&good 5 l)
def good:Int→List Val→Bool
 | _,[]=>true
 | kind,v::l=>ly kind v&&good kind l
end
def may (left:Nat) (mayT:Tok→Bool) (l:List Val):Bool:=(flat l).all mayT&&(match parse left (flat l) with|some w=>same w l|none=>false)
end Ne
end Go.Abs
namespace Go.Abs
def Tok.cells (t:Tok):List CV:=[.pv (.int .i64 t.kind),.pv (.str t.text),.pv (.int .i64 t.n)]
def Tok.enc (t:Tok):List PV:=[.int .i64 t.kind,.str t.text,.int .i64 t.n]
mutual
def Val.enc:Val→List PV
 | .mk k t l=>[.int .i64 k,.int .i64 t.kind,.str t.text,.int .i64 t.n,.sl (encL l)]
def encL:List Val→List (List PV)
 | []=>[]
 | v::l=>v.enc::encL l
end
theorem ep:∀ l:List Val,encL l=l.map Val.enc
 | []=>rfl
 | v::l=>by rw[encL,ep l];rfl
theorem sX (a b:List Val):encL (a++b)=encL a++encL b:=by simp[ep]
theorem bc (a:List Val):(encL a).length=a.length:=by simp[ep]
theorem rY (a:List Val) (i:Nat) (v:Val) (h:a[i]? = some v):(encL a)[(i:Int).toNat]? = some v.enc:=by simp[ep,h]
theorem rx (v:Val):v.enc.length=5:=by obtain⟨k,t,l⟩:=v;rfl
end Go.Abs
