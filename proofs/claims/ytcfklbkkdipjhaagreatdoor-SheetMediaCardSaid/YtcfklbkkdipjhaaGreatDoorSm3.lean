/-
  THE ABSTRACT INTERPRETER: functions of Go's library that are not interpreted: what they answer, and that they do.
  (And 22 texts more.)
-/
import Derived.Laws.AppendOwn
import Derived.WalkSpells
import Derived.Lib.BufferMore
import Derived.RangeFuncNested
import Derived.RangeFuncBound
import Derived.RangeFuncCalls
import Derived.RangeFuncLeaves
import Derived.Shelf.Abstract
import Derived.Shelf.RegionOpen
import Derived.OwnWalkIn
import Derived.TacticsInMore
import Derived.LoopNIn
import Derived.LoopIn
import Derived.Maps.AppendAt
import Derived.Maps.OwnIn
import Derived.WalkMore
import Derived.WideMake
import Derived.Maps.RangeRun
import Derived.Deep.RegionWith
import Derived.Lib.IndexBytes
import Derived.Laws.RangeAny
import Derived.Test.YtcfklbkkdipjhaaGreatDoorSm2
set_option maxHeartbeats 8000000
open Nat (reduceEqDiff reduceAdd reduceLT reduceLeDiff reduceSub)
set_option linter.unusedSimpArgs false
set_option linter.unusedVariables false
namespace Go.Abs
open Go Go.Proofs Go.RowKit
section
variable {P:Program} {G G':Gh} {w w':World}
theorem fl (hw:WI G w) (hb:Below w.heap.size w w'):Gr (fun _=>False) G w G w'∧WI G w':=by
 refine⟨⟨⟨fun _ _ _ h=>h,fun b hlt h=>⟨h,hb.block b hlt,fun _=>rfl⟩,hb.size,hb.os,hb.output,hb.tape,fun _ _=>rfl⟩,fun _ _ h=>h,fun b ℓ h _=>⟨h,hb.block b (dU hw h),fun _=>rfl⟩⟩,
  ⟨fun b o y h => ?_,fun b h=>hw.fresh b (Nat.le_trans hb.size h),hw.boxI,hw.bbow,hw.tab.map fun b hlt h=>⟨h,hb.block b hlt⟩⟩⟩
 rw[hb.cell (p:=⟨b,o,none⟩) (I_lt hw h)];exact hw.cell b o y h
theorem bq {f:FuncId} {args:List AV} {p:PV} (h:∀ (G:Gh) (w:World) (cargs:List Value),WI G w→All2 (fun v x=>RA G w .ret v x) args cargs →
  Calls P f cargs.toArray w fun e w'=>∃ x,e=.returned x∧RP G.I p x∧Below w.heap.size w w'):Contract P f args [] (.ret (.c (.pv p)) []):=by
 intro G w cargs hw hargs _ _ _;refine(h G w cargs hw hargs).mono ?_
 rintro e w' ⟨x,rfl,hx,hb⟩
 obtain⟨g,hw'⟩:=fl hw hb;exact⟨G,g.ext,hw',x,rfl,hx,rfl,fun i l h=>by simp at h⟩
theorem de {v:AV} {cargs:List Value} (h:All2 (fun v x=>RA G w .ret v x) [v] cargs):∃ x,cargs=[x]∧RA G w .ret v x:=by
 cases h with
 | cons h1 h2=>cases h2;exact⟨_,rfl,h1⟩
theorem dF {u v:AV} {cargs:List Value} (h:All2 (fun v x=>RA G w .ret v x) [u,v] cargs):∃ x y,cargs=[x,y]∧RA G w .ret u x∧RA G w .ret v y:=by
 cases h with
 | cons h1 h2 =>
  cases h2 with
  | cons h3 h4=>cases h4;exact⟨_,_,rfl,h1,h3⟩
abbrev Prim:=List AV→List (List CV)→Option (AV×List (List CV))
def mh:Prim
 | [.c (.pv (.str s)),.c (.pv (.str [c]))],[]=>some (.c (.pv (.bool (decide (0≤Lib.indexByte s c)))),[])
 | _,_=>none
def iE:Prim
 | [.c (.pv (.str s)),.c (.pv (.str p))],[]=>some (.c (.pv (.bool (Lib.hasPrefix s p))),[])
 | _,_=>none
def eR:Prim
 | [.c (.pv (.str s)),.c (.pv (.int .u8 c))],[]=>some (.c (.pv (.int .i64 (Lib.indexByte s c.toNat.toUInt8))),[])
 | _,_=>none
def oZ:Prim
 | [.c (.pv (.str s)),.c (.pv (.str p))],[]=>if s.length<4294967281 then some (.c (.pv (.int .i64 (Lib.index s p))),[]) else none
 | _,_=>none
def Az:Prim
 | [.c (.pv (.int .i64 n))],[]=>if -9223372036854775808≤n∧n≤9223372036854775807 then some (.c (.pv (.str (Lib.itoa n))),[]) else none
 | _,_=>none
def oV:List (List PV)→Option (List (List UInt8))
 | []=>some []
 | [.str s]::l=>(oV l).map (s :: ·)
 | _=>none
def vZ:Nat:=140737488355328
def Ah:Prim
  | [x,.c (.pv (.str sep))],[] =>
    match x with
    | .c .nils=>some (.c (.pv (.str [])),[])
    | .c (.pv (.sl c)) =>
      (match oV c with
       | some l=>if c.length≤vZ∧(Lib.join l sep).length≤vZ then some (.c (.pv (.str (Lib.join l sep))),[]) else none
       | none=>none)
    | _=>none
  | _,_=>none
theorem rP {args:List AV} {bxs:List (List CV)} {x:AV×List (List CV)} (h:mh args bxs=some x):Contract Tryz.prog 298 args bxs (.ret x.1 x.2):=by
 unfold mh at h;split at h
 case h_2=>cases h
 rename_i s c;cases h;refine bq fun G w cargs hw hargs => ?_
 obtain⟨x,y,rfl,hx,hy⟩:=dF hargs;cases hx.strv;cases hy.strv;refine(Tryz.strings_Contains_one ⟨s.toArray⟩ c w).mono ?_
 rintro e w' ⟨rfl,rfl⟩
 exact⟨_,rfl,.bool _,.refl _ _⟩
theorem pE {args:List AV} {bxs:List (List CV)} {x:AV×List (List CV)} (h:iE args bxs=some x):Contract Tryz.prog 153 args bxs (.ret x.1 x.2):=by
 unfold iE at h;split at h
 case h_2=>cases h
 rename_i s p;cases h;refine bq fun G w cargs hw hargs => ?_
 obtain⟨x,y,rfl,hx,hy⟩:=dF hargs;cases hx.strv;cases hy.strv;refine(Tryz.strings_HasPrefix ⟨s.toArray⟩ ⟨p.toArray⟩ w).mono ?_
 rintro e w' ⟨rfl,rfl⟩
 exact⟨_,rfl,.bool _,.refl _ _⟩
theorem kg {args:List AV} {bxs:List (List CV)} {x:AV×List (List CV)} (h:eR args bxs=some x):Contract Tryz.prog 155 args bxs (.ret x.1 x.2):=by
 unfold eR at h;split at h
 case h_2=>cases h
 rename_i s c;cases h;refine bq fun G w cargs hw hargs => ?_
 obtain⟨x,y,rfl,hx,hy⟩:=dF hargs;cases hx.strv;cases hy.intv;refine(Tryz.strings_IndexByte ⟨s.toArray⟩ c w).mono ?_
 rintro e w' ⟨rfl,rfl⟩
 exact⟨_,rfl,.int _ _,.refl _ _⟩
theorem xq {args:List AV} {bxs:List (List CV)} {x:AV×List (List CV)} (h:oZ args bxs=some x):Contract Tryz.prog 211 args bxs (.ret x.1 x.2):=by
 unfold oZ at h;split at h
 case h_2=>cases h
 rename_i s p;split at h
 case isFalse=>cases h
 rename_i hs;cases h;refine bq fun G w cargs hw hargs => ?_
 obtain⟨x,y,rfl,hx,hy⟩:=dF hargs;cases hx.strv;cases hy.strv;obtain⟨_,m,cs,ty,fz,hm,hm0⟩:=hw.tab.2 0 (by simp[ints])
 refine(Tryz.strings_Index ⟨s.toArray⟩ ⟨p.toArray⟩ m w (by show s.toArray.size<_;simpa using hs) ((aa hm 0).trans hm0)).mono ?_
 rintro e w' ⟨rfl,rfl⟩
 exact⟨_,rfl,.int _ _,.refl _ _⟩
theorem xF (hw : WI G w) : Lib.TabIs Tryz.prog w "internal/strconv.uint64pow10" .u64 Lib.pow10Tab := by
 obtain⟨_,ty,fz,h⟩:=hw.tab.1 (1,(List.range 20).map fun i=>.int .u64 ((10 ^ i:Nat):Int)) (by simp[tabs])
 have hg : Tryz.prog.globalNamed "internal/strconv.uint64pow10" = some 1 := by kernel_rfl
 unfold Lib.TabIs World.var?
 simp only[hg,Option.bind_some,h,Lib.pow10Tab,List.map_map];rfl
theorem yz {args:List AV} {bxs:List (List CV)} {x:AV×List (List CV)} (h:Az args bxs=some x):Contract Tryz.prog 191 args bxs (.ret x.1 x.2):=by
 unfold Az at h;split at h
 case h_2=>cases h
 rename_i n;split at h
 case isFalse=>cases h
 rename_i hn;cases h;refine bq fun G w cargs hw hargs => ?_
 obtain⟨x,rfl,hx⟩:=de hargs;cases hx.intv;refine(Tryz.strconv_Itoa n hn.1 hn.2 w (xF hw)).mono ?_
 rintro e w' ⟨rfl,k,os,rfl⟩
 refine⟨_,rfl,.str _,⟨rfl,rfl,rfl,?_,fun j hj => ?_⟩⟩
 ·show w.heap.size≤(w.heap++os).size
  simp
 ·show (w.heap++os)[j]? = _
  rw[Array.getElem?_append_left hj]
theorem oq {I:Nat→Nat→Option Value}:∀ {c:List (List PV)} {l:List (List UInt8)},oV c=some l→c.length=l.length∧∀ (i:Nat) (s:List UInt8),l[i]? = some s→c[i]? = some [.str s]
 | [],l,h=>by simp[oV] at h;subst h;exact⟨rfl,fun i s h=>by simp at h⟩
 | el::c,l,h=>by
  unfold oV at h;split at h
  ·rename_i e1;cases e1
  ·rename_i s m e1;cases e1;rw[Option.map_eq_some_iff] at h;obtain⟨m',hm,rfl⟩:=h;obtain⟨h1,h2⟩:=oq (I:=I) hm;refine⟨by simp[h1],fun i t hi => ?_⟩
   cases i with
   | zero=>simp at hi;subst hi;rfl
   | succ i=>simpa using h2 i t (by simpa using hi)
  ·cases h
theorem zo {args:List AV} {bxs:List (List CV)} {x:AV×List (List CV)} (h:Ah args bxs=some x):Contract Tryz.prog 120 args bxs (.ret x.1 x.2):=by
 unfold Ah at h;split at h
 case h_2=>cases h
 rename_i v sep;split at h
 ·cases h
  refine bq fun G w cargs hw hargs => ?_
  obtain⟨x,y,rfl,hx,hy⟩:=dF hargs;cases hy.strv;have hx':x=.slice none 0 0:=hx
  subst hx';refine(Tryz.strings_Join_none none 0 ⟨sep.toArray⟩ w).mono ?_
  rintro e w' ⟨rfl,rfl⟩
  exact⟨_,rfl,.str [],.refl _ _⟩
 ·rename_i c;split at h
  case h_2=>cases h
  rename_i l hl;split at h
  case isFalse=>cases h
  rename_i hb;cases h;refine bq fun G w cargs hw hargs => ?_
  obtain⟨x,y,rfl,hx,hy⟩:=dF hargs;cases hy.strv;obtain⟨ad,cap,rfl,hcap,hne⟩:=RP.slice_inv (hx:RP G.I (.sl c) x);obtain⟨hlen,hget⟩:=oq (I:=G.I) hl;by_cases hc:c=[]
  ·subst hc;have hl0:l=[]:=List.eq_nil_of_length_eq_zero (by rw[←hlen];rfl)
   subst hl0;refine(Tryz.strings_Join_none ad cap ⟨sep.toArray⟩ w).mono ?_
   rintro e w' ⟨rfl,rfl⟩
   exact⟨_,rfl,.str [],.refl _ _⟩
  ·obtain⟨b,o,sz,rfl,hsz,hseg⟩:=hne hc;have hcl:0<c.length:=List.length_pos_iff.2 hc
   have hsz1:sz=1:=by
    obtain⟨s0,hs0⟩:∃ s0,l[0]? = some s0:=⟨l[0]'(by omega),by simp⟩
    have:=hget 0 s0 hs0
    exact(hsz [PV.str s0] (List.mem_of_getElem? this)).symm
   subst hsz1;have hcells:∀ (j:Nat) (s:List UInt8),l[j]? = some s→G.I b (o+j)=some (.string ⟨s.toArray⟩):=fun j s hj=>by
    obtain⟨y,h1,h2⟩:=hseg j _ 0 (.str s) (hget j s hj) rfl;cases h2
    simpa using h1
   have hbk:b<w.heap.size:=by
    obtain⟨s0,hs0⟩:∃ s0,l[0]? = some s0:=⟨l[0]'(by omega),by simp⟩
    exact I_lt hw (hcells 0 s0 hs0)
   have hmap:((l.map fun s=>(⟨s.toArray⟩:ByteArray)).map (·.data.toList))=l:=by
    rw[List.map_map]
    conv=>rhs;rw[←List.map_id l]
    exact List.map_congr_left fun s _=>by simp
   have hrun:=Tryz.strings_Join b o cap (l.map fun s=>(⟨s.toArray⟩:ByteArray)) ⟨sep.toArray⟩ w (fun j x hj=>by
    rw[List.getElem?_map,Option.map_eq_some_iff] at hj
    obtain⟨s,hs,rfl⟩:=hj;exact hw.cell _ _ _ (hcells j s hs)) hbk (by simp only[List.length_map,←hlen];exact hb.1) (by simp only[List.length_map,←hlen];exact hcap) (by rw[hmap];exact hb.2)
   rw[hmap] at hrun;simp only[List.length_map,←hlen] at hrun;refine hrun.mono ?_
   rintro e w' ⟨rfl,hbel⟩
   exact⟨_,rfl,.str _,hbel⟩
 ·cases h
def kN:Prim
 | [.c (.loc k 0)],[[a,v]] =>
  if k=LK then
   match a with
   | .bld=>some (.tup [],[[.loc LK 0,v]])
   | .loc j o=>if j=LK∧o=0 then some (.tup [],[[.loc LK 0,v]]) else none
   | _=>none
  else none
 | _,_=>none
set_option maxRecDepth 100000 in
theorem oY (b:Nat) (w:World) (h0:w.cell? ⟨b,0,none⟩=some (.pointer (some ⟨b,0,none⟩))) :
  Calls Tryz.prog 190 #[.pointer (some ⟨b,0,none⟩)] w fun e w'=>e=.returned (.tuple #[])∧w'=w:=by
 obtain⟨j,hj⟩:∃ j,Tryz.prog.info? 168=some j:=⟨_,rfl⟩
 go_enter Tryz.func190,Tryz.ntmps190
 go_wp2
 rw[Lib.run_neq_ptr_same w _ Tryz.underlying166 hj]
 go_wp2
 go_end0
 exact⟨rfl,rfl⟩
set_option maxRecDepth 100000 in
theorem nc (b:Nat) (w:World) (ty:TypeId) (hty:ty∈bD) (h0:w.cell? ⟨b,0,none⟩=some (.pointer none)) (hsh:w.shape? b=some (ty,2)) (hfz:w.frozen? ⟨b,0,none⟩=false) :
  Calls Tryz.prog 190 #[.pointer (some ⟨b,0,none⟩)] w fun e w'=>e=.returned (.tuple #[])∧w'=w.setCell ⟨b,0,none⟩ (.pointer (some ⟨b,0,none⟩)):=by
 obtain⟨j,hj,hjs⟩:∃ j,Tryz.prog.info? 168=some j∧j.size=2:=⟨_,rfl,rfl⟩
 have hlies:liesAt Tryz.prog Tryz.prog.depth ty (2 / Tryz.prog.cellsOf ty) 0 168 1=true:=by
  have:bD.all (fun t=>liesAt Tryz.prog Tryz.prog.depth t (2 / Tryz.prog.cellsOf t) 0 168 1)=true:=by kernel_rfl
  exact List.all_eq_true.1 this ty hty
 go_enter Tryz.func190,Tryz.ntmps190
 go_wp2
 rw[Lib.run_to_unsafe w ⟨b,0,none⟩ Tryz.underlying166 Tryz.underlying253 hj (by rw[hjs];decide) hsh (Nat.zero_lt_succ 1)]
 simp only[Result.andThen];rw[Oper.upon_value]
 go_wp2
 rw[run_callFunc_extern Tryz.func234 (by kernel_rfl) (by kernel_rfl) (by kernel_rfl) (e:=Extern.AbiNoEscape.same) (by kernel_rfl)]
 rw[Lib.run_noEscape];simp only[Result.andThen];rw[Oper.upon_value]
 go_wp2
 rw[Lib.run_from_unsafe w ⟨b,0,none⟩ Tryz.underlying253 Tryz.underlying166 hj hsh hlies];simp only[Result.andThen];rw[Oper.upon_value]
 go_wp2
 go_end0
 exact⟨rfl,rfl⟩
theorem gJ {b o:Nat} {cs:Array Value} {ty:TypeId} {fz:Nat×Nat} (h:w.heap[b]? = some (.cells cs ty fz)) (v:Value):w.setCell ⟨b,o,none⟩ v=w.setRow b (cs.setIfInBounds o v):=by
 have hlt:b<w.heap.size:=(Array.getElem?_eq_some_iff.1 h).1
 have hv:w.heap[b]=.cells cs ty fz:=(Array.getElem?_eq_some_iff.1 h).2
 have e:(w.setCell ⟨b,o,none⟩ v).heap=(w.setRow b (cs.setIfInBounds o v)).heap:=by
  apply Array.ext
  ·simp[World.setCell,World.setRow]
  ·intro i h1 h2;simp only[World.setCell,World.setRow,Array.getElem_modify];split
   ·rename_i hi;subst hi;simp[hv]
   ·rfl
 show World.mk _ _ _ _ _=World.mk _ _ _ _ _
 congr 1
theorem pA {args:List AV} {bxs:List (List CV)} {x:AV×List (List CV)} (h:kN args bxs=some x):Contract Tryz.prog 190 args bxs (.ret x.1 x.2):=by
 unfold kN at h;split at h
 case h_2=>cases h
 rename_i k a v;split at h
 case isFalse=>cases h
 rename_i hk;subst hk;intro G w cargs hw hargs hno hb hbb;obtain⟨y,rfl,hy⟩:=de hargs;obtain⟨b,hb0,rfl⟩:∃ b,G.bb LK=some b∧y=.pointer (some ⟨b,0,none⟩):=hy
 obtain⟨b',cs,ty,hb',hh,⟨hsz,hbl⟩,hcells⟩:=hb 0 [a,v] rfl;rw[show LK+0=LK from rfl] at hb'
 rw[hb0] at hb';cases hb';obtain⟨x0,h0,hr0⟩:=hcells 0 a rfl;obtain⟨x1,h1,hr1⟩:=hcells 1 v rfl;have hsz2:cs.size=2:=hsz
 have c0:w.cell? ⟨b,0,none⟩=some x0:=(aa hh 0).trans h0
 split at h
 ·cases h
  have e0:x0=.pointer none:=hr0
  subst e0;have hrun:=nc b w ty (hbl rfl) c0 (by simp[World.shape?,hh,hsz2]) (by simp[World.frozen?,hh])
  refine hrun.mono ?_
  rintro e w' ⟨rfl,rfl⟩
  rw[gJ hh];obtain⟨g,hw'⟩:=mm hw hb0 hh (new:=cs.setIfInBounds 0 (.pointer (some ⟨b,0,none⟩)));refine⟨G,g.ext,hw',_,rfl,⟨[],rfl,.nil⟩,rfl,fun i l hl => ?_⟩
  cases i with
  | succ i=>simp at hl
  | zero =>
   simp at hl;subst hl;refine⟨b,_,ty,hb0,setRow_heap w b cs _ ty _ hh,⟨by simpa using hsz2,fun e=>by simp at e⟩,fun k u hu => ?_⟩
   match k,hu with
   | 0,hu =>
    simp at hu;subst hu;exact⟨_,by simp[hsz2],⟨b,hb0,rfl⟩⟩
   | 1,hu =>
    simp at hu;subst hu;exact⟨x1,by simpa using h1,RC.gr hr1 g (by simp)⟩
   | k+2,hu=>simp at hu
 ·rename_i j o;split at h
  case isFalse=>cases h
  rename_i hjo;obtain⟨rfl,rfl⟩:=hjo;cases h;obtain⟨b2,hb2,rfl⟩:∃ b,G.bb LK=some b∧x0=.pointer (some ⟨b,0,none⟩):=hr0
  rw[hb0] at hb2;cases hb2;refine(oY b w c0).mono ?_
  rintro e w' ⟨rfl,rfl⟩
  refine⟨G,.refl _ _,hw,_,rfl,⟨[],rfl,.nil⟩,rfl,fun i l hl => ?_⟩
  cases i with
  | succ i=>simp at hl
  | zero=>simp at hl;subst hl;exact hb 0 _ rfl
 ·cases h
def lN:List (List PV)→Option (List UInt8)
 | []=>some []
 | [.int .u8 n]::l=>if 0≤n∧n<256 then(lN l).map (UInt8.ofNat n.toNat :: ·) else none
 | _=>none
def qO:Prim
 | [.c (.loc k 0)],[[a,v]] =>
  if k=LK then
   match v with
   | .nils=>some (.c (.pv (.str [])),[[a,.nils]])
   | .own e c=>(match lN c with
    | some s=>if (e=5∨c.isEmpty=true)∧s.length<bz then some (.c (.pv (.str s)),[[a,.pv (.sl c)]]) else none
    | none=>none)
   | _=>none
  else none
 | _,_=>none
section
open Go.Shelf
variable {ρ:Ren}
set_option linter.unusedVariables false in
set_option maxRecDepth 100000 in
theorem tq (L:Lays.n169 P ρ) (X:Builder.Extra P ρ) (b g cap:Nat) (l:List UInt8) (cur:Array Value) (w:World) (hc:w.cell? ⟨b,1,none⟩=some (.slice (some ⟨g,0,none⟩) l.length cap))
  (hg:w.heap[g]? = some (.cells cur (ρ.t 5) (0,0))) (h0:l≠[]) (hnc:l.length≤cap) (hcs:cap≤cur.size) (h63:l.length≤9223372036854775807)
  (hcell:∀ j x,l[j]? = some x→w.cell? ((⟨g,0,none⟩:Addr).add j)=some (.int .u8 x.toNat)) :
  Calls P (ρ.f 169) #[.pointer (some ⟨b,0,none⟩)] w fun e w'=>e=.returned (.string ⟨l.toArray⟩)∧w'=w.drew.freeze ⟨g,0,none⟩ l.length:=by
 have hl0:0<l.length:=List.length_pos_iff.2 h0
 have c1:w.drew.cell? ⟨b,1,none⟩=some (.slice (some ⟨g,0,none⟩) l.length cap):=hc
 have hSD:(Builtin.unsafeSliceData_ #[(ρ.t 37)] (ρ.t 127) #[.slice (some ⟨g,0,none⟩) l.length cap]).run P w.drew=.ok (.pointer (some ⟨g,0,none⟩)) w.drew :=
  Lib.run_unsafeSliceData_row _ _ _ _ _ _ (by omega)
 have hUS:(Builtin.unsafeString_ #[(ρ.t 127),(ρ.t 3)] (ρ.t 9) #[.pointer (some ⟨g,0,none⟩),.int .i64 l.length]).run P w.drew=.ok (.string ⟨l.toArray⟩) (w.drew.freeze ⟨g,0,none⟩ l.length):=by
  refine Lib.run_unsafeString_row w.drew (ρ.t 127) (ρ.t 3) (ρ.t 9) (ρ.t 5) L.t127 X.cellsByte g cur.size (by have hg':w.drew.heap[g]? = some (.cells cur (ρ.t 5) (0,0)):=hg;simp[World.shape?,hg']) l h0 (by omega) h63 hcell
 have mixed:=L.mixed
 have t72:=L.t72;have a72:=L.a72;have z72:=L.z72;have v72:=L.v72;have u72:=run_underlying L.t72
 have t70:=L.t70;have a70:=L.a70;have z70:=L.z70;have v70:=L.v70;have u70:=run_underlying L.t70
 have t37:=L.t37;have a37:=L.a37;have z37:=L.z37;have v37:=L.v37;have u37:=run_underlying L.t37
 have t127:=L.t127;have a127:=L.a127;have z127:=L.z127;have v127:=L.v127;have u127:=run_underlying L.t127
 have t3:=L.t3;have a3:=L.a3;have z3:=L.z3;have v3:=L.v3;have u3:=run_underlying L.t3
 have t9:=L.t9;have a9:=L.a9;have z9:=L.z9;have v9:=L.v9;have u9:=run_underlying L.t9
 have t5:=X.t5;have a5:=X.a5;have z5:=X.z5;have v5:=X.v5;have u5:=run_underlying X.t5
 go_enter L.f169,Body.n169_ntmps ρ
 go_wp2
 go_region_o
 all_goals (go_wp2;go_ret;exact⟨rfl,rfl⟩)
set_option linter.unusedVariables false in
set_option maxRecDepth 100000 in
theorem oJ (L:Lays.n169 P ρ) (X:Builder.Extra P ρ) (b:Nat) (w:World) (hc:w.cell? ⟨b,1,none⟩=some (.slice none 0 0)) :
  Calls P (ρ.f 169) #[.pointer (some ⟨b,0,none⟩)] w fun e w'=>e=.returned (.string ⟨#[]⟩)∧w'=w.drew:=by
 have hUS:=Any.unsafeString_none L X
 have c1:w.drew.cell? ⟨b,1,none⟩=some (.slice none 0 0):=hc
 have hSD:(Builtin.unsafeSliceData_ #[(ρ.t 37)] (ρ.t 127) #[.slice none 0 0]).run P w.drew=.ok (.pointer none) w.drew:=rfl
 have mixed:=L.mixed
 have t72:=L.t72;have a72:=L.a72;have z72:=L.z72;have v72:=L.v72;have u72:=run_underlying L.t72
 have t70:=L.t70;have a70:=L.a70;have z70:=L.z70;have v70:=L.v70;have u70:=run_underlying L.t70
 have t37:=L.t37;have a37:=L.a37;have z37:=L.z37;have v37:=L.v37;have u37:=run_underlying L.t37
 have t127:=L.t127;have a127:=L.a127;have z127:=L.z127;have v127:=L.v127;have u127:=run_underlying L.t127
 have t3:=L.t3;have a3:=L.a3;have z3:=L.z3;have v3:=L.v3;have u3:=run_underlying L.t3
 have t9:=L.t9;have a9:=L.a9;have z9:=L.z9;have v9:=L.v9;have u9:=run_underlying L.t9
 have t5:=X.t5;have a5:=X.a5;have z5:=X.z5;have v5:=X.v5;have u5:=run_underlying X.t5
 go_enter L.f169,Body.n169_ntmps ρ
 go_wp2
 go_region_o
 all_goals (go_wp2;go_ret;exact⟨rfl,rfl⟩)
set_option linter.unusedVariables false in
set_option maxRecDepth 100000 in
theorem ti (L:Lays.n169 P ρ) (X:Builder.Extra P ρ) (b g:Nat) (cur:Array Value) (e:TypeId) (w:World) (hlt:b<w.heap.size) (hc:w.cell? ⟨b,1,none⟩=some (.slice (some ⟨g,0,none⟩) 0 0)) (hg:w.heap[g]? = some (.cells cur e (0,0))) :
  Calls P (ρ.f 169) #[.pointer (some ⟨b,0,none⟩)] w fun e w'=>e=.returned (.string ⟨#[]⟩)∧w'=w.drew.alloc (.view ⟨g,0,none⟩ (ρ.t 5)):=by
 have hUS:=Any.unsafeString_none L X
 have c1:w.drew.cell? ⟨b,1,none⟩=some (.slice (some ⟨g,0,none⟩) 0 0):=hc
 have hSD:(Builtin.unsafeSliceData_ #[(ρ.t 37)] (ρ.t 127) #[.slice (some ⟨g,0,none⟩) 0 0]).run P w.drew=.ok (.pointer (some ⟨w.drew.heap.size,0,none⟩)) (w.drew.alloc (.view ⟨g,0,none⟩ (ρ.t 5))) :=
  Lib.run_unsafeSliceData_zero w.drew _ _ (ρ.t 5) L.t127 ⟨g,0,none⟩ 0 (e,cur.size) (by have hg':w.drew.heap[g]? = some (.cells cur e (0,0)):=hg;simp[World.shape?,hg'])
 have c2:(w.drew.alloc (.view ⟨g,0,none⟩ (ρ.t 5))).cell? ⟨b,1,none⟩=some (.slice (some ⟨g,0,none⟩) 0 0):=by
  rw[dH w.drew _ hlt];exact hc
 have c3:(w.alloc (.view ⟨g,0,none⟩ (ρ.t 5))).drew.cell? ⟨b,1,none⟩=some (.slice (some ⟨g,0,none⟩) 0 0):=c2
 have c0:w.cell? ⟨b,1,none⟩=some (.slice (some ⟨g,0,none⟩) 0 0):=c1
 have mixed:=L.mixed
 have t72:=L.t72;have a72:=L.a72;have z72:=L.z72;have v72:=L.v72;have u72:=run_underlying L.t72
 have t70:=L.t70;have a70:=L.a70;have z70:=L.z70;have v70:=L.v70;have u70:=run_underlying L.t70
 have t37:=L.t37;have a37:=L.a37;have z37:=L.z37;have v37:=L.v37;have u37:=run_underlying L.t37
 have t127:=L.t127;have a127:=L.a127;have z127:=L.z127;have v127:=L.v127;have u127:=run_underlying L.t127
 have t3:=L.t3;have a3:=L.a3;have z3:=L.z3;have v3:=L.v3;have u3:=run_underlying L.t3
 have t9:=L.t9;have a9:=L.a9;have z9:=L.z9;have v9:=L.v9;have u9:=run_underlying L.t9
 have t5:=X.t5;have a5:=X.a5;have z5:=X.z5;have v5:=X.v5;have u5:=run_underlying X.t5
 go_enter L.f169,Body.n169_ntmps ρ
 go_wp2
 go_region_o
 all_goals (go_wp2;go_ret;exact⟨rfl,rfl⟩)
end
theorem mU:∀ {c:List (List PV)} {s:List UInt8},lN c=some s→c.length=s.length∧∀ (j:Nat) (x:UInt8),s[j]? = some x→c[j]? = some [.int .u8 x.toNat]
 | [],s,h=>by simp[lN] at h;subst h;exact⟨rfl,fun j x h=>by simp at h⟩
 | el::c,s,h=>by
  unfold lN at h;split at h
  ·rename_i e1;cases e1
  ·rename_i n m e1;cases e1;split at h
   case isFalse=>cases h
   rename_i hn;rw[Option.map_eq_some_iff] at h;obtain⟨m',hm,rfl⟩:=h;obtain⟨h1,h2⟩:=mU hm;refine⟨by simp[h1],fun j x hj => ?_⟩
   cases j with
   | zero =>
    simp at hj;subst hj;have:((UInt8.ofNat n.toNat).toNat:Int)=n:=by
     rw[UInt8.toNat_ofNat'];omega
    show some [PV.int .u8 n]=some [PV.int .u8 ((UInt8.ofNat n.toNat).toNat:Int)]
    rw[this]
   | succ j=>simpa using h2 j x (by simpa using hj)
  ·cases h
theorem fV (w:World) (g n b:Nat) (h:b≠g):(w.freeze ⟨g,0,none⟩ n).heap[b]? = w.heap[b]? := by
 unfold World.freeze;split
 ·rfl
 ·simp[Array.getElem?_modify,Ne.symm h]
theorem xi (w:World) (g n:Nat) {cur:Array Value} {e:TypeId} (h:w.heap[g]? = some (.cells cur e (0,0))) (hn:n≠0):(w.freeze ⟨g,0,none⟩ n).heap[g]? = some (.cells cur e (0,0+n)):=by
 unfold World.freeze;rw[if_neg hn];simp[Array.getElem?_modify,h]
theorem mJ (w:World) (g n:Nat):(w.freeze ⟨g,0,none⟩ n).heap.size=w.heap.size:=by
 unfold World.freeze;split
 ·rfl
 ·simp
theorem sM (w:World) (g n:Nat):(w.freeze ⟨g,0,none⟩ n).os=w.os∧(w.freeze ⟨g,0,none⟩ n).output=w.output∧(w.freeze ⟨g,0,none⟩ n).tape=w.tape:=by
 unfold World.freeze;split<;>exact⟨rfl,rfl,rfl⟩
theorem xK (hw:WI G w) {g n:Nat} {ℓ:Own} {cur:Array Value} {e:TypeId} (ho:G.ow g=some ℓ) (hg:w.heap[g]? = some (.cells cur e (0,0))) (hn:n≠0) :
  Gr (fun o=>o=ℓ) G w G (w.freeze ⟨g,0,none⟩ n)∧WI G (w.freeze ⟨g,0,none⟩ n):=by
 obtain⟨r1,r2,r3⟩:=sM w g n;have hne:∀ b,G.ow b=none→b≠g:=fun b hb e=>by rw[e,ho] at hb;cases hb
 refine⟨⟨⟨fun _ _ _ h=>h,fun b _ hb=>⟨hb,fV w g n b (hne b hb),fun _=>rfl⟩,by rw[mJ];exact Nat.le_refl _,r1,r2,r3,fun _ _=>rfl⟩,fun _ _ h=>h,
   fun b m hm hc=>⟨hm,fV w g n b (fun e=>hc (by rw[e,ho] at hm;exact(Option.some.inj hm).symm)),fun _=>rfl⟩⟩,
  ⟨fun b o y h => ?_,fun b hb=>hw.fresh b (by rw[mJ] at hb;exact hb),hw.boxI,hw.bbow,hw.tab.map fun b _ hb=>⟨hb,fV w g n b (hne b hb)⟩⟩⟩
 have h1:=hw.cell b o y h
 by_cases hbg:b=g
 ·subst hbg;rw[aa (xi w b n hg hn)];rw[aa hg] at h1;exact h1
 ·exact(World.cell?_of_block (w:=w) (a:=⟨b,o,none⟩) (fV w g n b hbg)).trans h1
theorem ua {args:List AV} {bxs:List (List CV)} {x:AV×List (List CV)} (h:qO args bxs=some x):Contract Tryz.prog 131 args bxs (.ret x.1 x.2):=by
 unfold qO at h;split at h
 case h_2=>cases h
 rename_i k a v;split at h
 case isFalse=>cases h
 rename_i hk;subst hk;have boxes:∀ {G:Gh} {w w':World} {v':CV} {ch:Own→Prop},BoxR G w LK [a,v]→WI G w→Gr ch G w G w'→¬ ch (.box LK)→¬ ch (.cell LK 0)→(∀ y,RC G w (.cell LK 1) v y→RC G w' (.cell LK 1) v' y) →
   ∀ (i:Nat) (l:List CV),[[a,v']][i]? = some l→BoxR G w' (LK+i) l:=by
  intro G w w' v' ch hbx hw g n1 n2 hv i l hl;cases i with
  | succ i=>simp at hl
  | zero =>
   simp at hl;subst hl;obtain⟨b,cs,ty,hb0,hh,⟨hsz,hbl⟩,hcells⟩:=hbx;refine⟨b,cs,ty,hb0,(g.keep b _ (hw.bbow _ _ hb0) n1).2.1.trans hh,⟨hsz,fun e=>hbl (by simpa using e)⟩,fun k u hu => ?_⟩
   match k,hu with
   | 0,hu =>
    simp at hu;subst hu;obtain⟨x0,h0,hr0⟩:=hcells 0 a rfl;exact⟨x0,h0,RC.gr hr0 g n2⟩
   | 1,hu =>
    simp at hu;subst hu;obtain⟨x1,h1,hr1⟩:=hcells 1 v rfl;exact⟨x1,h1,hv x1 hr1⟩
   | k+2,hu=>simp at hu
 have base:∀ {G:Gh} {w:World} {cargs:List Value} {Q:Nat→Value→Prop},All2 (fun v x=>RA G w .ret v x) [.c (.loc LK 0)] cargs→BoxR G w LK [a,v] →
   (∀ b x1,G.bb LK=some b→b<w.heap.size→w.cell? ⟨b,1,none⟩=some x1→RC G w (.cell LK 1) v x1→Q b x1)→∃ b x1,cargs=[.pointer (some ⟨b,0,none⟩)]∧Q b x1:=by
  intro G w cargs Q hargs hbx hq;obtain⟨y,rfl,hy⟩:=de hargs;obtain⟨b,hb0,rfl⟩:∃ b,G.bb LK=some b∧y=.pointer (some ⟨b,0,none⟩):=hy
  obtain⟨b',cs,ty,hb',hh,⟨hsz,hbl⟩,hcells⟩:=hbx;rw[hb0] at hb';cases hb';obtain⟨x1,h1,hr1⟩:=hcells 1 v rfl;exact⟨b,x1,rfl,hq b x1 hb0 (Array.getElem?_eq_some_iff.1 hh).1 ((aa hh 1).trans h1) hr1⟩
 split at h
 ·cases h
  intro G w cargs hw hargs hno hb hbb;have hbx:=hb 0 _ rfl
  obtain⟨b,x1,rfl,hx1,hc⟩:=base (Q:=fun b x1=>x1=.slice none 0 0∧w.cell? ⟨b,1,none⟩=some x1) hargs hbx fun b x1 _ _ hc hr=>⟨hr,hc⟩
  subst hx1;refine(oJ Tryz.lays169 Tryz.Builder_Extra_169 b w hc).mono ?_
  rintro e w' ⟨rfl,rfl⟩
  obtain⟨g,hw'⟩:=eA hw;exact⟨G,g.ext,hw',_,rfl,.str [],rfl,boxes hbx hw g (fun h=>h) (fun h=>h) fun y hy=>RC.gr hy g (fun h=>h)⟩
 ·rename_i e c;split at h
  case h_2=>cases h
  rename_i s hs;split at h
  case isFalse=>cases h
  rename_i hcond;cases h;obtain⟨hlen,hget⟩:=mU hs;intro G w cargs hw hargs hno hb hbb;have hbx:=hb 0 _ rfl
  obtain⟨b,x1,rfl,hown,hc,hlt⟩:=base (Q:=fun b x1=>OwnAt G w (.cell LK 1) e c x1∧w.cell? ⟨b,1,none⟩=some x1∧b<w.heap.size) hargs hbx fun b x1 _ hlt hc hr=>⟨hr,hc,hlt⟩
  have hrp:∀ {w':World}, ∀ y,RC G w (.cell LK 1) (.own e c) y→RC G w' (.cell LK 1) (.pv (.sl c)) y:=fun y hy=>OwnAt.rp hy
  rcases hown with⟨hc0,ad,rfl,hemp⟩|⟨hc0,g,cap,cur,sz,rfl,how,hheap,hcap,hcur,hsz0,hszs,hseg,hfree⟩
  ·subst hc0;have hs0:s=[]:=List.eq_nil_of_length_eq_zero (by rw[←hlen];rfl)
   subst hs0;rcases hemp with rfl|⟨g,cur,e',rfl,how,hheap⟩
   ·refine(oJ Tryz.lays169 Tryz.Builder_Extra_169 b w hc).mono ?_
    rintro e1 w' ⟨rfl,rfl⟩
    obtain⟨gr,hw'⟩:=eA hw;exact⟨G,gr.ext,hw',_,rfl,.str [],rfl,boxes hbx hw gr (fun h=>h) (fun h=>h) hrp⟩
   ·refine(ti Tryz.lays169 Tryz.Builder_Extra_169 b g cur _ w hlt hc hheap).mono ?_
    rintro e1 w' ⟨rfl,rfl⟩
    obtain⟨gr,hw'⟩:=fl hw ((Below.drew (Below.refl w.heap.size w)).alloc (Nat.le_refl _) (.view ⟨g,0,none⟩ (Tryz.lays169_ren.t 5)));exact⟨G,gr.ext,hw',_,rfl,.str [],rfl,boxes hbx hw gr (fun h=>h) (fun h=>h) hrp⟩
  ·have hs0:s≠[]:=fun e0=>hc0 (List.eq_nil_of_length_eq_zero (by rw[hlen,e0];rfl))
   have hsz1:sz=1:=by
    obtain⟨x0,hx0⟩:∃ x0,s[0]? = some x0:=by
     cases s with
     | nil=>exact absurd rfl hs0
     | cons x0 r=>exact⟨x0,rfl⟩
    exact(hszs _ (List.mem_of_getElem? (hget 0 x0 hx0))).symm
   subst hsz1;have hee:e=5:=by
    rcases hcond.1 with h1|h1
    ·exact h1
    ·exact absurd (by simpa using h1) hc0
   subst hee;have hn0:s.length≠0:=by simpa using hs0
   have hlim:s.length<bz:=hcond.2
   unfold bz at hlim;rw[hlen] at hc hcap;refine(tq Tryz.lays169 Tryz.Builder_Extra_169 b g cap s cur w hc hheap hs0 hcap (by omega) (by omega) fun j x hj => ?_).mono ?_
   ·obtain⟨y,h1,h2⟩:=hseg j _ 0 _ (hget j x hj) rfl;cases h2;have:=hw.cell _ _ _ h1
    have hadd:(⟨g,0,none⟩:Addr).add j=⟨g,0+j,none⟩:=by simp only[Addr.add];split<;>simp_all
    rw[hadd]
    simpa using this
   ·rintro e1 w' ⟨rfl,rfl⟩
    obtain⟨gd,hwd⟩:=eA hw;obtain⟨gr,hw'⟩:=xK (w:=w.drew) hwd how hheap hn0;have g2:=gd.trans gr
    exact⟨G,g2.ext,hw',_,rfl,.str s,rfl,boxes hbx hw g2 (by simp) (by simp) hrp⟩
 ·cases h
end
end Go.Abs
namespace Go.Abs.Ne
open Go
theorem gA (t:Tok):opens t=0∨opens t=2∨opens t=3∨opens t=4∨opens t=5:=by
 unfold opens kH
 repeat' split
 all_goals simp
theorem oo {t:Tok}:opens t=5↔t.kind=2:=by
 unfold opens kH;constructor
 ·intro h;by_cases h2:t.kind=2
  ·exact h2
  ·rw[if_neg h2] at h
   repeat' split at h
   all_goals omega
 ·intro h;rw[if_pos h]
theorem uM {k:Int} (h:2≤k∧k≤4):opens (qE k)=k:=by
 have:k=2∨k=3∨k=4:=by omega
 rcases this with rfl|rfl|rfl<;>decide
theorem og {t:Tok} {k:Int} (h:opens t=k) (hk:2≤k∧k≤4):t=qE k:=by
 obtain⟨a,s,n⟩:=t;unfold opens kH at h;simp only at h;by_cases h2:a=2
 ·rw[if_pos h2] at h;omega
 rw[if_neg h2] at h;by_cases h7:a=7∧n=0
 ·obtain⟨rfl,rfl⟩:=h7;rw[if_pos ⟨rfl,rfl⟩] at h;by_cases e1:s=[40]
  ·rw[if_pos e1] at h;subst h;subst e1;rfl
  rw[if_neg e1] at h;by_cases e2:s=[91]
  ·rw[if_pos e2] at h;subst h;subst e2;rfl
  rw[if_neg e2] at h;by_cases e3:s=[123]
  ·rw[if_pos e3] at h;subst h;subst e3;rfl
  rw[if_neg e3] at h;omega
 ·rw[if_neg h7] at h;omega
theorem nG {k:Int} (h:0<k):dm k (eH k)=true:=by simp[dm,h]
theorem wt {kind k:Int}:dm kind (qE k)=false:=by
 unfold dm eH iX qE Cl
 repeat' split
 all_goals simp
theorem xo {kind:Int} {t:Tok} (h:t.kind=2):dm kind t=false:=by
 unfold dm eH;by_cases e:t=⟨7,[iX kind],0⟩
 ·rw[e] at h;simp at h
 ·simp[e]
theorem wG (t:Tok):dm 0 t=false:=by simp[dm]
theorem mL:∀ (f f':Nat) (kind:Int) (left:Nat) (l:List Tok),l.length<f→l.length<f' →
  fq kind f left l=fq kind f' left l∧∀ x,fq kind f left l=some x→x.2.length≤l.length:=by
 intro f
 induction f with
 | zero=>intro f' kind left l h;omega
 | succ f ih =>
  intro f' kind left l h h';cases f' with
  | zero=>omega
  | succ f' =>
  cases l with
  | nil=>simp[fq]
  | cons t l =>
   simp only[List.length_cons] at h h' ⊢;unfold fq;by_cases h1:dm kind t=true
   ·rw[if_pos h1,if_pos h1];exact⟨rfl,fun x hx=>by cases hx;simp⟩
   rw[if_neg h1,if_neg h1];by_cases h2:opens t=0
   ·rw[if_pos h2,if_pos h2];obtain⟨e,hl⟩:=ih f' kind left l (by omega) (by omega)
    rw[e] at hl ⊢;refine⟨rfl,fun x hx => ?_⟩
    obtain⟨y,hy,rfl⟩:=Option.map_eq_some_iff.1 hx;have:=hl y hy
    simp only;omega
   rw[if_neg h2,if_neg h2];cases left with
   | zero=>exact⟨rfl,fun x hx=>by cases hx⟩
   | succ n =>
    simp only;obtain⟨e,hl⟩:=ih f' (opens t) n l (by omega) (by omega)
    rw[e] at hl ⊢;cases hu:fq (opens t) f' n l with
    | none=>exact⟨rfl,fun x hx=>by cases hx⟩
    | some y =>
     simp only;have hy:=hl y hu
     obtain⟨e2,hl2⟩:=ih f' kind (n+1) y.2 (by omega) (by omega)
     rw[e2] at hl2 ⊢;refine⟨rfl,fun x hx => ?_⟩
     obtain⟨z,hz,rfl⟩:=Option.map_eq_some_iff.1 hx;have:=hl2 z hz
     simp only;omega
theorem lY {f:Nat} {kind:Int} {left:Nat} {l:List Tok} (h:l.length<f):fq kind f left l=cO kind left l :=
 (mL f (l.length+1) kind left l h (by omega)).1
theorem mo {kind:Int} {left:Nat} {l:List Tok} {x:List Val×List Tok} (h:cO kind left l=some x):x.2.length≤l.length :=
 (mL (l.length+1) (l.length+1) kind left l (by omega) (by omega)).2 x h
theorem ig (kind:Int) (left:Nat):cO kind left []=some ([],[]):=rfl
theorem eb (kind:Int) (left:Nat) (t:Tok) (l:List Tok):cO kind left (t::l) =
  if dm kind t then some ([],l)
  else if opens t=0 then(cO kind left l).map fun r=>(.mk 1 t []::r.1,r.2)
  else match left with
   | 0=>none
   | n+1=>match cO (opens t) n l with
    | none=>none
    | some x=>(cO kind (n+1) x.2).map fun r=>(.mk (opens t) (if opens t=5 then t else tok0) x.1::r.1,r.2):=by
 show fq kind (l.length+1+1) left (t::l)=_
 rw[fq.eq_def];simp only;split
 ·rfl
 split
 ·rw[lY (by omega)]
 cases left with
 | zero=>rfl
 | succ n =>
  simp only;rw[lY (by omega)]
  cases hu:cO (opens t) n l with
  | none=>rfl
  | some x =>
   simp only;rw[lY (by have:=mo hu;omega)]
theorem ud:∀ (m:Nat) (kind:Int) (left:Nat) (l:List Tok) (vs:List Val) (rest:List Tok),l.length≤m→0≤kind→cO kind left l=some (vs,rest) →
  good kind vs=true∧depth vs≤left∧size vs+rest.length≤l.length∧((0<kind∧l=flat vs++eH kind::rest)∨(rest=[]∧∃ c:List Int,flat vs=l++c.map eH)):=by
 intro m
 induction m with
 | zero =>
  intro kind left l vs rest hl hk h;cases l with
  | nil=>rw[ig] at h;cases h;exact⟨rfl,Nat.zero_le _,Nat.le_refl _,.inr ⟨rfl,[],rfl⟩⟩
  | cons t l=>simp at hl
 | succ m ih =>
  intro kind left l vs rest hl hk h;cases l with
  | nil=>rw[ig] at h;cases h;exact⟨rfl,Nat.zero_le _,Nat.le_refl _,.inr ⟨rfl,[],rfl⟩⟩
  | cons t l =>
   simp only[List.length_cons] at hl;rw[eb] at h;by_cases h1:dm kind t=true
   ·rw[if_pos h1] at h;cases h;simp[dm] at h1;exact⟨rfl,Nat.zero_le _,by simp[size],.inl ⟨h1.1,by rw[h1.2];rfl⟩⟩
   rw[if_neg h1] at h;by_cases h2:opens t=0
   ·rw[if_pos h2] at h;obtain⟨y,hy,e⟩:=Option.map_eq_some_iff.1 h;obtain⟨ys,yr⟩:=y;cases e;obtain⟨g1,g2,g3,g4⟩:=ih kind left l ys yr (by omega) hk hy
    refine⟨?_,?_,?_,?_⟩
    ·simp[good,ly,g1,h1,h2]
    ·simp[depth,iP,g2]
    ·simp only[size,qe,List.length_cons];omega
    ·rcases g4 with⟨a,b⟩|⟨a,c,b⟩
     ·exact .inl ⟨a,by simp[flat,lm];exact b⟩
     ·exact .inr ⟨a,c,by simp[flat,lm,b]⟩
   rw[if_neg h2] at h;cases left with
   | zero=>cases h
   | succ n =>
    simp only at h;cases hu:cO (opens t) n l with
    | none=>rw[hu] at h;cases h
    | some x =>
     rw[hu] at h;simp only at h;obtain⟨xs,xr⟩:=x;obtain⟨y,hy,e⟩:=Option.map_eq_some_iff.1 h;obtain⟨ys,yr⟩:=y;cases e;have hxl:=mo hu
     simp only at hy hxl;have hko:0≤opens t:=by rcases gA t with h|h|h|h|h<;>omega
     obtain⟨f1,f2,f3,f4⟩:=ih (opens t) n l xs xr (by omega) hko hu
     obtain⟨g1,g2,g3,g4⟩:=ih kind (n+1) xr ys yr (by omega) hk hy
     have hfl:lm (.mk (opens t) (if opens t=5 then t else tok0) xs)=t::(flat xs++[eH (opens t)]):=by
      rcases gA t with h|h|h|h|h
      ·exact absurd h h2
      ·rw[h,og h (by omega)];rfl
      ·rw[h,og h (by omega)];rfl
      ·rw[h,og h (by omega)];rfl
      ·rw[h];rfl
     refine⟨?_,?_,?_,?_⟩
     ·have:ly kind (.mk (opens t) (if opens t=5 then t else tok0) xs)=true:=by
       rcases gA t with h|h|h|h|h
       ·exact absurd h h2
       ·rw[h] at f1 ⊢;simp[ly,f1]
       ·rw[h] at f1 ⊢;simp[ly,f1]
       ·rw[h] at f1 ⊢;simp[ly,f1]
       ·rw[h] at f1 ⊢;simp[ly,f1,oo.1 h]
      simp[good,this,g1]
     ·have:2≤opens t∧opens t≤5:=by rcases gA t with h|h|h|h|h<;>omega
      simp only[depth,iP,if_pos this];omega
     ·simp only[size,qe,List.length_cons];omega
     ·rcases f4 with⟨a,b⟩|⟨a,c,b⟩
      ·rcases g4 with⟨a',b'⟩|⟨a',c',b'⟩
       ·refine .inl ⟨a',?_⟩
        rw[flat,hfl,b,b'];simp
       ·refine .inr ⟨a',c',?_⟩
        rw[flat,hfl,b,b'];simp
      ·subst a;rw[ig] at hy;cases hy;refine .inr ⟨rfl,c++[opens t],?_⟩
       rw[flat,hfl,b];simp[flat]
mutual
theorem sh:∀ (v:Val) (kind:Int) (left:Nat) (l:List Tok),ly kind v=true →
  cO kind left (lm v++l)=if iP v≤left then(cO kind left l).map fun r=>(v::r.1,r.2) else none
 | .mk k t vs,kind,left,l,h=>by
  simp only[ly,Bool.or_eq_true,Bool.and_eq_true,beq_iff_eq,Bool.not_eq_true',decide_eq_true_eq,List.isEmpty_iff] at h;rcases h with(⟨⟨⟨rfl,h1⟩,h2⟩,rfl⟩|⟨⟨hk,rfl⟩,hg⟩)|⟨⟨rfl,ht⟩,hg⟩
  ·have e:lm (.mk 1 t [])=[t]:=rfl
   have d:iP (.mk 1 t [])=0:=rfl
   rw[e,d,if_pos (Nat.zero_le _),List.singleton_append,eb,h1,if_neg (by simp),if_pos h2]
  ·have e:lm (.mk k tok0 vs)=qE k::(flat vs++[eH k]):=by
    simp only[lm];rw[if_neg (by omega),if_neg (by omega),if_pos hk]
   have d:iP (.mk k tok0 vs)=depth vs+1:=by simp only[iP];rw[if_pos (by omega)]
   have ho:=uM hk
   rw[e,d,List.cons_append,eb,wt,if_neg (by simp),ho,if_neg (show ¬ k=0 by omega),if_neg (show ¬ k=5 by omega)]
   cases left with
   | zero=>rw[if_neg (show ¬ depth vs+1≤0 by omega)]
   | succ n =>
    simp only;rw[List.append_assoc,List.singleton_append,iQ vs k n _ hg];by_cases hd:depth vs≤n
    ·rw[if_pos hd,if_pos (show depth vs+1≤n+1 by omega),eb,nG (by omega),if_pos rfl]
     simp only[Option.map_some,List.append_nil]
    ·rw[if_neg hd,if_neg (show ¬ depth vs+1≤n+1 by omega)]
  ·have e:lm (.mk 5 t vs)=t::(flat vs++[eH 5]):=rfl
   have d:iP (.mk 5 t vs)=depth vs+1:=rfl
   have ho:opens t=5:=oo.2 ht
   rw[e,d,List.cons_append,eb,xo ht,if_neg (by simp),ho,if_neg (show ¬ (5:Int)=0 by omega),if_pos (show (5:Int)=5 from rfl)]
   cases left with
   | zero=>rw[if_neg (show ¬ depth vs+1≤0 by omega)]
   | succ n =>
    simp only;rw[List.append_assoc,List.singleton_append,iQ vs 5 n _ hg];by_cases hd:depth vs≤n
    ·rw[if_pos hd,if_pos (show depth vs+1≤n+1 by omega),eb,nG (by omega),if_pos rfl]
     simp only[Option.map_some,List.append_nil]
    ·rw[if_neg hd,if_neg (show ¬ depth vs+1≤n+1 by omega)]
theorem iQ:∀ (vs:List Val) (kind:Int) (left:Nat) (l:List Tok),good kind vs=true →
  cO kind left (flat vs++l)=if depth vs≤left then(cO kind left l).map fun r=>(vs++r.1,r.2) else none
 | [],kind,left,l,_=>by
  simp[flat,depth]
 | v::vs,kind,left,l,h=>by
  simp only[good,Bool.and_eq_true] at h;rw[flat,List.append_assoc,sh v kind left _ h.1,iQ vs kind left l h.2,depth];by_cases h1:iP v≤left
  ·by_cases h2:depth vs≤left
   ·rw[if_pos h1,if_pos h2,if_pos (by omega),Option.map_map]
    rfl
   ·rw[if_pos h1,if_neg h2,if_neg (by omega)]
    rfl
  ·rw[if_neg h1,if_neg (by omega)]
end
theorem un {vs:List Val} (h:good 0 vs=true) (left:Nat):parse left (flat vs)=if depth vs≤left then some vs else none:=by
 have:=iQ vs 0 left [] h
 rw[List.append_nil,ig] at this
 unfold parse;rw[this];split
 ·simp
 ·rfl
theorem uN {left:Nat} {l:List Tok} {vs:List Val} (h:parse left l=some vs):good 0 vs=true∧depth vs≤left∧size vs≤l.length∧∃ c:List Int,flat vs=l++c.map eH:=by
 obtain⟨x,hx,rfl⟩:=Option.map_eq_some_iff.1 h;obtain⟨vs,rest⟩:=x;obtain⟨h1,h2,h3,h4⟩:=ud l.length 0 left l vs rest (Nat.le_refl _) (by omega) hx
 rcases h4 with⟨a,_⟩|⟨a,b⟩
 ·omega
 ·exact⟨h1,h2,by simp only;omega,b⟩
theorem ed:∀ l:List Val,l.length≤size l
 | []=>by simp
 | .mk k t l::r=>by
  have:=ed r
  simp only[List.length_cons,size,qe];omega
end Go.Abs.Ne
namespace Go.Abs.SR
open Go Go.Proofs Go.Abs
set_option maxRecDepth 10000
attribute [local go_sem] cG cj bF bH cF cf ce ay aV aR bw bU bg opd avOf cvOf St.degAt St.put okPV dr okAV cQ cR cP cv aj if_true Bool.false_eq_true if_false Option.map_some Option.map_none Option.bind_some Option.bind_none du dh upd List.toList_toArray bC steal aH mvB cX cw bR AV.deg CV.deg AV.gv AV.isIter co cg bG List.length_nil List.length_cons List.filterMap_cons List.filterMap_nil beq_iff_eq List.getElem?_cons_zero List.getElem?_cons_succ Option.getD_some Bool.false_and Bool.and_false Bool.and_self bv bO aJ lend back idx dedup AV.ren CV.ren TV.ren AV.ptrs CV.ptrs ck AV.flat CV.flat bL bu az bV cz dK bD ar bK aQ bd bt aP dV CV.pv? content aN ownT aD reps pvs chunks aZ leave dT bW cN bf aK TV.deg TV.av LK CV.plain CV.noBld cq dS bound List.map_cons List.map_nil List.all_cons List.all_nil List.any_cons List.any_nil List.contains_cons List.contains_nil List.elem_cons List.elem_nil List.cons_append List.nil_append List.append_nil List.flatMap_cons List.flatMap_nil List.zip_cons_cons List.zip_nil_left List.zip_nil_right List.take_succ_cons List.take_zero List.take_nil List.drop_succ_cons List.drop_zero List.drop_nil List.isEmpty_nil List.isEmpty_cons Bool.and_true Bool.true_and Bool.or_true Bool.true_or Bool.or_false Bool.false_or Bool.not_true Bool.not_false Nat.add_zero Nat.zero_add Option.isNone_none Option.isNone_some Option.getD_none true_and and_true not_true_eq_false not_false_eq_true decide_true decide_false Nat.le_refl and_self Bool.not_eq_true Nat.sub_self or_true true_or Option.some.injEq List.length_map List.nil_eq and_false false_and AV.live CV.live CV.liveIn ax Option.orElse_some Option.orElse_none head aI aF Int.lt_irrefl List.length_append ite_self dt br bZ aY Key.clash Key.sees Key.writes Nat.lt_irrefl gt_iff_lt ci dp false_or or_false beq_self_eq_true Bool.true_beq Bool.false_beq
theorem af:bm Tryz.prog 22=Option.some (Go.Abs.Desc.sl 58 Bool.false):=by kernel_rfl
theorem aU:szOf Tryz.prog 58=Option.some 5:=by kernel_rfl
theorem bS:cA Tryz.prog 58=Option.some (Option.some 5):=by kernel_rfl
theorem cu:bl Tryz.prog 58 0=Option.some (0,3):=by kernel_rfl
theorem cB:szOf Tryz.prog 3=Option.some 1:=by kernel_rfl
theorem bJ:cA Tryz.prog 3=Option.some Option.none:=by kernel_rfl
theorem aW:bl Tryz.prog 58 1=Option.some (1,56):=by kernel_rfl
theorem aq:szOf Tryz.prog 56=Option.some 3:=by kernel_rfl
theorem eF:bl Tryz.prog 56 0=Option.some (0,3):=by kernel_rfl
theorem aM:cA Tryz.prog 56=Option.some (Option.some 3):=by kernel_rfl
theorem cU:cA Tryz.prog 9=Option.some Option.none:=by kernel_rfl
theorem ao:zeroCells Tryz.prog 56=Option.some [Go.Abs.CV.pv (Go.Abs.PV.int Go.IntKind.i64 0),Go.Abs.CV.pv (Go.Abs.PV.str []),Go.Abs.CV.pv (Go.Abs.PV.int Go.IntKind.i64 0)]:=by kernel_rfl
theorem ee:fe Tryz.prog 56=Option.some [(0,1),(1,1),(2,1)]:=by kernel_rfl
def wl (f r:Nat):List Nat×List Nat:=if f==103&&r==2 then([0,1,7,8],[100000]) else([],[])
def vf:List Nat:=[103,96,223,187]
noncomputable def KS:Cfg := { P:=Tryz.prog,pr:=fun _=>none,keep:=wl,ownRet:=fun _=>false,good:=vf.contains,hook:=fun _ _=>false }
theorem jw (f:FuncId):KS.ownRet f=false:=rfl
theorem CT (f i:Nat):KS.hook f i=false:=rfl
theorem ev (f:FuncId) (id:Nat) (ops:Array Oper) (draw:Bool) (S:St):exL KS f (.region id ops draw) S=ay KS (den KS) ops.toList draw S:=bA f id ops draw S (CT f id)
theorem S_P:KS.P=Tryz.prog:=rfl
theorem ml (f r:Nat):KS.keep f r=wl f r:=rfl
theorem ix:wl 103 2=([0,1,7,8],[100000]):=by decide
theorem zb:KS.good 103=true:=rfl
theorem zC:KS.good 96=true:=rfl
theorem yi:KS.good 223=true:=rfl
theorem CI:KS.good 187=true:=rfl
abbrev I (n:Int):AV:=.c (.pv (.int .i64 n))
abbrev T (l:List UInt8):AV:=.c (.pv (.str l))
abbrev B (b:Bool):AV:=.c (.pv (.bool b))
abbrev L (l:List (List PV)):AV:=.c (.pv (.sl l))
abbrev P0:AV:=.c (.loc 100000 0)
theorem ld {f:FuncId} {fn:Func} {x:Code} {nt:Nat} {args:List AV} {bxs:List (List CV)} {r:Res} (hf:Tryz.prog.funcs[f]? = some fn) (hx:fn.body=some x) (hn:fn.ntmps=nt)
  (hl:args.length≤nt∧nt<LK) (h:(exL KS f x (aZ nt args bxs)).bind (fun r=>leave KS f fn bxs.length (some r))=some r):den KS f args bxs=some r:=by
 rw[rH (K:=KS) rfl rfl hf hx,hn,if_pos hl];exact h
theorem jY (f:FuncId) (a:Code) (S:St):exL KS f (.loop a) S=exL KS f (.loop a) (head (wl f ((ax a).getD 0)) S):=by
 rw[aB,aB (S:=head _ S),ml,lR]
theorem qx (n:Nat) (h:n<9223372036854775807):IntKind.i64.wrap ((n:Int)+1)=((n+1:Nat):Int):=by
 rw[IntWalk.i64_in _ (by omega)];omega
def aG:Val→Bool
 | .mk k t _=>k==1&&t.kind==8
def cD (s:List UInt8):Val→Bool
 | .mk k t _=>k==1&&decide (t=⟨7,s,0⟩)
theorem qB (k:Int) (t:Tok) (c:List Val):den KS 96 [.agg [.pv (.int .i64 k),.pv (.int .i64 t.kind),.pv (.str t.text),.pv (.int .i64 t.n),.pv (.sl (encL c))]] []=some (.ret (B (aG (.mk k t c))) []):=by
 have hr:Tryz.f96.results=#[.tmp 2]:=rfl
 refine ld Tryz.func96 rfl Tryz.ntmps96 ⟨by simp,by simp[LK]⟩ ?_
 unfold aG;cases h1:(k==1)
 ·simp only[go_sem,reduceLT,reduceEqDiff,Nat.reduceBEq,reduceAdd,reduceSub,reduceLeDiff,ev,jw,S_P,cu,cB,bJ,hr,h1]
 ·simp only[go_sem,reduceLT,reduceEqDiff,Nat.reduceBEq,reduceAdd,reduceSub,reduceLeDiff,ev,jw,S_P,cu,cB,bJ,aW,aq,eF,hr,h1]
theorem zP (d:List UInt8):den KS 187 [T d] []=some (.ret (.agg [.pv (.int .i64 7),.pv (.str d),.pv (.int .i64 0)]) []):=by
 have hr:Tryz.f187.results=#[.cell 2 56]:=rfl
 refine ld Tryz.func187 rfl Tryz.ntmps187 ⟨by simp,by simp[LK]⟩ ?_
 simp only[go_sem,reduceLT,reduceCtorEq,reduceEqDiff,Nat.reduceBEq,reduceAdd,reduceSub,reduceLeDiff,ev,jw,S_P,aM,ao,bh ao ee,aq,hr]
theorem nY (k k' n n':Int) (t t':List UInt8):ir Tryz.prog 56 [.int .i64 k,.str t,.int .i64 n] [.int .i64 k',.str t',.int .i64 n']=some ((k==k')&&((t==t')&&((n==n')&&true))):=by kernel_rfl
theorem vA (d:List UInt8) (k:Int) (t:Tok) (c:List Val):den KS 223 [.agg [.pv (.int .i64 k),.pv (.int .i64 t.kind),.pv (.str t.text),.pv (.int .i64 t.n),.pv (.sl (encL c))],P0] [[.pv (.str d)]]=some (.ret (B (cD d (.mk k t c))) [[.pv (.str d)]]):=by
 have hr:Tryz.f223.results=#[.tmp 3]:=rfl
 have hs:=zP d
 have he:=nY t.kind 7 t.n 0 t.text d
 have hv:cD d (.mk k t c)=(k==1&&((t.kind==7)&&((t.text==d)&&((t.n==0)&&true)))):=by
  unfold cD;obtain⟨tk,tt,tn⟩:=t;simp only[Bool.and_true];by_cases h:tk=7∧tt=d∧tn=0
  ·obtain⟨rfl,rfl,rfl⟩:=h;simp
  ·have:decide ((⟨tk,tt,tn⟩:Tok)=⟨7,d,0⟩)=false:=decide_eq_false fun e=>h (by cases e;exact⟨rfl,rfl,rfl⟩)
   have key:(tk==7&&(tt==d&&tn==0))=false:=by
    rw[Bool.eq_false_iff];intro e;simp only[Bool.and_eq_true,beq_iff_eq] at e
    exact h e
   rw[this,key]
 rw[hv];refine ld Tryz.func223 rfl Tryz.ntmps223 ⟨by simp,by simp[LK]⟩ ?_
 cases h1:(k==1)
 ·simp only[go_sem,reduceLT,reduceEqDiff,Nat.reduceBEq,reduceAdd,reduceSub,reduceLeDiff,ev,jw,S_P,cu,cB,bJ,hr,h1]
 ·generalize ((t.kind==7)&&((t.text==d)&&((t.n==0)&&true)))=b at he ⊢;simp only[go_sem,reduceLT,reduceEqDiff,Nat.reduceBEq,reduceAdd,reduceSub,reduceLeDiff,ev,jw,S_P,cu,cB,bJ,aW,aq,aM,cU,hr,h1,hs,he,CI]
inductive Cut:(Val→Bool)→CV→Option (List CV)→List (List CV)→Prop
 | blank:Cut aG (.fn 96 []) none []
 | sign (d:List UInt8):Cut (cD d) (.fn 223 [(100000,0)]) (some [.pv (.str d)]) [[.pv (.str d)]]
theorem CU (l:List Val) (i:Nat) (k:Int) (t:Tok) (l':List Val) (h:l[i]? = some (.mk k t l')):(encL l)[(i:Int).toNat]? = some [.int .i64 k,.int .i64 t.kind,.str t.text,.int .i64 t.n,.sl (encL l')]:=rY l i _ h
theorem ij {α:Type} {l rest:List α} {x:α} {i:Nat} (h:l.drop i=x::rest):l[i]? = some x∧l.drop (i+1)=rest∧i<l.length:=by
 have hi:i<l.length:=by
  rcases Nat.lt_or_ge i l.length with h'|h'
  ·exact h'
  ·rw[List.drop_eq_nil_iff.2 h'] at h;cases h
 rw[List.drop_eq_getElem_cons hi] at h;cases h;exact⟨List.getElem?_eq_getElem hi,rfl,hi⟩
abbrev ixH (l:List Val) (i:Nat) (fv:CV) (kb:Option (List CV)):St :=
  { sl:=upd (upd (upd (upd bot 8 (I i)) 7 (I l.length)) 1 (.c fv)) 0 (L (encL l)),bx:=upd nobox 100000 kb,nt:=19 }
noncomputable def ixlp:Code:=.loop (aO Tryz.f103 2)
theorem vW {p:Val→Bool} {fv:CV} {kb:Option (List CV)} {kl:List (List CV)} (hc:Cut p fv kb kl) (l:List Val) (hl:l.length≤1000000000):∀ (rest:List Val) (i:Nat),l.drop i=rest→i≤l.length →
  Ends (exL KS 103 ixlp (ixH l i fv kb)) fun o S=>S.bx 100000=kb∧match rest.findIdx? p with
   | none=>o=.exit 0∧S.nt=19
   | some j=>o=.ret∧S.sl 4=I ((i+j:Nat):Int)
 | [],i,hd,hi=>by
  have hin:i=l.length:=by
   have:=List.drop_eq_nil_iff.1 hd
   omega
  subst hin;have hlt:decide ((l.length:Int)<(l.length:Int))=false:=decide_eq_false (by omega)
  unfold ixlp
  conv in aO _ _=>whnf
  rw[aB];cases hc
  all_goals simp only[go_sem,reduceLT,reduceCtorEq,reduceEqDiff,ev,ml,ix,aX,List.findIdx?_nil]
 | .mk k t c::rest,i,hd,hi=>by
  obtain⟨g1,g2,g3⟩:=ij hd;have hlt:decide ((i:Int)<(l.length:Int))=true:=decide_eq_true (by omega)
  have hget:=CU l i k t c g1
  have ih:=vW hc l hl rest (i+1) g2 (by omega)
  unfold ixlp at ih ⊢
  conv at ih in aO _ _=>whnf
  rw[List.findIdx?_cons]
  conv in aO _ _=>whnf
  rw[aB];cases hv:p (.mk k t c)
  ·rw[if_neg (by simp)]
   cases hc with
   | blank =>
    have hm:=qB k t c
    rw[hv] at hm;simp only[go_sem,reduceLT,reduceCtorEq,reduceEqDiff,Nat.reduceBEq,reduceAdd,ev,jw,S_P,ml,ix,ag af,aU,bS,hlt,hget,Int.natCast_nonneg,hm,zC,qx i (by omega)]
    rw[jY];simp only[go_sem,reduceCtorEq,reduceEqDiff,ix];refine gY ih fun o S q=>⟨q.1,?_⟩
    have q2:=q.2
    cases hf:rest.findIdx? aG with
    | none=>rw[hf] at q2;exact q2
    | some j =>
     rw[hf] at q2
     refine⟨q2.1,q2.2.trans ?_⟩
     rw[show i+1+j=i+(j+1) by omega]
   | sign d =>
    have hm:=vA d k t c
    rw[hv] at hm;simp only[go_sem,reduceLT,reduceCtorEq,reduceEqDiff,Nat.reduceBEq,reduceAdd,ev,jw,S_P,ml,ix,ag af,aU,bS,hlt,hget,Int.natCast_nonneg,hm,yi,qx i (by omega)]
    rw[jY];simp only[go_sem,reduceCtorEq,reduceEqDiff,ix];refine gY ih fun o S q=>⟨q.1,?_⟩
    have q2:=q.2
    cases hf:rest.findIdx? (cD d) with
    | none=>rw[hf] at q2;exact q2
    | some j =>
     rw[hf] at q2
     refine⟨q2.1,q2.2.trans ?_⟩
     rw[show i+1+j=i+(j+1) by omega]
  ·rw[if_pos rfl];cases hc with
   | blank =>
    have hm:=qB k t c
    rw[hv] at hm;simp only[go_sem,reduceLT,reduceCtorEq,reduceEqDiff,Nat.reduceBEq,reduceAdd,ev,jw,S_P,ml,ix,ag af,aU,bS,hlt,hget,Int.natCast_nonneg,hm,zC,aX,Nat.add_zero]
   | sign d =>
    have hm:=vA d k t c
    rw[hv] at hm;simp only[go_sem,reduceLT,reduceCtorEq,reduceEqDiff,Nat.reduceBEq,reduceAdd,ev,jw,S_P,ml,ix,ag af,aU,bS,hlt,hget,Int.natCast_nonneg,hm,yi,aX,Nat.add_zero]
def ixOf (o:Option Nat):Int:=match o with|some j=>j|none => -1
theorem ks {p:Val→Bool} {fv:CV} {kb:Option (List CV)} {kl:List (List CV)} (hc:Cut p fv kb kl) (l:List Val) (hl:l.length≤1000000000) :
  den KS 103 [L (encL l),.c fv] kl=some (.ret (I (ixOf (l.findIdx? p))) kl):=by
 have hr:Tryz.f103.results=#[.tmp 4]:=rfl
 have h:=vW hc l hl l 0 rfl (Nat.zero_le _)
 unfold ixlp at h
 conv at h in aO _ _=>whnf
 obtain⟨o,S',w,hb,hq⟩:=h;have z0:((0:Nat):Int)=0:=rfl
 simp only[ixH,z0] at w
 refine ld Tryz.func103 rfl Tryz.ntmps103 ⟨by simp,by simp[LK]⟩ ?_
 cases hf:l.findIdx? p with
 | none =>
  rw[hf] at hq;obtain⟨rfl,hn⟩:=hq;unfold ixOf;cases hc
  all_goals
   simp only[go_sem,reduceLT,reduceCtorEq,reduceEqDiff,reduceAdd,ev,jw,S_P,ah af,bc];rw[jY];simp only[go_sem,reduceCtorEq,reduceEqDiff,ix];erw [w];simp only[go_sem,reduceLT,ev,hr,hn,hb]
 | some j =>
  rw[hf] at hq;obtain⟨rfl,h4⟩:=hq;rw[Nat.zero_add] at h4;unfold ixOf;cases hc
  all_goals
   simp only[go_sem,reduceLT,reduceCtorEq,reduceEqDiff,reduceAdd,ev,jw,S_P,ah af,bc];rw[jY];simp only[go_sem,reduceCtorEq,reduceEqDiff,ix];erw [w];simp only[go_sem,hr,h4,hb]
end Go.Abs.SR
namespace Go.Abs
open Go Go.Proofs Go.RowKit
theorem xD:(Tryz.prog.info? 58).map (fun i=>(i.zero.any (fun z=>z.cells.size==5),i.size,i.bytes))=some (true,5,64):=by kernel_rfl
theorem nX:∃ i z,Tryz.prog.info? 58=some i∧i.zero=some z∧z.cells.size=5∧i.size=5∧i.bytes=64:=by
 have h:=xD
 rw[Option.map_eq_some_iff] at h;obtain⟨i,hi,h⟩:=h;simp only[Prod.mk.injEq] at h;obtain⟨h1,h2,h3⟩:=h;cases hz:i.zero with
 | none=>rw[hz] at h1;cases h1
 | some z =>
  rw[hz] at h1;exact⟨i,z,hi,hz,by simpa using h1,h2,h3⟩
theorem pw {w:World} (o:Obj) {a:Addr} {v:Value} (h:w.cell? a=some v):(w.alloc o).cell? a=some v:=by
 have hlt:a.block<w.heap.size:=by
  unfold World.cell? at h
  cases e:w.heap[a.block]? with
  | none=>rw[e] at h;cases h
  | some o=>exact(Array.getElem?_eq_some_iff.1 e).1
 rw[((Below.refl w.heap.size w).alloc (Nat.le_refl _) o).cell hlt];exact h
set_option maxRecDepth 100000 in
theorem pJ (n c:Nat) (w:World) :
  Calls Tryz.prog 97 #[.slice none n c] w fun e w'=>e=.returned (.slice none 0 0)∧w'=w:=by
 go_enter Tryz.func97,Tryz.ntmps97
 have hq:=Lib.run_eql_slice_nil (P:=Tryz.prog) w 22 58 none n c 0 0 Tryz.underlying22
 go_wp2
 go_ret
 exact⟨rfl,rfl⟩
set_option maxRecDepth 100000 in
theorem oe (ad:Addr) (n c:Nat) (w:World) (news:List Value) (hl:news.length=n*5) (hnews:∀ j u,news[j]? = some u→w.cell? (ad.add j)=some u) (h1:∀ u∈news,u.oneCell'=true) (hn:n≤1000000000) :
  Calls Tryz.prog 97 #[.slice (some ad) n c] w fun e w'=>∃ v',e=.returned v'∧w'.ownsRow w.heap.size 58 5 v' n news∧Below w.heap.size w w':=by
 obtain⟨i,z,hi,hz,hzs,hs,hb⟩:=nX;have hrow:=World.ownsRow_made (e:=58) (size:=5) w #[] 0 (Nat.le_refl _) (by simp) (by simp)
 have hq:=Lib.run_eql_slice_nil (P:=Tryz.prog) w 22 58 (some ad) n c 0 0 Tryz.underlying22
 go_enter Tryz.func97,Tryz.ntmps97
 go_wp2_with (at_builtin;refine wpList_append_own _ rfl _ _ 22 rfl w.heap.size 58 i z 5 64 Tryz.underlying22 hi hz hs hb hzs (by decide) _ _ _ rfl hrow ad n c news rfl hl ?_ h1 ?_ ?_ ?_ ?_)
 ·exact fun j u h=>pw _ (hnews j u h)
 ·simp only[maxLen];omega
 ·omega
 ·simp
 ·intro v' w' hown hgrow hne;have hbl:Below w.heap.size w w':=((Below.refl _ w).alloc (Nat.le_refl _) _).grown hgrow (by simp) (fun k e=>by cases e;exact Nat.le_refl _)
  go_wp2
  go_ret
  exact⟨_,rfl,hown,hbl⟩
section
variable {G:Gh} {w w':World}
theorem Dj (hw:WI G w) (hb:Below w.heap.size w w') {g:Nat} {cur:Array Value} {e:TypeId} {fz:Nat×Nat} {f:Nat→Option Value} (hg:w.heap.size≤g) (hr:w'.heap[g]? = some (.cells cur e fz)) (hf:∀ k y,f k=some y→cur[k]? = some y) :
  Ext G w (G.row g f none) w'∧WI (G.row g f none) w':=by
 obtain⟨gr,hw'⟩:=fl hw hb;have hI:∀ b k y,G.I b k=some y→(G.row g f none).I b k=some y:=fun b k y h=>by
  have:=I_lt hw h
  show (if b=_ then f k else G.I b k)=_
  rw[if_neg (by omega)];exact h
 have hgl:g<w'.heap.size:=(Array.getElem?_eq_some_iff.1 hr).1
 refine⟨⟨hI,fun b hlt hn=>⟨?_,(gr.ext.old b hlt hn).2.1,fun k => ?_⟩,gr.ext.size,gr.ext.os,gr.ext.output,gr.ext.tape,fun _ _=>rfl⟩,
  ⟨fun b k y h => ?_,fun b hb'=>⟨fun k => ?_,?_⟩,fun b s hb' k => ?_,fun s b hb' => ?_,hw'.tab.map fun b _ hn=>⟨?_,rfl⟩⟩⟩
 ·show upd G.ow g none b=none
  unfold upd;split
  ·rfl
  ·exact hn
 ·show (if b=g then f k else G.I b k)=_
  rw[if_neg (by omega)]
 ·have h':(if b=g then f k else G.I b k)=some y:=h
  by_cases e:b=g
  ·subst e;rw[if_pos rfl] at h';have:=hf k y h'
   unfold World.cell?
   rw[hr]
   simpa using this
  ·rw[if_neg e] at h';exact hw'.cell b k y h'
 ·show (if b=g then f k else G.I b k)=none
  rw[if_neg (by omega)]
  exact(hw'.fresh b hb').1 k
 ·show upd G.ow g none b=none
  unfold upd;rw[if_neg (by omega)]
  exact(hw'.fresh b hb').2
 ·have h':upd G.ow g none b=some (.box s):=hb'
  unfold upd at h';split at h'
  ·cases h'
  ·rename_i e
   show (if b=g then f k else G.I b k)=none
   rw[if_neg e];exact hw'.boxI b s h' k
 ·have h1:=hw.bbow s b hb'
  have h2:=dU hw h1
  show upd G.ow g none b=_
  unfold upd;rw[if_neg (by omega)];exact h1
 ·show upd G.ow g none b=none
  unfold upd;split
  ·rfl
  ·exact hn
theorem lz (hw:WI G w) (hb:Below w.heap.size w w') {e:TypeId} {sz n:Nat} {v':Value} {news:List Value} (hown:w'.ownsRow w.heap.size e sz v' n news) {c:List (List PV)} (hn:c.length=n) (hsz:∀ el∈c,el.length=sz) (hv:All2 (RP G.I) c.flatten news) :
  ∃ G',Ext G w G' w'∧WI G' w'∧RP G'.I (.sl c) v'∧G'.bb=G.bb∧∀ b,G.ow b=none→G'.ow b=none:=by
 subst hn;rcases hown.2 with⟨rfl,h0⟩|⟨g,cap,cur,rfl,hg,hr,hcap,_,_,htake⟩
 ·obtain⟨gr,hw'⟩:=fl hw hb;have:c=[]:=List.eq_nil_of_length_eq_zero h0
  subst this;exact⟨G,gr.ext,hw',.sl0 _ _,rfl,fun _ h=>h⟩
 ·have hf:∀ k y,news[k]? = some y→cur[k]? = some y:=fun k y h=>by
   rw[←htake,List.getElem?_take] at h
   split at h
   ·rw[Array.getElem?_toList] at h;exact h
   ·cases h
  obtain⟨hx,hw'⟩:=Dj hw hb (f:=fun k=>news[k]?) hg hr hf
  refine⟨_,hx,hw',RP.of_seg hcap hsz (eV hsz (ys:=news) (fun k y h => ?_) (hv.imp fun p y _ h=>h.mono hx.I)),rfl,fun b h => ?_⟩
  ·show (if g=g then news[0+k]? else _)=_
   rw[if_pos rfl,Nat.zero_add];exact h
  ·show upd G.ow g none b=none
   unfold upd;split
   ·rfl
   ·exact h
end
theorem sC {G:Gh} {w:World} {x:Value} {c:List (List PV)} (hw:WI G w) (hx:RP G.I (.sl c) x) (hsz:∀ el∈c,el.length=5) (hlen:c.length≤1000000000) :
  Calls Tryz.prog 97 #[x] w fun e w'=>∃ v' G',e=.returned v'∧Ext G w G' w'∧WI G' w'∧RP G'.I (.sl c) v'∧G'.bb=G.bb∧∀ b,G.ow b=none→G'.ow b=none:=by
 obtain⟨pa,cap,rfl,hcap,hne⟩:=hx.slice_inv;cases pa with
 | none =>
  have hc:c=[]:=by
   cases c with
   | nil=>rfl
   | cons el c =>
    obtain⟨b,o,sz,h,_⟩:=hne (by simp)
    cases h
  subst hc;refine(pJ _ _ w).mono ?_
  rintro e w' ⟨rfl,rfl⟩
  exact⟨_,G,rfl,.refl _ _,hw,.sl0 _ _,rfl,fun _ h=>h⟩
 | some ad =>
  by_cases hc:c=[]
  ·subst hc;refine(oe ad 0 cap w [] rfl (fun j u h=>by simp at h) (fun u h=>by cases h) (by omega)).mono ?_
   rintro e w' ⟨v',rfl,hown,hb⟩
   obtain⟨G',h1,h2,h3,h4,h5⟩:=lz hw hb hown (c:=[]) rfl (fun el h=>by cases h) .nil
   exact⟨_,G',rfl,h1,h2,h3,h4,h5⟩
  ·obtain⟨b,o,sz,e1,hsz',hseg⟩:=hne hc;cases e1;have e5:sz=5:=by
    cases c with
    | nil=>exact absurd rfl hc
    | cons el c=>rw[←hsz' el (by simp),hsz el (by simp)]
   subst e5;obtain⟨ys,hl,hI,hv⟩:=fj (by decide) hsz hseg
   refine(oe ⟨b,o,none⟩ c.length cap w ys hl (fun j u h => ?_) (fun u hu=>gj hv u hu) hlen).mono ?_
   ·have:=hw.cell _ _ _ (hI j u h)
    have e:(⟨b,o,none⟩:Addr).add j=⟨b,o+j,none⟩:=by simp only[Addr.add];split<;>simp_all
    rw[e];exact this
   ·rintro e w' ⟨v',rfl,hown,hb⟩
    obtain⟨G',h1,h2,h3,h4,h5⟩:=lz hw hb hown rfl hsz hv;exact⟨_,G',rfl,h1,h2,h3,h4,h5⟩
def rg:Prim
 | [.c (.pv (.sl c))],[]=>if c.length≤1000000000∧c.all (fun el=>el.length==5) then some (.c (.pv (.sl c)),[]) else none
 | [.c .nils],[]=>some (.c (.pv (.sl [])),[])
 | _,_=>none
theorem xm {args:List AV} {bxs:List (List CV)} {x:AV×List (List CV)} (h:rg args bxs=some x):Contract Tryz.prog 97 args bxs (.ret x.1 x.2):=by
 unfold rg at h;split at h
 ·rename_i c;split at h
  case isFalse=>cases h
  rename_i hc;cases h;intro G w cargs hw hargs _ _ _;obtain⟨x,rfl,hx⟩:=de hargs;refine(sC hw hx (fun el hel=>by simpa using List.all_eq_true.1 hc.2 el hel) hc.1).mono ?_
  rintro e w' ⟨v',G',rfl,h1,h2,h3,_,_⟩
  exact⟨G',h1,h2,_,rfl,h3,rfl,fun i l h=>by simp at h⟩
 ·cases h
  intro G w cargs hw hargs _ _ _;obtain⟨x,rfl,hx⟩:=de hargs;obtain rfl:x=.slice none 0 0:=hx;refine(pJ 0 0 w).mono ?_
  rintro e w' ⟨rfl,rfl⟩
  exact⟨G,.refl _ _,hw,_,rfl,.sl0 _ _,rfl,fun i l h=>by simp at h⟩
 ·cases h
end Go.Abs
namespace Go.Abs
open Go Go.Proofs Go.RowKit
set_option maxRecDepth 10000
def zj (P:Program) (f:Nat):Bool :=
 match P.funcs[f]? with
 | some fn => fn.name != "runtime.NumGoroutine" && (match fn.body with | some c => dw (fun _ => false) c | none => false)
 | none=>false
theorem wH:SR.vf.all (zj Tryz.prog)=true:=by kernel_rfl
theorem vu:Prog SR.KS:=by
 refine⟨by kernel_rfl,fun g hg => ?_,fun f F args bxs x _ hF hx=>(by cases hF),fun f F args bxs r call _ hF=>by cases hF⟩
 have h1:g∈SR.vf:=by simpa[SR.KS] using hg
 have h2:=List.all_eq_true.1 wH g h1
 unfold zj at h2;split at h2
 ·rename_i fn hfn;simp only[Bool.and_eq_true] at h2;obtain⟨h3,h4⟩:=h2;split at h4
  ·rename_i c hc;exact⟨fn,c,hfn,by simpa using h3,hc,h4⟩
  ·cases h4
 ·cases h2
def Gn (I:Nat→Nat→Option Value):Gh:=⟨I,fun _=>none,fun _=>none⟩
structure Kp (X:Nat→Prop) (I:Nat→Nat→Option Value) (W:World) (I':Nat→Nat→Option Value) (W':World):Prop where
 mono:∀ b o y,I b o=some y→I' b o=some y
 old:∀ b,b<W.heap.size→¬ X b→W'.heap[b]? = W.heap[b]? ∧ ∀ o,I' b o=I b o
 none:∀ b,X b→b<W.heap.size→(∀ o,I b o=none)→∀ o,I' b o=none
 size:W.heap.size≤W'.heap.size
 os:W'.os=W.os
 output:W'.output=W.output
 tape:W'.tape=W.tape
theorem Kp.of_ext {X:Nat→Prop} {I I':Nat→Nat→Option Value} {W W':World} (h:Ext (Gn I) W (Gn I') W'):Kp X I W I' W' :=
 ⟨h.I,fun b hb _=>⟨(h.old b hb rfl).2.1,(h.old b hb rfl).2.2⟩,fun b _ hb hn o=>((h.old b hb rfl).2.2 o).trans (hn o),h.size,h.os,h.output,h.tape⟩
theorem Kp.trans {X:Nat→Prop} {I J K:Nat→Nat→Option Value} {A B C:World} (h:Kp X I A J B) (k:Kp X J B K C):Kp X I A K C :=
 ⟨fun b o y e=>k.mono _ _ _ (h.mono _ _ _ e),fun b hb hx=>⟨(k.old b (Nat.lt_of_lt_of_le hb h.size) hx).1.trans (h.old b hb hx).1,fun o=>((k.old b (Nat.lt_of_lt_of_le hb h.size) hx).2 o).trans ((h.old b hb hx).2 o)⟩,
  fun b hx hb hn=>k.none b hx (Nat.lt_of_lt_of_le hb h.size) (h.none b hx hb hn),Nat.le_trans h.size k.size,k.os.trans h.os,k.output.trans h.output,k.tape.trans h.tape⟩
theorem sP {G:Gh} {W:World} (hw:WI G W):WI (Gn G.I) W :=
 ⟨hw.cell,fun b h=>⟨(hw.fresh b h).1,rfl⟩,(fun b s h=>by cases h),(fun s b h=>by cases h),hw.tab.map fun b _ _=>⟨rfl,rfl⟩⟩
theorem tl {I:Nat→Nat→Option Value} {W:World} {x:Value} {c:List (List PV)} (hw:WI (Gn I) W) (hx:RP I (.sl c) x) (hsz:∀ el∈c,el.length=5) (hlen:c.length≤1000000000) :
  Calls Tryz.prog 97 #[x] W fun e W'=>∃ v' I',e=.returned v'∧Ext (Gn I) W (Gn I') W'∧WI (Gn I') W'∧RP I' (.sl c) v':=by
 refine(sC (G:=Gn I) hw hx hsz hlen).mono ?_
 rintro e W' ⟨v',G',rfl,h1,h2,h3,h4,h5⟩
 refine⟨v',G'.I,rfl,⟨h1.I,fun b hb _=>⟨rfl,(h1.old b hb rfl).2⟩,h1.size,h1.os,h1.output,h1.tape,fun _ _=>rfl⟩,sP h2,h3⟩
theorem sd:(tabs.all fun x=>x.2.length != 1)=true:=by kernel_rfl
inductive CutV (X:Nat→Prop) (I:Nat→Nat→Option Value) (W:World):(Val→Bool)→Value→Prop
 | blank:CutV X I W SR.aG (.func (.func 96) #[] #[])
 | sign (d:List UInt8) (Bd:Nat) (ty:TypeId) (hX:X Bd) (hI:∀ o,I Bd o=none) (hW:W.heap[Bd]? = some (.cells #[.string ⟨d.toArray⟩] ty (0,0))) :
   CutV X I W (SR.cD d) (.func (.func 223) #[] #[.pointer (some ⟨Bd,0,none⟩)])
theorem CutV.kept {X:Nat→Prop} {I I':Nat→Nat→Option Value} {W W':World} {p:Val→Bool} {v:Value} (h:CutV X I W p v) (hI:∀ b,X b→b<W.heap.size→(∀ o,I b o=none)→∀ o,I' b o=none) (hW:∀ b,X b→b<W.heap.size→W'.heap[b]? = W.heap[b]?):CutV X I' W' p v:=by
 cases h with
 | blank=>exact .blank
 | sign d Bd ty hX hn hW0 =>
  have hlt:=(Array.getElem?_eq_some_iff.1 hW0).1
  exact .sign d Bd ty hX (hI Bd hX hlt hn) ((hW Bd hX hlt).trans hW0)
def Gd (I:Nat→Nat→Option Value) (Bd:Nat):Gh:=⟨I,upd (fun _=>none) LK (some Bd),upd (fun _=>none) Bd (some (.box LK))⟩
theorem vQ (I:Nat→Nat→Option Value) (Bd b:Nat):(Gd I Bd).ow b=if b=Bd then some (Own.box LK) else none:=rfl
theorem zu (I:Nat→Nat→Option Value) (Bd s:Nat):(Gd I Bd).bb s=if s=LK then some Bd else none:=rfl
theorem Dw {I:Nat→Nat→Option Value} {W:World} (hw:WI (Gn I) W) {Bd:Nat} {s:ByteArray} {ty:TypeId} (hn:∀ o,I Bd o=none) (hW:W.heap[Bd]? = some (.cells #[.string s] ty (0,0))):WI (Gd I Bd) W:=by
 have hlt:=(Array.getElem?_eq_some_iff.1 hW).1
 have how:∀ b,b≠Bd→(Gd I Bd).ow b=none:=fun b h=>by rw[vQ,if_neg h]
 refine⟨hw.cell,fun b h=>⟨(hw.fresh b h).1,how b (by omega)⟩,fun b s h o => ?_,fun s b h => ?_,⟨fun x hx => ?_,fun b hb => ?_⟩⟩
 ·rw[vQ] at h;split at h
  ·rename_i e;rw[e];exact hn o
  ·cases h
 ·rw[zu] at h;split at h
  ·rename_i e;cases h;subst e;rw[vQ,if_pos rfl]
  ·cases h
 ·obtain⟨_,ty',fz,h2⟩:=hw.tab.1 x hx;refine⟨how _ fun e => ?_,ty',fz,h2⟩
  rw[e,hW] at h2;have h3:=List.all_eq_true.1 sd x hx
  simp only[Option.some.injEq,Obj.cells.injEq] at h2;have:=congrArg Array.size h2.1
  simp at this
  simp[←this] at h3
 ·obtain⟨_,m,cs,ty',fz,h2,h3⟩:=hw.tab.2 b hb;refine⟨how _ fun e => ?_,m,cs,ty',fz,h2,h3⟩
  rw[e,hW] at h2;simp only[Option.some.injEq,Obj.cells.injEq] at h2;rw[←h2.1] at h3;simp at h3
theorem AA {X:Nat→Prop} {I:Nat→Nat→Option Value} {W:World} {x fv:Value} {l:List Val} {p:Val→Bool} (hw:WI (Gn I) W) (hx:RP I (.sl (encL l)) x) (hl:l.length≤1000000000) (hc:CutV X I W p fv) :
  Calls Tryz.prog 103 #[x,fv] W fun e W'=>∃ I',e=.returned (.int .i64 (SR.ixOf (l.findIdx? p)))∧Kp X I W I' W'∧WI (Gn I') W'∧CutV X I' W' p fv∧∀ b,b<W.heap.size→fv≠.func (.func 223) #[] #[.pointer (some ⟨b,0,none⟩)]→W'.heap[b]? = W.heap[b]? := by
 cases hc with
 | blank =>
  have hd:=SR.ks .blank l hl
  refine(ou vu SR.zb hd (Gn I) W [x,.func (.func 96) #[] #[]] hw (.cons hx (.cons ⟨[],rfl,.nil⟩ .nil)) (fun v hv => ?_) (fun i l h=>by simp at h) (fun s b h=>by cases h)).mono ?_
  ·simp only[List.mem_cons,List.not_mem_nil,or_false] at hv;rcases hv with rfl|rfl<;>rfl
  ·rintro e W' ⟨G',h1,h2,y,rfl,h3,_,_⟩
   have h3':RP G'.I (.int .i64 (SR.ixOf (l.findIdx? SR.aG))) y:=h3
   cases h3'
   have he:Ext (Gn I) W (Gn G'.I) W':=⟨h1.I,fun b hb _=>⟨rfl,(h1.old b hb rfl).2⟩,h1.size,h1.os,h1.output,h1.tape,fun _ _=>rfl⟩
   exact⟨G'.I,rfl,Kp.of_ext he,sP h2,.blank,fun b hb _=>(h1.old b hb rfl).2.1⟩
 | sign d Bd ty hX hn hW0 =>
  have hd:=SR.ks (.sign d) l hl
  have hwd:=Dw hw hn hW0
  have hlt:=(Array.getElem?_eq_some_iff.1 hW0).1
  have hbk:(Gd I Bd).bb LK=some Bd:=by rw[zu,if_pos rfl]
  have how:∀ b,b≠Bd→(Gd I Bd).ow b=none:=fun b h=>by rw[vQ,if_neg h]
  refine(ou vu SR.zb hd (Gd I Bd) W [x,.func (.func 223) #[] #[.pointer (some ⟨Bd,0,none⟩)]] hwd (.cons hx (.cons ⟨[_],rfl,.cons ⟨Bd,hbk,rfl⟩ .nil⟩ .nil)) (fun v hv => ?_) (fun i l h => ?_) (fun s b h => ?_)).mono ?_
  ·simp only[List.mem_cons,List.not_mem_nil,or_false] at hv;rcases hv with rfl|rfl<;>rfl
  ·cases i with
   | succ i=>simp at h
   | zero =>
    simp only[List.getElem?_cons_zero,Option.some.injEq] at h
    subst h;refine⟨Bd,_,_,hbk,hW0,⟨rfl,fun e=>by simp at e⟩,fun k v hk => ?_⟩
    cases k with
    | succ k=>simp at hk
    | zero =>
     simp only[List.getElem?_cons_zero,Option.some.injEq] at hk
     subst hk;exact⟨_,rfl,.str _⟩
  ·rw[zu] at h;split at h
   ·rename_i e;exact⟨0,by simp,by omega⟩
   ·cases h
  ·rintro e W' ⟨G',h1,h2,y,rfl,h3,_,h4⟩
   have h3':RP G'.I (.int .i64 (SR.ixOf (l.findIdx? (SR.cD d)))) y:=h3
   cases h3'
   obtain⟨b,cs,ty',k1,k2,⟨k3,_⟩,k4⟩:=h4 0 _ rfl;have k1':G'.bb LK=some b:=k1
   rw[h1.lent LK (Nat.le_refl _),hbk] at k1'
   cases k1'
   obtain⟨z,k5,k6⟩:=k4 0 _ rfl;have k6':RP G'.I (.str d) z:=k6
   cases k6'
   have hcs:cs=#[.string ⟨d.toArray⟩]:=by
    have e1:cs.size=1:=k3
    apply Array.ext
    ·rw[e1];rfl
    ·intro i hi1 hi2;have:i=0:=by omega
     subst this;rw[Array.getElem?_eq_getElem hi1] at k5
     simpa using k5
   have hn':∀ o,G'.I Bd o=none:=h2.boxI Bd LK (h2.bbow LK Bd k1)
   refine⟨G'.I,rfl,⟨h1.I,fun b hb hx=>(h1.old b hb (how b fun e=>hx (e▸hX))).2,fun b hx hb hnb o => ?_,h1.size,h1.os,h1.output,h1.tape⟩,sP h2,.sign d Bd ty' hX hn' (by rw[k2,hcs]),fun b hb hne=>(h1.old b hb (how b fun e=>hne (by rw[e]))).2.1⟩
   by_cases e:b=Bd
   ·rw[e];exact hn' o
   ·exact((h1.old b hb (how b e)).2.2 o).trans (hnb o)
theorem BW {I:Nat→Nat→Option Value} {W:World} {x:Value} {c:List (List PV)} (hx:RP I (.sl c) x) (hsz:∀ el∈c,el.length=5) (j:Nat) (hj:j≤c.length) (hl:c.length≤1000000000) :
  ∃ z,(Instr.sliceAt 22 x none (some (.int .i64 j)) none).run Tryz.prog W=.ok z W∧RP I (.sl (c.take j)) z:=by
 have h:dW Tryz.prog 22 (.c (.pv (.sl c))) none (some (.c (.pv (.int .i64 j)))) none=some (.c (.pv (.sl (c.take j)))):=by
  have hs:szOf Tryz.prog 58=some 5:=by kernel_rfl
  have hall:(c.all fun el=>el.length==5)=true:=List.all_eq_true.2 fun el hel=>by simp[hsz el hel]
  unfold dW;rw[Tryz.underlying22];simp[content,bound,hs,hall,hj]
 obtain⟨z,h1,q,e,h2⟩:=oB (G:=Gn I) (w:=W) (ℓ:=.ret) (lo':=none) (hi':=some (.int .i64 j)) (mx':=none) h hx trivial ⟨.ret,.int _ _⟩ trivial;cases e;exact⟨z,h1,h2⟩
theorem BK {I:Nat→Nat→Option Value} {W:World} {x:Value} {c:List (List PV)} (hx:RP I (.sl c) x) (hsz:∀ el∈c,el.length=5) (j:Nat) (hj:j≤c.length) (hl:c.length≤1000000000) :
  ∃ z,(Instr.sliceAt 22 x (some (.int .i64 j)) none none).run Tryz.prog W=.ok z W∧RP I (.sl (c.drop j)) z:=by
 have h:dW Tryz.prog 22 (.c (.pv (.sl c))) (some (.c (.pv (.int .i64 j)))) none none=some (.c (.pv (.sl (c.drop j)))):=by
  have hs:szOf Tryz.prog 58=some 5:=by kernel_rfl
  have hall:(c.all fun el=>el.length==5)=true:=List.all_eq_true.2 fun el hel=>by simp[hsz el hel]
  unfold dW;rw[Tryz.underlying22];simp[content,bound,hs,hall,hj]
 obtain⟨z,h1,q,e,h2⟩:=oB (G:=Gn I) (w:=W) (ℓ:=.ret) (lo':=some (.int .i64 j)) (hi':=none) (mx':=none) h hx ⟨.ret,.int _ _⟩ trivial trivial;cases e;exact⟨z,h1,h2⟩
def cutL (p:Val→Bool):List Val→List (List Val)
 | []=>[[]]
 | v::l=>if p v then []::cutL p l else match cutL p l with
  | []=>[[v]]
  | q::qs=>(v::q)::qs
theorem BR (p:Val→Bool) (l:List Val):∃ q qs,cutL p l=q::qs:=by
 cases l with
 | nil=>exact⟨_,_,rfl⟩
 | cons v l =>
  rw[cutL];split
  ·exact⟨_,_,rfl⟩
  ·split
   ·exact⟨_,_,rfl⟩
   ·exact⟨_,_,rfl⟩
theorem qw {p:Val→Bool}:∀ {l:List Val},l.findIdx? p=none→cutL p l=[l]
 | [],_=>rfl
 | v::l,h=>by
  rw[List.findIdx?_cons] at h
  split at h
  ·cases h
  ·rename_i hv;rw[Option.map_eq_none_iff] at h;rw[cutL,if_neg hv,qw h]
theorem qo {p:Val→Bool}:∀ {l:List Val} {j:Nat},l.findIdx? p=some j→j<l.length∧cutL p l=l.take j::cutL p (l.drop (j+1))
 | [],j,h=>by simp at h
 | v::l,j,h=>by
  rw[List.findIdx?_cons] at h
  split at h
  ·rename_i hv;cases h;exact⟨by simp,by rw[cutL,if_pos hv];simp⟩
  ·rename_i hv;rw[Option.map_eq_some_iff] at h;obtain⟨i,hi,rfl⟩:=h;obtain⟨h1,h2⟩:=qo hi;refine⟨by rw[List.length_cons];omega,?_⟩
   rw[cutL,if_neg hv,h2];simp
end Go.Abs
namespace Go.Abs
open Go Go.Proofs Go.RowKit Go.Shelf
set_option maxRecDepth 10000
attribute [local go_sem] Oper.semAt_some
def om (Bl:Nat) (w:World):Nat:=match w.cell? ⟨Bl,0,none⟩ with|some (.slice _ n _)=>n|_=>0
theorem vO (l:List Val):∀ el∈encL l,el.length=5:=fun el h=>by
 rw[ep] at h;obtain⟨v,_,rfl⟩:=List.mem_map.1 h;exact rx v
theorem xQ (l:List Val) (j:Nat):(encL l).take j=encL (l.take j):=by rw[ep,ep,List.map_take]
theorem xP (l:List Val) (j:Nat):(encL l).drop j=encL (l.drop j):=by rw[ep,ep,List.map_drop]
theorem eX (W:World) (Bl:Nat) (v:Value) {b:Nat} (h:b≠Bl):(W.setCell ⟨Bl,0,none⟩ v).heap[b]? = W.heap[b]? := Below.heap_setCell W ⟨Bl,0,none⟩ v b h
theorem Cu {I:Nat→Nat→Option Value} {W:World} (hw:WI (Gn I) W) {Bl:Nat} {ty:TypeId} {a:Option Addr} {n c:Nat} (hn:∀ o,I Bl o=none) (hW:W.heap[Bl]? = some (.cells #[.slice a n c] ty (0,0))) (v:Value):WI (Gn I) (W.setCell ⟨Bl,0,none⟩ v):=by
 have hsz:(W.setCell ⟨Bl,0,none⟩ v).heap.size=W.heap.size:=by simp[World.setCell]
 refine⟨fun b o y h => ?_,fun b h=>hw.fresh b (by rw[hsz] at h;exact h),(fun b s h=>by cases h),(fun s b h=>by cases h),⟨fun x hx => ?_,fun b hb => ?_⟩⟩
 ·have hne:b≠Bl:=fun e=>by
   have h':I b o=some y:=h
   rw[e,hn o] at h';cases h'
  have:=hw.cell b o y h
  unfold World.cell? at this ⊢
  rw[eX W Bl v hne];exact this
 ·obtain⟨h1,ty',fz,h2⟩:=hw.tab.1 x hx;refine⟨h1,ty',fz,(eX W Bl v fun e => ?_).trans h2⟩
  rw[e,hW] at h2;have h3:=List.all_eq_true.1 sd x hx
  simp only[Option.some.injEq,Obj.cells.injEq] at h2;have:=congrArg Array.size h2.1
  simp at this
  simp[←this] at h3
 ·obtain⟨h1,m,cs,ty',fz,h2,h3⟩:=hw.tab.2 b hb;refine⟨h1,m,cs,ty',fz,(eX W Bl v fun e => ?_).trans h2,h3⟩
  rw[e,hW] at h2;simp only[Option.some.injEq,Obj.cells.injEq] at h2;rw[←h2.1] at h3;simp at h3
theorem Dk (X:Nat→Prop) (I:Nat→Nat→Option Value) (W:World) {Bl:Nat} (hX:X Bl) (v:Value):Kp X I W I (W.setCell ⟨Bl,0,none⟩ v) :=
 ⟨fun _ _ _ h=>h,fun b _ hx=>⟨eX W Bl v fun e=>hx (e▸hX),fun _=>rfl⟩,fun _ _ _ h=>h,by simp[World.setCell],rfl,rfl,rfl⟩
set_option maxRecDepth 100000 in
theorem pQ (l Bl Bc:Nat) (X:Nat→Prop) (fv:Value) (p:Val→Bool) (tc:TypeId) (hXl:X Bl) (hXc:X Bc) (hfl:fv≠.func (.func 223) #[] #[.pointer (some ⟨Bl,0,none⟩)]) (hfc:fv≠.func (.func 223) #[] #[.pointer (some ⟨Bc,0,none⟩)])
  (hlc:Bl≠Bc) (J:(Nat→Nat→Option Value)→List (List Val)→World→Prop)
  (hJw:∀ {I s A},J I s A→WI (Gn I) A∧∀ b,X b→∀ o,I b o=none)
  (hJk:∀ {I s A I' B},J I s A→Kp X I A I' B→WI (Gn I') B→J I' s B)
  (I0:Nat→Nat→Option Value) (s0:List (List Val)) (W:World) (h0:J I0 s0 W) (hc:CutV X I0 W p fv) (xl:Value) (ty:TypeId) (vs:List Val) (hvs:vs.length≤1000000000)
  (hY:∀ {I s A v x},J I s A→RP I (.sl (encL x)) v→s.length<(s0++cutL p vs).length→YieldAt Fence.wide 0 Tryz.prog l #[v] A fun e B=>e=.returned (.bool true)∧(∀ b,X b→B.heap[b]? = A.heap[b]?)∧∃ I',(∀ b o y,I b o=some y→I' b o=some y)∧J I' (s++[x]) B)
  (hBl:W.heap[Bl]? = some (.cells #[xl] ty (0,0))) (hxl:RP I0 (.sl (encL vs)) xl) (hBc:W.heap[Bc]? = some (.cells #[fv] tc (0,0))) :
  CallsIn Fence.wide 1 Tryz.prog 262 #[.func (.yield l) #[] #[],.pointer (some ⟨Bl,0,none⟩),.pointer (some ⟨Bc,0,none⟩)] W fun e W'=>(∃ v,e=.returned v)∧∃ I',J I' (s0++cutL p vs) W':=by
 refine callsIn_of_wp Tryz.func262 rfl trivial ?_ rfl
 simp only[Tryz.ntmps262,List.size_toArray,List.length_cons,List.length_nil,reduceAdd,reduceSub,Array.replicate_succ,Array.replicate_zero,List.push_toArray,List.append_toArray,List.nil_append,List.cons_append]
 gi_wp2
 gi_loopw [] (fun wr=>∃ (I:Nat→Nat→Option Value) (s:List (List Val)) (rest:List Val) (x:Value),J I s wr∧s++cutL p rest=s0++cutL p vs∧rest.length≤1000000000∧CutV X I wr p fv ∧
   wr.heap[Bl]? = some (.cells #[x] ty (0,0))∧RP I (.sl (encL rest)) x∧wr.heap[Bc]? = some (.cells #[fv] tc (0,0)))
  (fun wr=>om Bl wr)
 case atStart =>
  exact⟨I0,s0,vs,xl,h0,rfl,hvs,hc,hBl,hxl,hBc⟩
 case round =>
  obtain⟨I,s,rest,x,hJ,hs,hrl,hcv,hl1,hx,hb1⟩:=hrel;obtain⟨hw,hXn⟩:=hJw hJ;have hslt:s.length<(s0++cutL p vs).length:=by
   rw[←hs,List.length_append];obtain⟨q,qs,eq⟩:=BR p rest;rw[eq,List.length_cons];omega
  have hltl:=(Array.getElem?_eq_some_iff.1 hl1).1
  have hltc:=(Array.getElem?_eq_some_iff.1 hb1).1
  have c1:wr.cell? ⟨Bl,0,none⟩=some x:=Boxed.cell hl1
  have c2:wr.cell? ⟨Bc,0,none⟩=some fv:=Boxed.cell hb1
  have hi:=AA hw hx hrl hcv
  cases hf:rest.findIdx? p with
  | none =>
   rw[hf] at hi;have hi':Calls Tryz.prog 103 #[x,fv] wr fun e W'=>∃ I',e=.returned (.int .i64 (-1))∧Kp X I wr I' W'∧WI (Gn I') W'∧CutV X I' W' p fv∧∀ b,b<wr.heap.size→fv≠.func (.func 223) #[] #[.pointer (some ⟨b,0,none⟩)]→W'.heap[b]? = wr.heap[b]? := hi
   gi_wp2_with (refine⟨trivial,?_⟩;gi_at_call 103;refine(callsIn_wide.2 hi').mono ?_)
   rintro e W1 ⟨I1,rfl,hk1,hw1,hcv1,hh1⟩
   have hl2:Boxed W1 Bl ty x:=(hh1 Bl hltl hfl).trans hl1
   have d1:=hl2.cell
   have hx1:RP I1 (.sl (encL rest)) x:=hx.mono hk1.mono
   have hcl:=tl hw1 hx1 (vO rest) (by rw[bc];exact hrl)
   gi_wp2_with (refine⟨trivial,?_⟩;gi_at_call 97;refine(callsIn_wide.2 hcl).mono ?_)
   rintro e W2 ⟨v',I2,rfl,he2,hw2,hv2⟩
   have hJ2:J I2 s W2:=hJk (hJk hJ hk1 hw1) (Kp.of_ext he2) hw2
   obtain⟨fn,tmps,assign,body,hy,hR⟩:=hY hJ2 hv2 hslt
   gi_wp2
   refine hR.mono ?_
   rintro e W3 ⟨rfl,hXb,I3,hm3,hJ3⟩
   gi_wp2
   refine bodyPost_ret (results_none rfl _ _ _) rfl ?_
   refine⟨⟨_,rfl⟩,I3,?_⟩
   rw[←hs,qw hf];exact hJ3
  | some j =>
   obtain⟨hj,hcut⟩:=qo hf;rw[hf] at hi;have hi':Calls Tryz.prog 103 #[x,fv] wr fun e W'=>∃ I',e=.returned (.int .i64 (j:Int))∧Kp X I wr I' W'∧WI (Gn I') W'∧CutV X I' W' p fv∧∀ b,b<wr.heap.size→fv≠.func (.func 223) #[] #[.pointer (some ⟨b,0,none⟩)]→W'.heap[b]? = wr.heap[b]? := hi
   have hneg:¬ ((j:Int)<0):=by omega
   have hneg':decide ((j:Int)<0)=false:=decide_eq_false hneg
   gi_wp2_with (refine⟨trivial,?_⟩;gi_at_call 103;refine(callsIn_wide.2 hi').mono ?_)
   rintro e W1 rfl I1 hk1 hw1 hcv1 hh1
   have hl2:Boxed W1 Bl ty x:=(hh1 Bl hltl hfl).trans hl1
   have hb2:Boxed W1 Bc tc fv:=(hh1 Bc hltc hfc).trans hb1
   have d1:=hl2.cell
   have hx1:RP I1 (.sl (encL rest)) x:=hx.mono hk1.mono
   obtain⟨z,hz,hzr⟩:=BW (W:=W1) hx1 (vO rest) j (by rw[bc];omega) (by rw[bc];exact hrl)
   rw[xQ] at hzr;have hcl:=tl hw1 hzr (vO _) (by rw[bc,List.length_take];omega)
   gi_wp2_with (refine⟨trivial,?_⟩;gi_at_call 97;refine(callsIn_wide.2 hcl).mono ?_)
   rintro e W2 ⟨v',I2,rfl,he2,hw2,hv2⟩
   have hJ2:J I2 s W2:=hJk (hJk hJ hk1 hw1) (Kp.of_ext he2) hw2
   obtain⟨fn,tmps,assign,body,hy,hR⟩:=hY hJ2 hv2 hslt;have hlt1:=(Array.getElem?_eq_some_iff.1 hl2).1
   have hlt2:=(Array.getElem?_eq_some_iff.1 hb2).1
   have hcv2:CutV X I2 W2 p fv:=hcv1.kept (fun b hx hb hn o=>((he2.old b hb rfl).2.2 o).trans (hn o)) (fun b _ hb=>(he2.old b hb rfl).2.1)
   gi_wp2
   refine hR.mono ?_
   rintro e W3 ⟨rfl,hXb,I3,hm3,hJ3⟩
   have hl3:Boxed W3 Bl ty x:=(hXb Bl hXl).trans ((he2.old Bl hlt1 rfl).2.1.trans hl2)
   have hb3:Boxed W3 Bc tc fv:=(hXb Bc hXc).trans ((he2.old Bc hlt2 rfl).2.1.trans hb2)
   obtain⟨hw3,hXn3⟩:=hJw hJ3;have hcv3:CutV X I3 W3 p fv:=hcv2.kept (fun b hx _ _=>hXn3 b hx) (fun b hx _=>hXb b hx)
   have hx3:RP I3 (.sl (encL rest)) x:=(hx1.mono he2.I).mono hm3
   obtain⟨z2,hz2,hzr2⟩:=BK (W:=W3) hx3 (vO rest) (j+1) (by rw[bc];omega) (by rw[bc];exact hrl)
   rw[xP] at hzr2;have hcast:((j+1:Nat):Int)=(j:Int)+1:=by omega
   rw[hcast] at hz2;have d3:=hl3.cell
   have f3:=hl3.frozen
   have hwj:IntKind.i64.wrap ((j:Int)+1)=(j:Int)+1:=IntWalk.i64_in _ (by omega)
   obtain⟨xa,xc,rfl,_,_⟩:=hx3.slice_inv;obtain⟨za,zc,ez,_,_⟩:=hzr2.slice_inv;rw[ez] at hz2
   gi_wp2
   rw[←ez];have hl4:Boxed (W3.setCell ⟨Bl,0,none⟩ z2) Bl ty z2:=hl3.set z2
   have hb4:Boxed (W3.setCell ⟨Bl,0,none⟩ z2) Bc tc fv:=(eX W3 Bl z2 (Ne.symm hlc)).trans hb3
   have hw4:=Cu hw3 (hXn3 Bl hXl) hl3 z2
   have hJ4:J I3 (s++[rest.take j]) (W3.setCell ⟨Bl,0,none⟩ z2):=hJk hJ3 (Dk X I3 W3 hXl z2) hw4
   have hcv4:CutV X I3 (W3.setCell ⟨Bl,0,none⟩ z2) p fv:=by
    cases hcv3 with
    | blank=>exact .blank
    | sign d Bd tyd hX hn hWd =>
     exact .sign d Bd tyd hX hn ((eX W3 Bl z2 fun e=>hfl (by rw[e])).trans hWd)
   go_roundw
   case rel=>exact⟨I3,s++[rest.take j],rest.drop (j+1),z2,hJ4,by rw[List.append_assoc,List.singleton_append,←hcut,hs],by rw[List.length_drop];omega,hcv4,hl4,hzr2,hb4⟩
   case measure =>
    have m1:om Bl (W3.setCell ⟨Bl,0,none⟩ z2)=(encL (rest.drop (j+1))).length:=by unfold om;rw[hl4.cell,ez]
    have m2:om Bl wr=(encL rest).length:=by unfold om;rw[c1]
    rw[m1,m2,bc,bc,List.length_drop];omega
end Go.Abs
namespace Go.Abs
open Go Go.Proofs Go.RowKit Go.Shelf
theorem Below.of_grown {B:Nat} {w a b:World} {row:Option Nat} (h:Below B w a) (g:a.grownBy b row) (hB:B≤a.heap.size) (hr:∀ k,row=some k→B≤k):Below B w b :=
 ⟨g.os.trans h.os,g.tape.trans h.tape,g.output.trans h.output,Nat.le_trans h.size g.size,fun k hk=>(g.block k (by omega) fun e=>by have:=hr k e.symm;omega).trans (h.block k hk)⟩
structure ColAt (W0:World) (I0:Nat→Nat→Option Value) (X:Nat→Prop) (rec:Loop) (Bs l D base:Nat) (f:List (List Val)→List (List Val)) (I:Nat→Nat→Option Value) (ss:List (List Val)) (A:World):Prop where
 wi:WI (Gn I) A
 hX:∀ b,X b→b<A.heap.size∧∀ o,I b o=none
 raw:(∀ o,I Bs o=none)∧(∀ o,I l o=none)∧∀ o,I D o=none
 box:∃ v vs,Boxed A Bs 162 v∧A.ownsRow base 22 1 v vs.length vs∧All2 (RP I) ((f ss).map fun x=>PV.sl (encL x)) vs∧∀ g,v.ownBlock=some g→∀ o,I g o=none
 L:A.heap[l]? = some (.loop rec)
 K:A.heap[D]? = some (.deferred (some []))
 below:Below W0.heap.size W0 A
 old:∀ b,b<W0.heap.size→∀ o,I b o=I0 b o
structure ColIx (W0:World) (X:Nat→Prop) (Bs l D base:Nat):Prop where
 h1:Bs≠l
 h2:D≠l
 h3:D≠Bs
 x1:¬ X Bs
 x2:¬ X l
 x3:¬ X D
 x4:∀ b,X b→W0.heap.size≤b∧b<base
 n1:W0.heap.size≤Bs
 n2:W0.heap.size≤l
 n3:W0.heap.size≤D
 n4:W0.heap.size≤base
 n5:base≤l
section
variable {W0:World} {I0:Nat→Nat→Option Value} {X:Nat→Prop} {rec:Loop} {Bs l D base:Nat} {f:List (List Val)→List (List Val)} {I:Nat→Nat→Option Value} {ss:List (List Val)} {A B:World}
theorem ColAt.keep {I':Nat→Nat→Option Value} (hx:ColIx W0 X Bs l D base) (h:ColAt W0 I0 X rec Bs l D base f I ss A) (k:Kp X I A I' B) (hw:WI (Gn I') B):ColAt W0 I0 X rec Bs l D base f I' ss B:=by
 obtain⟨v,vs,hb,hr,hv,hg⟩:=h.box;have ltB:=hb.lt
 have ltL:=(Array.getElem?_eq_some_iff.1 h.L).1
 have ltD:=(Array.getElem?_eq_some_iff.1 h.K).1
 refine⟨hw,fun b hb'=>⟨Nat.lt_of_lt_of_le (h.hX b hb').1 k.size,k.none b hb' (h.hX b hb').1 (h.hX b hb').2⟩,
  ⟨fun o=>((k.old Bs ltB hx.x1).2 o).trans (h.raw.1 o),fun o=>((k.old l ltL hx.x2).2 o).trans (h.raw.2.1 o),fun o=>((k.old D ltD hx.x3).2 o).trans (h.raw.2.2 o)⟩,
  ⟨v,vs,(k.old Bs ltB hx.x1).1.trans hb,?_,hv.imp fun p y _ e=>e.mono k.mono,fun g hgo o => ?_⟩,(k.old l ltL hx.x2).1.trans h.L,(k.old D ltD hx.x3).1.trans h.K,
  ⟨k.os.trans h.below.os,k.tape.trans h.below.tape,k.output.trans h.below.output,Nat.le_trans h.below.size k.size,fun b hb' => ?_⟩,fun b hb' o => ?_⟩
 ·refine⟨hr.1,?_⟩
  rcases hr.2 with h0|⟨g,cap,cur,e1,e2,e3,e4⟩
  ·exact .inl h0
  ·refine .inr ⟨g,cap,cur,e1,e2,(k.old g (Array.getElem?_eq_some_iff.1 e3).1 fun hXg => ?_).1.trans e3,e4⟩
   have:=(hx.x4 g hXg).2
   omega
 ·rcases hr.2 with⟨e,_⟩|⟨g',cap,cur,e1,e2,e3,e4⟩
  ·rw[e] at hgo;cases hgo
  ·rw[e1] at hgo;cases hgo;refine((k.old g' (Array.getElem?_eq_some_iff.1 e3).1 fun hXg => ?_).2 o).trans (hg g' (by rw[e1];rfl) o)
   have:=(hx.x4 g' hXg).2
   omega
 ·have hlt:b<A.heap.size:=Nat.lt_of_lt_of_le hb' h.below.size
  exact(k.old b hlt fun hXb=>by have:=(hx.x4 b hXb).1;omega).1.trans (h.below.block b hb')
 ·have hlt:b<A.heap.size:=Nat.lt_of_lt_of_le hb' h.below.size
  exact((k.old b hlt fun hXb=>by have:=(hx.x4 b hXb).1;omega).2 o).trans (h.old b hb' o)
theorem iM (h:WI (Gn I) A) (hb0:Below W0.heap.size W0 A) (hb:Below W0.heap.size W0 B) (ht:TabOK (Gn I) W0) (hs:A.heap.size≤B.heap.size) (hk:∀ b,b<A.heap.size→(∃ o y,I b o=some y)→B.heap[b]? = A.heap[b]?):WI (Gn I) B:=by
 refine⟨fun b o y e => ?_,fun b e=>h.fresh b (by omega),(fun b s e=>by cases e),(fun s b e=>by cases e),ht.map fun b hlt _=>⟨rfl,hb.block b hlt⟩⟩
 have hlt:=I_lt h e
 have:=h.cell b o y e
 unfold World.cell? at this ⊢
 rw[hk b hlt ⟨o,y,e⟩];exact this
theorem sU (hx:ColIx W0 X Bs l D base) (ht:TabOK (Gn I) W0) (h:ColAt W0 I0 X rec Bs l D base f I ss A) {x:List Val} {xv v v':Value} {vs:List Value} {rb:Loop} {w3:World}
  (hb:Boxed A Bs 162 v) (hrow:A.ownsRow base 22 1 v vs.length vs) (hvs:All2 (RP I) ((f ss).map fun x=>PV.sl (encL x)) vs) (hg:∀ g,v.ownBlock=some g→∀ o,I g o=none)
  (hxv:RP I (.sl (encL x)) xv) (hf:f (ss++[x])=f ss++[x])
  (hown':w3.ownsRow base 22 1 v' (vs.length+1) (vs++[xv])) (hg3:((A.putObj l (.loop rb)).alloc (.cells #[xv] 22)).grownBy w3 v.ownBlock)
  (hat:v'.ownBlock=v.ownBlock∨v'.ownBlock=some ((A.putObj l (.loop rb)).alloc (.cells #[xv] 22)).heap.size) :
  Boxed w3 Bs 162 v∧(w3.setCell ⟨Bs,0,none⟩ v').heap[l]? = some (.loop rb)∧(∀ b,X b→((w3.setCell ⟨Bs,0,none⟩ v').putObj l (.loop rec)).heap[b]? = A.heap[b]?) ∧
   ColAt W0 I0 X rec Bs l D base f I (ss++[x]) ((w3.setCell ⟨Bs,0,none⟩ v').putObj l (.loop rec)):=by
 have ltB:=hb.lt
 have ltL:=(Array.getElem?_eq_some_iff.1 h.L).1
 have ltD:=(Array.getElem?_eq_some_iff.1 h.K).1
 obtain⟨M,hM⟩:∃ M,(A.putObj l (.loop rb)).alloc (.cells #[xv] 22)=M:=⟨_,rfl⟩
 rw[hM] at hg3 hat;have hMs:M.heap.size=A.heap.size+1:=by rw[←hM];simp
 have hMb:∀ b,b<A.heap.size→b≠l→M.heap[b]? = A.heap[b]? := fun b hb' hne=>by
  rw[←hM];exact(Below.heap_alloc _ _ b (by simp;exact hb')).trans (World.putObj_heap_other hne)
 have hMl:M.heap[l]? = some (.loop rb):=by
  rw[←hM];exact(Below.heap_alloc _ _ l (by simp;exact ltL)).trans (World.putObj_heap_same ltL)
 have hbd:Below W0.heap.size W0 M:=by
  rw[←hM];exact(Below.of_grown h.below (grownBy_putObj' A l _) h.below.size fun k e=>by cases e;exact hx.n2).alloc (by simp;exact h.below.size) _
 have hrowM:M.ownsRow base 22 1 v vs.length vs:=by
  rw[←hM];exact(ownsRow_putObj hrow _ h.L rfl).alloc _
 have ne_v:∀ {j:Nat} {o:Obj},M.heap[j]? = some o→(∀ cur,o≠.cells cur 22 (0,0))→some j≠v.ownBlock:=fun {j o} hj hno e=>by
  rcases hrowM.2 with⟨e1,_⟩|⟨g,cap,cur,e1,_,e3,_⟩
  ·rw[e1] at e;cases e
  ·rw[e1] at e
   have:j=g:=by simpa[Value.ownBlock] using e
   subst this;rw[hj] at e3
   cases e3
   exact hno _ rfl
 have tne:162≠22:=by decide
 have hbM:Boxed M Bs 162 v:=(hMb Bs ltB hx.h1).trans hb
 have hKM:M.heap[D]? = some (.deferred (some [])):=(hMb D ltD hx.h2).trans h.K
 have nB:some Bs≠v.ownBlock:=ne_v hbM (fun cur e=>by cases e)
 have nL:some l≠v.ownBlock:=ne_v hMl (fun cur e=>by cases e)
 have nD:some D≠v.ownBlock:=ne_v hKM (fun cur e=>by cases e)
 have hb3:Boxed w3 Bs 162 v:=(hg3.block Bs (by omega) nB).trans hbM
 have hl3:w3.heap[l]? = some (.loop rb):=(hg3.block l (by omega) nL).trans hMl
 have hK3:w3.heap[D]? = some (.deferred (some [])):=(hg3.block D (by omega) nD).trans hKM
 have hbd3:Below W0.heap.size W0 w3:=Below.of_grown hbd hg3 hbd.size fun k e=>by
  have:=(hrowM.lt k e).1
  have:=hx.n4
  omega
 obtain⟨w4,hw4⟩:∃ w4,w3.setCell ⟨Bs,0,none⟩ v'=w4:=⟨_,rfl⟩
 have hg4:w3.grownBy w4 (some Bs):=by rw[←hw4];exact grownBy_setCell' _ _ _
 have hs4:w4.heap.size=w3.heap.size:=by rw[←hw4];simp[World.setCell]
 have hb4:Boxed w4 Bs 162 v':=by rw[←hw4];exact hb3.set v'
 have hl4:w4.heap[l]? = some (.loop rb):=(hg4.block l (by have:=hg3.size;omega) (fun e=>hx.h1 (by cases e;rfl))).trans hl3
 have hK4:w4.heap[D]? = some (.deferred (some [])):=(hg4.block D (by have:=hg3.size;omega) (fun e=>hx.h3 (by cases e;rfl))).trans hK3
 have hbd4:Below W0.heap.size W0 w4:=Below.of_grown hbd3 hg4 hbd3.size fun k e=>by cases e;exact hx.n1
 have hbd5:Below W0.heap.size W0 (w4.putObj l (.loop rec)):=Below.of_grown hbd4 (grownBy_putObj' w4 l _) hbd4.size fun k e=>by cases e;exact hx.n2
 have ltl4:l<w4.heap.size:=(Array.getElem?_eq_some_iff.1 hl4).1
 have hrow4:w4.ownsRow base 22 1 v' (vs.length+1) (vs++[xv]):=hown'.kept hg4 (.inr fun e=>by
  rcases hown'.2 with⟨e1,_⟩|⟨g,cap,cur,e1,_,e3,_⟩
  ·rw[e1] at e;cases e
  ·rw[e1] at e
   have:g=Bs:=by simpa[Value.ownBlock] using e
   subst this;rw[show w3.heap[g]? = _ from hb3] at e3
   simp only[Option.some.injEq,Obj.cells.injEq] at e3
   exact tne e3.2.1)
 have hsame:∀ b,b<A.heap.size→b≠l→b≠Bs→some b≠v.ownBlock→(w4.putObj l (.loop rec)).heap[b]? = A.heap[b]? := fun b hlt n1 n2 n3 =>
  (World.putObj_heap_other n1).trans ((hg4.block b (by have:=hg3.size;omega) (fun e=>n2 (by cases e;rfl))).trans ((hg3.block b (by omega) n3).trans (hMb b hlt n1)))
 rw[hw4];refine⟨hb3,hl4,fun b hb' => ?_,?_⟩
 ·refine hsame b (h.hX b hb').1 (fun e=>hx.x2 (e▸hb')) (fun e=>hx.x1 (e▸hb')) fun e => ?_
  have:=(hrow.lt b e.symm).1
  have:=(hx.x4 b hb').2
  omega
 ·refine⟨iM h.wi h.below hbd5 ht (by simp;have:=hg3.size;omega) fun b hlt ⟨o,y,e⟩=>hsame b hlt (fun e' => ?_) (fun e' => ?_) (fun e' => ?_),
   fun b hb'=>⟨by simp;have:=(h.hX b hb').1;have:=hg3.size;omega,(h.hX b hb').2⟩,h.raw,⟨v',vs++[xv],(World.putObj_heap_other hx.h1).trans hb4,?_,?_,fun g e o => ?_⟩,World.putObj_heap_same ltl4,(World.putObj_heap_other hx.h2).trans hK4,hbd5,h.old⟩
  ·rw[e',h.raw.2.1] at e;cases e
  ·rw[e',h.raw.1] at e;cases e
  ·rw[hg b e'.symm] at e;cases e
  ·rw[List.length_append,List.length_singleton];exact ownsRow_putObj hrow4 _ hl4 rfl
  ·rw[hf,List.map_append];exact hvs.append (.cons hxv .nil)
  ·rcases hat with e1|e1
   ·exact hg g (e1.symm.trans e) o
   ·rw[e1] at e
    cases e
    exact(h.wi.fresh _ (by omega)).1 o
end
end Go.Abs
namespace Go.Abs
open Go Go.Proofs Go.RowKit Go.Shelf
set_option maxRecDepth 10000
attribute [local go_sem] Oper.semAt_some
theorem oC:(Tryz.prog.info? 22).map (fun i=>(i.zero,i.size,i.bytes))=some (some (.slice none 0 0),1,24):=by kernel_rfl
def oH : Code := (Code.region 2 #[{ dst := some 5, op := Op.assign (Operand.tmp 7), type := 22, pos := "iter.go:51", after := #[], guard := none }] false)
def uS : Code := (Code.block 1 (Code.region 3 #[{ dst := some 8, op := Op.load 162 (Operand.tmp 2), type := 162, pos := "iter.go:52", after := #[], guard := none }, { dst := some 9, op := Op.move (Operand.tmp 5), type := 22, pos := "iter.go:52", after := #[], guard := none }, { dst := some 10, op := Op.buildSlice 162 1 #[(0, Operand.tmp 9)], type := 162, pos := "iter.go:52", after := #[{ on := 1, ground := Ground.data }], guard := none }, { dst := some 11, op := Op.call { callee := Callee.builtin Builtin.append, args := #[Operand.tmp 8, Operand.tmp 10], argTypes := #[162, 162] }, type := 162, pos := "iter.go:52", after := #[{ on := 0, ground := Ground.data }, { on := 2, ground := Ground.data }], guard := none }, { dst := none, op := Op.store 162 (Operand.tmp 2) (Operand.tmp 11), type := 0, pos := "iter.go:52", after := #[{ on := 3, ground := Ground.data }, { on := 3, ground := Ground.chain }, { on := 0, ground := Ground.phase }, { on := 1, ground := Ground.phase }, { on := 2, ground := Ground.phase }, { on := 3, ground := Ground.phase }], guard := none }] false))
def je (fn:FuncId) (sv:Value) (Bs D:Nat) (st:LoopState) (pend:Option Code):Loop :=
  { state:=st,pending:=pend,fn,tmps:=#[.slice none 0 0,sv,.pointer (some ⟨Bs,0,none⟩),undef,.slice none 0 0,undef,sv,undef,undef,undef,undef,undef,undef],params:=#[7],assign:=oH,body:=uS,defers:=D }
set_option maxRecDepth 100000 in
theorem yo {W0:World} {I0:Nat→Nat→Option Value} {X:Nat→Prop} {fn:FuncId} {sv:Value} {Bs l D base:Nat} (hx:ColIx W0 X Bs l D base) (ht:∀ I,TabOK (Gn I) W0)
  {I:Nat→Nat→Option Value} {ss:List (List Val)} {A:World} {v:Value} {x:List Val} (h:ColAt W0 I0 X (je fn sv Bs D .ready none) Bs l D base id I ss A) (hxv:RP I (.sl (encL x)) v) (hlen:ss.length≤1000000000) :
  YieldAt Fence.wide 0 Tryz.prog l #[v] A fun e B=>e=.returned (.bool true)∧(∀ b,X b→B.heap[b]? = A.heap[b]?)∧∃ I',(∀ b o y,I b o=some y→I' b o=some y)∧ColAt W0 I0 X (je fn sv Bs D .ready none) Bs l D base id I' (ss++[x]) B:=by
 obtain⟨i0,hi,hz0,hz1,hz2⟩:=info_parts oC;obtain⟨u,us,hb,hrow,hvs,hg⟩:=h.box;have hub:us.length≤1000000000:=by rw[←hvs.length];simpa using hlen
 obtain⟨xa,xc,rfl,_,_⟩:=hxv.slice_inv;refine⟨fn, #[.slice none 0 0,sv,.pointer (some ⟨Bs,0,none⟩),undef,.slice none 0 0,undef,sv,.slice xa (encL x).length xc,undef,undef,undef,undef,undef],oH,uS,by simpa[je] using run_yield (P:=Tryz.prog) (args:=#[.slice xa (encL x).length xc]) h.L rfl,roundIn_of_wpIn trivial ?_⟩
 have hl:=(Array.getElem?_eq_some_iff.1 h.L).1
 have hbr:=run_beginRound (P:=Tryz.prog) h.L rfl
 obtain⟨W2,hW2⟩:∃ W2,A.putObj l (.loop { je fn sv Bs D .ready none with state:=.busy })=W2:=⟨_,rfl⟩
 have hb2:Boxed W2 Bs 162 u:=by rw[←hW2];exact(World.putObj_heap_other hx.h1).trans hb
 have hrow2:W2.ownsRow base 22 1 u us.length us:=by rw[←hW2];exact ownsRow_putObj hrow _ h.L rfl
 have hs2:base≤W2.heap.size:=by rw[←hW2];simp;have:=hx.n5;omega
 rw[hW2] at hbr;have hc2:=hb2.cell
 have hf2:=hb2.frozen
 unfold oH
 gi_wp2_with (rw[Oper.semAt_eq _ _ _ (fun c h=>by cases h)];go_simp;try go_bits)
 unfold uS
 gi_wp2_with (first
  | (gi_at_builtin;refine wpListIn_append_own_at _ rfl _ _ 162 rfl base 22 i0 (.slice none 0 0) 1 24 Tryz.underlying162 hi hz0 hz1 hz2 rfl (by decide) _ _ _ rfl (hrow2.alloc _) ⟨W2.heap.size,0,none⟩ 1 1 [.slice xa (encL x).length xc] rfl rfl (cell_one_new _ _ _) (by simp[Value.oneCell']) (by simp only[maxLen];omega) (by omega) (by simp;omega) ?_;intro v' w3 hown' hg3 hnil hat;obtain⟨g',cap',rfl⟩:=ownsRow_succ hown';obtain⟨m1,m2,m3,m4⟩:=sU hx (ht I) h (rb := { je fn sv Bs D .ready none with state:=.busy }) hb hrow hvs hg hxv rfl hown' (by rw[hW2];exact hg3) (by rw[hW2];exact hat);have hc3:=m1.cell;have hf3:=m1.frozen)
  | (rw[Oper.semAt_eq _ _ _ (fun c h=>by cases h)];go_simp;try go_bits))
 exact⟨_,_,run_endRound none m2,rfl,m3,I,fun _ _ _ h=>h,m4⟩
theorem tr {I:Nat→Nat→Option Value} {W:World} {base:Nat} {e:TypeId} {v:Value} {us:List Value} (hw:WI (Gn I) W) (hrow:W.ownsRow base e 1 v us.length us) (hg:∀ g,v.ownBlock=some g→∀ o,I g o=none) {ss:List (List Val)} (hvs:All2 (RP I) (ss.map fun x=>PV.sl (encL x)) us) :
  ∃ I',(∀ b o y,I b o=some y→I' b o=some y)∧WI (Gn I') W∧RP I' (.sl (ss.map fun x=>[PV.sl (encL x)])) v∧∀ b,b<base→∀ o,I' b o=I b o:=by
 have hl:us.length=ss.length:=by rw[←hvs.length];simp
 rcases hrow.2 with⟨rfl,h0⟩|⟨g,cap,cur,rfl,h1,h2,h3,_,_,h4⟩
 ·have:ss=[]:=List.eq_nil_of_length_eq_zero (by omega)
  subst this;exact⟨I,fun _ _ _ h=>h,hw,.sl0 _ _,fun _ _ _=>rfl⟩
 ·have hgn:=hg g rfl
  have hmono:∀ b o y,I b o=some y→(if b=g then us[o]? else I b o)=some y:=fun b o y h=>by
   by_cases e':b=g
   ·rw[e',hgn o] at h;cases h
   ·rw[if_neg e'];exact h
  have hgl:=(Array.getElem?_eq_some_iff.1 h2).1
  refine⟨fun b o=>if b=g then us[o]? else I b o,hmono,⟨fun b o y h => ?_,fun b h=>⟨fun o => ?_,rfl⟩,(fun b s h=>by cases h),(fun s b h=>by cases h),hw.tab⟩,?_,fun b h o=>if_neg (by omega)⟩
  ·have h':(if b=g then us[o]? else I b o)=some y:=h
   by_cases e':b=g
   ·subst e';rw[if_pos rfl] at h';have h5:cur[o]? = some y:=by
     rw[←h4,List.getElem?_take] at h'
     split at h'
     ·rw[Array.getElem?_toList] at h';exact h'
     ·cases h'
    unfold World.cell?
    rw[h2]
    simpa using h5
   ·rw[if_neg e'] at h';exact hw.cell b o y h'
  ·show (if b=g then us[o]? else I b o)=none
   rw[if_neg (by omega)]
   exact(hw.fresh b h).1 o
  ·have hc:(ss.map fun x=>[PV.sl (encL x)]).length=us.length:=by rw[hl];simp
   rw[←hc];have hflat:(ss.map fun x=>[PV.sl (encL x)]).flatten=ss.map fun x=>PV.sl (encL x):=by
    clear hvs hl hc hrow h3 h4
    induction ss with
    | nil=>rfl
    | cons x ss ih=>simp only[List.map_cons,List.flatten_cons,ih,List.singleton_append]
   have hsz:∀ el∈(ss.map fun x=>[PV.sl (encL x)]),el.length=1:=fun el h=>by
    obtain⟨x,_,rfl⟩:=List.mem_map.1 h;rfl
   refine RP.of_seg (by rw[hc];exact h3) hsz (eV hsz (ys:=us) (fun k y h => ?_) (by rw[hflat];exact hvs.imp fun p y _ e'=>e'.mono hmono))
   show (if g=g then us[0+k]? else _)=_
   rw[if_pos rfl,Nat.zero_add];exact h
theorem nP (p:Val→Bool):∀ l:List Val,(cutL p l).length≤l.length+1
 | []=>Nat.le_refl _
 | v::l=>by
  have h:=nP p l
  rw[cutL];split
  ·rw[List.length_cons,List.length_cons];omega
  ·split
   ·simp
   ·rename_i q qs e;rw[e] at h;rw[List.length_cons] at h ⊢;rw[List.length_cons];omega
set_option maxRecDepth 100000 in
theorem ri {W0 w:World} {I0:Nat→Nat→Option Value} {X:Nat→Prop} {Bl Bc:Nat} {fv xl:Value} {p:Val→Bool} {tc ty:TypeId} {vs:List Val} (ht:∀ I,TabOK (Gn I) W0) (hw:WI (Gn I0) w) (hb:Below W0.heap.size W0 w)
  (hX:∀ b,X b→W0.heap.size≤b∧b<w.heap.size∧∀ o,I0 b o=none) (hXl:X Bl) (hXc:X Bc) (hfl:fv≠.func (.func 223) #[] #[.pointer (some ⟨Bl,0,none⟩)]) (hfc:fv≠.func (.func 223) #[] #[.pointer (some ⟨Bc,0,none⟩)]) (hlc:Bl≠Bc)
  (hc:CutV X I0 w p fv) (hvs:vs.length≤100000000) (hBl:w.heap[Bl]? = some (.cells #[xl] ty (0,0))) (hxl:RP I0 (.sl (encL vs)) xl) (hBc:w.heap[Bc]? = some (.cells #[fv] tc (0,0))) :
  Calls Tryz.prog 263 #[.slice none 0 0,.func (.func 262) #[] #[.pointer (some ⟨Bl,0,none⟩),.pointer (some ⟨Bc,0,none⟩)]] w fun e w' =>
   ∃ v us I,e=.returned v∧w'.ownsRow w.heap.size 22 1 v us.length us∧All2 (RP I) ((cutL p vs).map fun x=>PV.sl (encL x)) us∧(∀ g,v.ownBlock=some g→∀ o,I g o=none)∧WI (Gn I) w'∧Below W0.heap.size W0 w'∧∀ b,b<W0.heap.size→∀ o,I b o=I0 b o:=by
 have eg:∀ args w,(callFunc 262 args).run Tryz.prog w=.ok (.enter 262 args) w:=enters_of Tryz.func262 (by kernel_rfl) rfl
 refine(callsIn_wide (n:=2)).1 ?_
 refine callsIn_of_wp_marks Tryz.func263 rfl trivial ?_ rfl
 simp only[Tryz.ntmps263,List.size_toArray,List.length_cons,List.length_nil,reduceAdd,reduceSub,Array.replicate_succ,Array.replicate_zero,List.push_toArray,List.append_toArray,List.nil_append,List.cons_append]
 gi_wp2
 refine wpIn_rangeFunc ?_
 intro fn hfn;have hro:Fence.wide.round=none:=rfl
 rw[hro];obtain⟨W1,hW1⟩:∃ W1,w.alloc (.cells #[.slice none 0 0] 162)=W1:=⟨_,rfl⟩
 rw[hW1];obtain⟨sv,hsv⟩:∃ sv:Value,.func (.func 262) #[] #[.pointer (some ⟨Bl,0,none⟩),.pointer (some ⟨Bc,0,none⟩)]=sv:=⟨_,rfl⟩
 have hs1:W1.heap.size=w.heap.size+1:=by rw[←hW1];simp
 have hv1:Boxed W1 w.heap.size 162 (.slice none 0 0):=by rw[←hW1];exact Boxed.new w _ _
 have hold1:∀ b,b<w.heap.size→W1.heap[b]? = w.heap[b]? := fun b hb'=>by rw[←hW1];exact Below.heap_alloc _ _ b hb'
 obtain⟨W2,hW2⟩:∃ W2,(W1.alloc (.deferred (some []))).alloc (.loop (je fn sv w.heap.size W1.heap.size .ready none))=W2:=⟨_,rfl⟩
 have hold:∀ b,b<W1.heap.size→W2.heap[b]? = W1.heap[b]? := fun b hb'=>by
  rw[←hW2];exact(Below.heap_alloc _ _ b (by simp;omega)).trans (Below.heap_alloc _ _ b hb')
 have hs2:W2.heap.size=w.heap.size+3:=by rw[←hW2];simp;omega
 have hb2:Below W0.heap.size W0 W2:=by
  rw[←hW2,←hW1];exact((hb.alloc hb.size _).alloc (by have:=hb.size;simp;omega) _).alloc (by have:=hb.size;simp;omega) _
 have hold2:∀ b,b<w.heap.size→W2.heap[b]? = w.heap[b]? := fun b hb'=>(hold b (by omega)).trans (hold1 b hb')
 have hlw:W0.heap.size≤w.heap.size:=hb.size
 have hL2:W2.heap[W1.heap.size+1]? = some (.loop (je fn sv w.heap.size W1.heap.size .ready none)):=by
  rw[←hW2];have:=World.alloc_heap_new (W1.alloc (.deferred (some []))) (.loop (je fn sv w.heap.size W1.heap.size .ready none))
  rwa [World.size_alloc] at this
 have hK2:W2.heap[W1.heap.size]? = some (.deferred (some [])):=by
  rw[←hW2];exact(Below.heap_alloc _ _ _ (by simp)).trans (World.alloc_heap_new W1 _)
 have hwi2:WI (Gn I0) W2:=iM hw hb hb2 (ht I0) (by omega) fun b hb' _=>hold2 b hb'
 have hnew:∀ b,w.heap.size≤b→∀ o,I0 b o=none:=fun b hb'=>(hw.fresh b hb').1
 have hix:ColIx W0 X w.heap.size (W1.heap.size+1) W1.heap.size w.heap.size :=
  ⟨by omega,by omega,by omega,(fun h=>by have:=(hX _ h).2.1;omega),(fun h=>by have:=(hX _ h).2.1;omega),(fun h=>by have:=(hX _ h).2.1;omega),(fun b h=>⟨(hX b h).1,(hX b h).2.1⟩),hlw,by omega,by omega,hlw,by omega⟩
 have hcol:ColAt W0 I0 X (je fn sv w.heap.size W1.heap.size .ready none) w.heap.size (W1.heap.size+1) W1.heap.size w.heap.size id I0 [] W2 :=
  ⟨hwi2,(fun b h=>⟨by have:=(hX b h).2.1;omega,(hX b h).2.2⟩),⟨hnew _ (Nat.le_refl _),hnew _ (by omega),hnew _ (by omega)⟩,⟨_,[],(hold _ (by omega)).trans hv1,⟨rfl,.inl ⟨rfl,rfl⟩⟩,.nil,(fun g e=>by cases e)⟩,hL2,hK2,hb2,fun _ _ _=>rfl⟩
 refine⟨W1.heap.size+1,[{ target:=.collected W1.heap.size,args:=#[] }],W2, { target:=.fn (.func 262) #[.pointer (some ⟨Bl,0,none⟩),.pointer (some ⟨Bc,0,none⟩)],args:=#[.func (.yield (W1.heap.size+1)) #[] #[]] },W2,262,
  #[.func (.yield (W1.heap.size+1)) #[] #[]]++#[.pointer (some ⟨Bl,0,none⟩),.pointer (some ⟨Bc,0,none⟩)],W2,?_,?_,?_,?_,(fun h=>by cases h),?_⟩
 ·rw[←hW2,←hsv];exact run_enterLoop_outer _ _ _ _ _
 ·simp[resolve,go_sem]
 ·intro f' hf';trivial
 ·simp[invoke,go_sem,eg]
 ·have hlen:=nP p vs
  refine(pQ (W1.heap.size+1) Bl Bc X fv p tc hXl hXc hfl hfc hlc
   (fun I ss A=>ColAt W0 I0 X (je fn sv w.heap.size W1.heap.size .ready none) w.heap.size (W1.heap.size+1) W1.heap.size w.heap.size id I ss A)
   (fun h=>⟨h.wi,fun b hb'=>(h.hX b hb').2⟩) (fun h k hw'=>h.keep hix k hw') I0 [] W2 hcol (hc.kept (fun b h _ hn=>hn) (fun b h _=>hold2 b (hX b h).2.1)) xl ty vs (by omega) (fun h hv hlt=>yo hix ht h hv (by rw[List.nil_append] at hlt;omega)) ((hold2 Bl (hX Bl hXl).2.1).trans hBl) hxl ((hold2 Bc (hX Bc hXc).2.1).trans hBc)).mono ?_
  rintro e W3 ⟨⟨v0,rfl⟩,I,h3⟩
  obtain⟨v,us,hbx,hrow,hus,hg⟩:=h3.box;have hend:=run_endLoop (P:=Tryz.prog) h3.L (by simp[je])
  obtain⟨W4,hW4⟩:∃ W4,W3.putObj (W1.heap.size+1) (.loop { je fn sv w.heap.size W1.heap.size .ready none with state:=.exhausted })=W4:=⟨_,rfl⟩
  rw[hW4] at hend;have hbx4:Boxed W4 w.heap.size 162 v:=by rw[←hW4];exact(World.putObj_heap_other (by omega)).trans hbx
  have hK4:W4.heap[W1.heap.size]? = some (.deferred (some [])):=by rw[←hW4];exact(World.putObj_heap_other (by omega)).trans h3.K
  have hrow4:W4.ownsRow w.heap.size 22 1 v us.length us:=by rw[←hW4];exact ownsRow_putObj hrow _ h3.L rfl
  have hb4:Below W0.heap.size W0 W4:=by rw[←hW4];exact Below.of_grown h3.below (grownBy_putObj' _ _ _) h3.below.size (fun k e=>by cases e;omega)
  have hwi4:WI (Gn I) W4:=iM h3.wi h3.below hb4 (ht I) (by rw[←hW4];simp) fun b hb' ⟨o,y,e⟩=>by
   rw[←hW4];exact World.putObj_heap_other fun e'=>by rw[e',h3.raw.2.1] at e;cases e
  have hc4:=hbx4.cell
  clear hW4;refine⟨none,W4,hend,?_⟩
  rw[hs1] at hK4
  gi_wp2
  refine⟨by simp,.inl ⟨_,_,rfl,run_takeDeferred hK4,?_⟩⟩
  have hb5:Below W0.heap.size W0 (W4.putObj (w.heap.size+1) (.deferred none)):=Below.of_grown hb4 (grownBy_putObj' _ _ _) hb4.size (fun k e=>by cases e;omega)
  refine⟨_,results_tmp rfl _ _ _,v,us,I,rfl,ownsRow_putObj hrow4 _ hK4 rfl,?_,hg,iM hwi4 hb4 hb5 (ht I) (by simp) fun b hb' ⟨o,y,e⟩ => ?_,hb5,h3.old⟩
  ·rw[List.nil_append] at hus;exact hus
  ·refine World.putObj_heap_other fun e' => ?_
   have:=h3.raw.2.2 o
   rw[hs1,←e',e] at this
   cases this
end Go.Abs
namespace Go.Abs
open Go Go.Proofs Go.RowKit Go.Shelf
set_option maxRecDepth 100000 in
theorem oO (x fv:Value) (w:World) (hx:x.oneCell'=true) (hf:fv.oneCell'=true):Calls Tryz.prog 220 #[x,fv] w fun e w' =>
  e=.returned (.func (.func 262) #[] #[.pointer (some ⟨w.heap.size,0,none⟩),.pointer (some ⟨w.heap.size+1,0,none⟩)])∧∃ tc,w'=(w.alloc (.cells #[x] 22)).alloc (.cells #[fv] tc):=by
 have hmf:∀ (fn:Fn) (first cap:Array Value) (w:World),(Instr.makeFunc fn first cap).run Tryz.prog w=.ok (.func fn first cap) w:=fun _ _ _ _=>rfl
 have hcx:x.cells=#[x]:=ic hx
 have hcf:fv.cells=#[fv]:=ic hf
 go_enter Tryz.func220,Tryz.ntmps220
 go_wp2
 go_ret
 exact⟨rfl,_,rfl⟩
theorem ph {I:Nat→Nat→Option Value} {w w':World} (hw:WI (Gn I) w) (hb:Below w.heap.size w w'):WI (Gn I) w':=(fl hw hb).2
abbrev qq (l:List (List Val)):List (List PV):=l.map fun p=>[PV.sl (encL p)]
def rk (G:Gh) (w:World) (l:List (List Val)) (e:Ending) (w':World):Prop :=
 ∃ v I,e=.returned v∧RP I (.sl (qq l)) v∧WI (Gn I) w'∧Below w.heap.size w w'∧(∀ b o y,G.I b o=some y→I b o=some y)∧∀ b,b<w.heap.size→∀ o,I b o=G.I b o
set_option maxRecDepth 100000 in
theorem uj {W0 w:World} {sv:Value} {Q:Ending→World→Prop} (h:Calls Tryz.prog 263 #[.slice none 0 0,sv] w fun e w'=>(∃ v,e=.returned v)∧Q e w') (hs:sv.oneCell'=true) :
  Calls Tryz.prog 222 #[sv] w fun e w'=>Q e w':=by
 go_enter Tryz.func222,Tryz.ntmps222
 go_wp2_with (go_at_call 263;refine h.mono ?_)
 rintro e w' ⟨⟨v,rfl⟩,hq⟩
 go_wp2
 exact hq
set_option maxRecDepth 100000 in
theorem Cp {G:Gh} {w:World} {x:Value} {vs:List Val} {d:List UInt8} (hw:WI G w) (hx:RP G.I (.sl (encL vs)) x) (hlen:vs.length≤100000000) :
  Calls Tryz.prog 177 #[x,.string ⟨d.toArray⟩] w (rk G w (cutL (SR.cD d) vs)):=by
 have hmf:∀ (fn:Fn) (first cap:Array Value) (w:World),(Instr.makeFunc fn first cap).run Tryz.prog w=.ok (.func fn first cap) w:=fun _ _ _ _=>rfl
 have hwn:=sP hw
 have hx1:=hx.one
 obtain⟨w1,hw1⟩:∃ w1,w.alloc (.cells #[.string ⟨d.toArray⟩] 9)=w1:=⟨_,rfl⟩
 have hpc:=oO x (.func (.func 223) #[] #[.pointer (some ⟨w.heap.size,0,none⟩)]) w1 hx1 rfl
 go_enter Tryz.func177,Tryz.ntmps177
 go_wp2_with (go_at_call 220;refine hpc.mono ?_)
 rintro e w3 ⟨rfl,tc,hw3⟩
 have hs1:w1.heap.size=w.heap.size+1:=by rw[←hw1];simp
 have hs3:w3.heap.size=w.heap.size+3:=by rw[hw3];simp;omega
 have hb1:Below w.heap.size w w1:=by rw[←hw1];exact(Below.refl _ w).alloc (Nat.le_refl _) _
 have hb3:Below w.heap.size w w3:=by rw[hw3];exact(hb1.alloc (by omega) _).alloc (by simp;omega) _
 have h1:w3.heap[w.heap.size]? = some (.cells #[.string ⟨d.toArray⟩] 9 (0,0)):=by
  rw[hw3];refine(Below.heap_alloc _ _ _ (by simp;omega)).trans ((Below.heap_alloc _ _ _ (by omega)).trans ?_)
  rw[←hw1];exact World.alloc_heap_new w _
 have h2:w3.heap[w1.heap.size]? = some (.cells #[x] 22 (0,0)):=by
  rw[hw3];exact(Below.heap_alloc _ _ _ (by simp)).trans (World.alloc_heap_new w1 _)
 have h3:w3.heap[w1.heap.size+1]? = some (.cells #[.func (.func 223) #[] #[.pointer (some ⟨w.heap.size,0,none⟩)]] tc (0,0)):=by
  rw[hw3];have:=World.alloc_heap_new (w1.alloc (.cells #[x] 22)) (.cells #[.func (.func 223) #[] #[.pointer (some ⟨w.heap.size,0,none⟩)]] tc)
  rwa [World.size_alloc] at this
 have hw3n:WI (Gn G.I) w3:=ph hwn hb3
 have hfr:∀ b,w.heap.size≤b→∀ o,G.I b o=none:=fun b hb=>(hwn.fresh b hb).1
 have has:=ri (W0:=w) (w:=w3) (I0:=G.I) (X:=fun b=>w.heap.size≤b∧b<w.heap.size+3) (Bl:=w1.heap.size) (Bc:=w1.heap.size+1) (fun I=>hwn.tab) hw3n hb3 (fun b hb=>⟨hb.1,by omega,hfr b hb.1⟩) ⟨by omega,by omega⟩ ⟨by omega,by omega⟩
  (fun e=>by simp at e) (fun e=>by simp at e) (by omega) (.sign d w.heap.size 9 ⟨Nat.le_refl _,by omega⟩ (hfr _ (Nat.le_refl _)) h1) hlen h2 hx h3
 have hco:=uj (W0:=w) (w:=w3) (Q:=rk G w (cutL (SR.cD d) vs)) (has.mono fun e w' hq=>by
  obtain⟨v,us,I,rfl,q1,q2,q3,q4,q5,q6⟩:=hq;obtain⟨I',r1,r2,r3,r4⟩:=tr q4 q1 q3 q2;have hold:∀ b,b<w.heap.size→∀ o,I' b o=G.I b o:=fun b hb o=>(r4 b (by omega) o).trans (q6 b hb o)
  exact⟨⟨v,rfl⟩,v,I',rfl,r3,r2,q5,fun b o y h=>by rw[hold b (I_lt hwn h)];exact h,hold⟩) rfl
 clear hs1 hs3 hb3 h1 h2 h3 hw3n has hw3
 go_wp2_with (go_at_call 222;refine hco.mono ?_)
 rintro e w' hq
 obtain⟨v,I,rfl,q⟩:=hq
 go_wp2
 go_ret
 exact⟨v,I,rfl,q⟩
theorem fY {f:FuncId} {args:List AV} {l:List (List Val)} (h:∀ {G:Gh} {w:World} {cargs:List Value},WI G w→All2 (fun v x=>RA G w .ret v x) args cargs→Calls Tryz.prog f cargs.toArray w (rk G w l)) :
  Contract Tryz.prog f args [] (.ret (.c (.pv (.sl (qq l)))) []):=by
 intro G w cargs hw hargs _ _ hbb;refine(h hw hargs).mono ?_
 rintro e w' ⟨v,I,rfl,hr,hwi,hb,hm,hold⟩
 have hb0:∀ s,G.bb s=none:=fun s=>by
  cases e:G.bb s with
  | none=>rfl
  | some b=>obtain⟨i,hi,_⟩:=hbb s b e;simp at hi
 refine⟨⟨I,G.bb,G.ow⟩,⟨hm,fun b hlt hn=>⟨hn,hb.block b hlt,hold b hlt⟩,hb.size,hb.os,hb.output,hb.tape,fun _ _=>rfl⟩,
  ⟨hwi.cell,fun b h=>⟨(hwi.fresh b h).1,(hw.fresh b (Nat.le_trans hb.size h)).2⟩,fun b s h o => ?_,fun s b h => ?_,hw.tab.map fun b hlt hn=>⟨hn,hb.block b hlt⟩⟩,v,rfl,hr,rfl,fun i l h=>by simp at h⟩
 ·have hlt:=dU hw h
  exact(hold b hlt o).trans (hw.boxI b s h o)
 ·have h':G.bb s=some b:=h
  rw[hb0] at h';cases h'
def kF (f:List PV→Option Val):List (List PV)→Option (List Val)
 | []=>some []
 | el::r=>match f el,kF f r with
  | some v,some vs=>some (v::vs)
  | _,_=>none
def mR:Nat→List PV→Option Val
 | n+1,[.int .i64 k,.int .i64 tk,.str ts,.int .i64 tn,.sl c]=>match kF (mR n) c with
  | some l=>some (.mk k ⟨tk,ts,tn⟩ l)
  | none=>none
 | _,_=>none
theorem iy {f:List PV→Option Val} (hf:∀ el v,f el=some v→el=v.enc):∀ {c:List (List PV)} {vs:List Val},kF f c=some vs→c=encL vs
 | [],vs,h=>by cases h;rfl
 | el::r,vs,h=>by
  unfold kF at h;split at h
  ·rename_i v vs' h1 h2;cases h;rw[encL,←hf _ _ h1,←iy hf h2]
  ·cases h
theorem mf:∀ (n:Nat) (el:List PV) (v:Val),mR n el=some v→el=v.enc
 | 0,el,v,h=>by unfold mR at h;cases h
 | n+1,el,v,h=>by
  unfold mR at h;split at h
  ·rename_i k tk ts tn c e0;cases e0;split at h
   ·rename_i l hl;cases h;rw[Val.enc,←iy (mf n) hl]
   ·cases h
  ·cases h
theorem oa:∀ (n:Nat) (vs:List Val),Ne.size vs≤n→kF (mR n) (encL vs)=some vs
 | n,[],h=>by rw[encL];rfl
 | 0,.mk k t l::vs,h=>by rw[Ne.size,Ne.qe] at h;omega
 | n+1,.mk k t l::vs,h=>by
  rw[Ne.size,Ne.qe] at h;have h1:=oa n l (by omega)
  have h2:=oa (n+1) vs (by omega)
  rw[encL,kF,h2,Val.enc];have h3:mR (n+1) [.int .i64 k,.int .i64 t.kind,.str t.text,.int .i64 t.n,.sl (encL l)]=some (.mk k t l):=by
   rw[mR,h1]
  rw[h3]
termination_by n vs=>(n,vs.length)
def kX (c:List (List PV)):Option (List Val):=kF (mR 1000000000) c
theorem sZ (vs:List Val) (h:Ne.size vs≤1000000000):kX (encL vs)=some vs:=oa _ _ h
def pAt:Prim
 | [.c (.pv (.sl c)),.c (.pv (.str d))],[]=>match kX c with
  | some vs=>if vs.length≤100000000 then some (.c (.pv (.sl (qq (cutL (SR.cD d) vs)))),[]) else none
  | none=>none
 | [.c .nils,.c (.pv (.str _))],[]=>some (.c (.pv (.sl [[.sl []]])),[])
 | _,_=>none
theorem CH {args:List AV} {bxs:List (List CV)} {x:AV×List (List CV)} (h:pAt args bxs=some x):Contract Tryz.prog 177 args bxs (.ret x.1 x.2):=by
 unfold pAt at h;split at h
 ·rename_i c d;split at h
  case h_2=>cases h
  rename_i vs hdec;split at h
  case isFalse=>cases h
  rename_i hlen;cases h;have hc:=iy (mf _) hdec
  subst hc;refine fY fun hw hargs => ?_
  obtain⟨x,y,rfl,hx,hy⟩:=dF hargs;cases hy.strv;exact Cp hw hx hlen
 ·rename_i d;cases h;refine fY (l:=[[]]) fun hw hargs => ?_
  obtain⟨x,y,rfl,hx,hy⟩:=dF hargs;cases hy.strv;obtain rfl:x=.slice none 0 0:=hx;exact Cp (vs:=[]) (d:=d) hw (.sl0 _ _) (by simp)
 ·cases h
end Go.Abs
namespace Go.Abs
open Go Go.Proofs Go.RowKit Go.Shelf
set_option maxRecDepth 10000
attribute [local go_sem] Oper.semAt_some
def lL : Code := (Code.region 3 #[{ dst := some 4, op := Op.assign (Operand.tmp 7), type := 22, pos := "split.go:61", after := #[], guard := none }] false)
def qM : Code := (Code.block 1 ((Code.region 4 #[{ dst := some 8, op := Op.move (Operand.tmp 4), type := 22, pos := "split.go:62", after := #[], guard := none }, { dst := some 9, op := Op.call { callee := Callee.builtin Builtin.len, args := #[Operand.tmp 8], argTypes := #[22] }, type := 3, pos := "split.go:62", after := #[{ on := 0, ground := Ground.data }], guard := none }, { dst := some 10, op := Op.binOp BinOp.gtr 3 (Operand.tmp 9) (Operand.const (Value.int IntKind.i64 0)) 3, type := 4, pos := "split.go:62", after := #[{ on := 1, ground := Ground.data }], guard := none }] false).seq (Code.cond (Operand.tmp 10) (Code.region 5 #[{ dst := some 11, op := Op.load 162 (Operand.tmp 3), type := 162, pos := "split.go:63", after := #[], guard := none }, { dst := some 12, op := Op.move (Operand.tmp 4), type := 22, pos := "split.go:63", after := #[], guard := none }, { dst := some 13, op := Op.buildSlice 162 1 #[(0, Operand.tmp 12)], type := 162, pos := "split.go:63", after := #[{ on := 1, ground := Ground.data }], guard := none }, { dst := some 14, op := Op.call { callee := Callee.builtin Builtin.append, args := #[Operand.tmp 11, Operand.tmp 13], argTypes := #[162, 162] }, type := 162, pos := "split.go:63", after := #[{ on := 0, ground := Ground.data }, { on := 2, ground := Ground.data }], guard := none }, { dst := none, op := Op.store 162 (Operand.tmp 3) (Operand.tmp 14), type := 0, pos := "split.go:63", after := #[{ on := 3, ground := Ground.data }, { on := 3, ground := Ground.chain }, { on := 0, ground := Ground.phase }, { on := 1, ground := Ground.phase }, { on := 2, ground := Ground.phase }, { on := 3, ground := Ground.phase }], guard := none }] false) Code.skip)))
def iu (fn:FuncId) (xl sv:Value) (Bs D:Nat) (st:LoopState) (pend:Option Code):Loop :=
  { state:=st,pending:=pend,fn,tmps:=#[xl,undef,.slice none 0 0,.pointer (some ⟨Bs,0,none⟩),undef,xl,sv,undef,undef,undef,undef,undef,undef,undef,undef,undef],params:=#[7],assign:=lL,body:=qM,defers:=D }
def full (ss:List (List Val)):List (List Val):=ss.filter fun s => !s.isEmpty
theorem Aq (ss:List (List Val)) (x:List Val) (h:x≠[]):full (ss++[x])=full ss++[x]:=by
 cases x with
 | nil=>exact absurd rfl h
 | cons v x=>simp[full]
theorem BL (ss:List (List Val)):full (ss++[[]])=full ss:=by simp[full]
theorem yp (ss:List (List Val)):(full ss).length≤ss.length:=List.length_filter_le _ _
theorem yg {W0:World} {I0:Nat→Nat→Option Value} {X:Nat→Prop} {rec rb:Loop} {Bs l D base:Nat} {f:List (List Val)→List (List Val)} {I:Nat→Nat→Option Value} {ss:List (List Val)} {A:World} (hx:ColIx W0 X Bs l D base) (ht:TabOK (Gn I) W0) (h:ColAt W0 I0 X rec Bs l D base f I ss A) {x:List Val} (hf:f (ss++[x])=f ss) :
  (A.putObj l (.loop rb)).heap[l]? = some (.loop rb)∧(∀ b,X b→((A.putObj l (.loop rb)).putObj l (.loop rec)).heap[b]? = A.heap[b]?)∧ColAt W0 I0 X rec Bs l D base f I (ss++[x]) ((A.putObj l (.loop rb)).putObj l (.loop rec)):=by
 have ltL:=(Array.getElem?_eq_some_iff.1 h.L).1
 have ltL':l<(A.putObj l (.loop rb)).heap.size:=by simpa using ltL
 have hoth:∀ b,b≠l→((A.putObj l (.loop rb)).putObj l (.loop rec)).heap[b]? = A.heap[b]? := fun b hb=>(World.putObj_heap_other hb).trans (World.putObj_heap_other hb)
 have hl1:(A.putObj l (.loop rb)).heap[l]? = some (.loop rb):=World.putObj_heap_same ltL
 have hb1:Below W0.heap.size W0 ((A.putObj l (.loop rb)).putObj l (.loop rec)) :=
  Below.of_grown (Below.of_grown h.below (grownBy_putObj' A l _) h.below.size fun k e=>by cases e;exact hx.n2) (grownBy_putObj' _ l _) (by simpa using h.below.size) fun k e=>by cases e;exact hx.n2
 obtain⟨v,vs,hb,hrow,hvs,hg⟩:=h.box;refine⟨hl1,fun b hb'=>hoth b fun e=>hx.x2 (e▸hb'),?_⟩
 refine⟨iM h.wi h.below hb1 ht (by simp) fun b hlt ⟨o,y,e⟩=>hoth b fun e' => ?_,fun b hb'=>⟨by simpa using (h.hX b hb').1,(h.hX b hb').2⟩,h.raw,⟨v,vs,(hoth Bs hx.h1).trans hb,?_,by rw[hf];exact hvs,hg⟩,World.putObj_heap_same ltL',(hoth D hx.h2).trans h.K,hb1,h.old⟩
 ·rw[e',h.raw.2.1] at e;cases e
 ·exact ownsRow_putObj (ownsRow_putObj hrow _ h.L rfl) _ hl1 rfl
set_option maxRecDepth 100000 in
theorem zB {W0:World} {I0:Nat→Nat→Option Value} {X:Nat→Prop} {fn:FuncId} {xl sv:Value} {Bs l D base:Nat} (hx:ColIx W0 X Bs l D base) (ht:∀ I,TabOK (Gn I) W0)
  {I:Nat→Nat→Option Value} {ss:List (List Val)} {A:World} {v:Value} {x:List Val} (h:ColAt W0 I0 X (iu fn xl sv Bs D .ready none) Bs l D base full I ss A) (hxv:RP I (.sl (encL x)) v) (hlen:ss.length≤1000000000) :
  YieldAt Fence.wide 0 Tryz.prog l #[v] A fun e B=>e=.returned (.bool true)∧(∀ b,X b→B.heap[b]? = A.heap[b]?)∧∃ I',(∀ b o y,I b o=some y→I' b o=some y)∧ColAt W0 I0 X (iu fn xl sv Bs D .ready none) Bs l D base full I' (ss++[x]) B:=by
 obtain⟨i0,hi,hz0,hz1,hz2⟩:=info_parts oC;obtain⟨u,us,hb,hrow,hvs,hg⟩:=h.box;have hub:us.length≤1000000000:=by
  rw[←hvs.length];have:=yp ss
  simp;omega
 obtain⟨xa,xc,rfl,_,_⟩:=hxv.slice_inv;refine⟨fn, #[xl,undef,.slice none 0 0,.pointer (some ⟨Bs,0,none⟩),undef,xl,sv,.slice xa (encL x).length xc,undef,undef,undef,undef,undef,undef,undef,undef],lL,qM,by simpa[iu] using run_yield (P:=Tryz.prog) (args:=#[.slice xa (encL x).length xc]) h.L rfl,roundIn_of_wpIn trivial ?_⟩
 have hl:=(Array.getElem?_eq_some_iff.1 h.L).1
 have hbr:=run_beginRound (P:=Tryz.prog) h.L rfl
 obtain⟨W2,hW2⟩:∃ W2,A.putObj l (.loop { iu fn xl sv Bs D .ready none with state:=.busy })=W2:=⟨_,rfl⟩
 have hb2:Boxed W2 Bs 162 u:=by rw[←hW2];exact(World.putObj_heap_other hx.h1).trans hb
 have hrow2:W2.ownsRow base 22 1 u us.length us:=by rw[←hW2];exact ownsRow_putObj hrow _ h.L rfl
 have hs2:base≤W2.heap.size:=by rw[←hW2];simp;have:=hx.n5;omega
 rw[hW2] at hbr;have hc2:=hb2.cell
 have hf2:=hb2.frozen
 by_cases hx0:x=[]
 ·subst hx0;have hz:decide ((0:Int)<(((encL []).length:Nat):Int))=false:=by rw[encL];rfl
  obtain⟨m2,m3,m4⟩:=yg (rb := { iu fn xl sv Bs D .ready none with state:=.busy }) hx (ht I) h (BL ss)
  rw[hW2] at m2 m3 m4
  unfold lL
  gi_wp2_with (rw[Oper.semAt_eq _ _ _ (fun c h=>by cases h)];go_simp;try go_bits)
  unfold qM
  gi_wp2_with (rw[Oper.semAt_eq _ _ _ (fun c h=>by cases h)];go_simp;try go_bits)
  exact⟨_,_,run_endRound none m2,rfl,m3,I,fun _ _ _ h=>h,m4⟩
 ·have hz:decide ((0:Int)<(((encL x).length:Nat):Int))=true:=by
   rw[bc];have:=List.length_pos_iff.2 hx0
   exact decide_eq_true (by omega)
  have hz':(0:Int)<(((encL x).length:Nat):Int):=of_decide_eq_true hz
  unfold lL
  gi_wp2_with (rw[Oper.semAt_eq _ _ _ (fun c h=>by cases h)];go_simp;try go_bits)
  unfold qM
  gi_wp2_with (first
   | (gi_at_builtin;refine wpListIn_append_own_at _ rfl _ _ 162 rfl base 22 i0 (.slice none 0 0) 1 24 Tryz.underlying162 hi hz0 hz1 hz2 rfl (by decide) _ _ _ rfl (hrow2.alloc _) ⟨W2.heap.size,0,none⟩ 1 1 [.slice xa (encL x).length xc] rfl rfl (cell_one_new _ _ _) (by simp[Value.oneCell']) (by simp only[maxLen];omega) (by omega) (by simp;omega) ?_;intro v' w3 hown' hg3 hnil hat;obtain⟨g',cap',rfl⟩:=ownsRow_succ hown';obtain⟨m1,m2,m3,m4⟩:=sU hx (ht I) h (rb := { iu fn xl sv Bs D .ready none with state:=.busy }) hb hrow hvs hg hxv (Aq ss x hx0) hown' (by rw[hW2];exact hg3) (by rw[hW2];exact hat);have hc3:=m1.cell;have hf3:=m1.frozen)
   | (rw[Oper.semAt_eq _ _ _ (fun c h=>by cases h)];go_simp;try go_bits))
  exact⟨_,_,run_endRound none m2,rfl,m3,I,fun _ _ _ h=>h,m4⟩
set_option maxRecDepth 100000 in
theorem sm {G:Gh} {w:World} {x:Value} {vs:List Val} (hw:WI G w) (hx:RP G.I (.sl (encL vs)) x) (hlen:vs.length≤100000000) :
  Calls Tryz.prog 175 #[x] w (rk G w (full (cutL SR.aG vs))):=by
 have eg:∀ args w,(callFunc 262 args).run Tryz.prog w=.ok (.enter 262 args) w:=enters_of Tryz.func262 (by kernel_rfl) rfl
 have hwn:=sP hw
 have hx1:=hx.one
 obtain⟨w1,hw1⟩:∃ w1,w.alloc (.cells #[.slice none 0 0] 162)=w1:=⟨_,rfl⟩
 have hpc:=oO x (.func (.func 96) #[] #[]) w1 hx1 rfl
 refine(callsIn_wide (n:=2)).1 ?_
 refine callsIn_of_wp_marks Tryz.func175 rfl trivial ?_ rfl
 simp only[Tryz.ntmps175,List.size_toArray,List.length_cons,List.length_nil,reduceAdd,reduceSub,Array.replicate_succ,Array.replicate_zero,List.push_toArray,List.append_toArray,List.nil_append,List.cons_append]
 gi_wp2_with (refine⟨trivial,?_⟩;gi_at_call 220;refine(callsIn_wide.2 hpc).mono ?_)
 rintro e w3 ⟨rfl,tc,hw3⟩
 have hs1:w1.heap.size=w.heap.size+1:=by rw[←hw1];simp
 have hs3:w3.heap.size=w.heap.size+3:=by rw[hw3];simp;omega
 have hb1:Below w.heap.size w w1:=by rw[←hw1];exact(Below.refl _ w).alloc (Nat.le_refl _) _
 have hb3:Below w.heap.size w w3:=by rw[hw3];exact(hb1.alloc (by omega) _).alloc (by simp;omega) _
 have h1:Boxed w3 w.heap.size 162 (.slice none 0 0):=by
  rw[hw3];refine(Below.heap_alloc _ _ _ (by simp;omega)).trans ((Below.heap_alloc _ _ _ (by omega)).trans ?_)
  rw[←hw1];exact World.alloc_heap_new w _
 have h2:w3.heap[w1.heap.size]? = some (.cells #[x] 22 (0,0)):=by
  rw[hw3];exact(Below.heap_alloc _ _ _ (by simp)).trans (World.alloc_heap_new w1 _)
 have h3:w3.heap[w1.heap.size+1]? = some (.cells #[.func (.func 96) #[] #[]] tc (0,0)):=by
  rw[hw3];have:=World.alloc_heap_new (w1.alloc (.cells #[x] 22)) (.cells #[.func (.func 96) #[] #[]] tc)
  rwa [World.size_alloc] at this
 have hw3n:WI (Gn G.I) w3:=ph hwn hb3
 clear hw3
 gi_wp2
 refine wpIn_rangeFunc ?_
 intro fn hfn;have hro:Fence.wide.round=none:=rfl
 rw[hro];rw[hs1] at h2 h3;obtain⟨sv,hsv⟩:∃ sv:Value,.func (.func 262) #[] #[.pointer (some ⟨w.heap.size+1,0,none⟩),.pointer (some ⟨w.heap.size+1+1,0,none⟩)]=sv:=⟨_,rfl⟩
 obtain⟨W2,hW2⟩:∃ W2,(w3.alloc (.deferred (some []))).alloc (.loop (iu fn x sv w.heap.size w3.heap.size .ready none))=W2:=⟨_,rfl⟩
 have hold:∀ b,b<w3.heap.size→W2.heap[b]? = w3.heap[b]? := fun b hb'=>by
  rw[←hW2];exact(Below.heap_alloc _ _ b (by simp;omega)).trans (Below.heap_alloc _ _ b hb')
 have hs2:W2.heap.size=w.heap.size+5:=by rw[←hW2];simp;omega
 have hb2:Below w.heap.size w W2:=by
  rw[←hW2];exact(hb3.alloc (by omega) _).alloc (by simp;omega) _
 have hL2:W2.heap[w3.heap.size+1]? = some (.loop (iu fn x sv w.heap.size w3.heap.size .ready none)):=by
  rw[←hW2];have:=World.alloc_heap_new (w3.alloc (.deferred (some []))) (.loop (iu fn x sv w.heap.size w3.heap.size .ready none))
  rwa [World.size_alloc] at this
 have hK2:W2.heap[w3.heap.size]? = some (.deferred (some [])):=by
  rw[←hW2];exact(Below.heap_alloc _ _ _ (by simp)).trans (World.alloc_heap_new w3 _)
 have hwi2:WI (Gn G.I) W2:=ph hwn hb2
 have hfr:∀ b,w.heap.size≤b→∀ o,G.I b o=none:=fun b hb=>(hwn.fresh b hb).1
 have ht:∀ I,TabOK (Gn I) w:=fun I=>hwn.tab
 have hix:ColIx w (fun b=>b=(w.heap.size+1)∨b=w.heap.size+1+1) w.heap.size (w3.heap.size+1) w3.heap.size w3.heap.size :=
  ⟨by omega,by omega,by omega,by omega,by omega,by omega,fun b h=>by omega,by omega,by omega,by omega,by omega,by omega⟩
 have hcol:ColAt w G.I (fun b=>b=(w.heap.size+1)∨b=w.heap.size+1+1) (iu fn x sv w.heap.size w3.heap.size .ready none) w.heap.size (w3.heap.size+1) w3.heap.size w3.heap.size full G.I [] W2 :=
  ⟨hwi2,(fun b h=>⟨by omega,hfr b (by omega)⟩),⟨hfr _ (Nat.le_refl _),hfr _ (by omega),hfr _ (by omega)⟩,⟨_,[],(hold _ (by omega)).trans h1,⟨rfl,.inl ⟨rfl,rfl⟩⟩,.nil,(fun g e=>by cases e)⟩,hL2,hK2,hb2,fun _ _ _=>rfl⟩
 refine⟨w3.heap.size+1,[{ target:=.collected w3.heap.size,args:=#[] }],W2, { target:=.fn (.func 262) #[.pointer (some ⟨w.heap.size+1,0,none⟩),.pointer (some ⟨w.heap.size+1+1,0,none⟩)],args:=#[.func (.yield (w3.heap.size+1)) #[] #[]] },W2,262,
  #[.func (.yield (w3.heap.size+1)) #[] #[]]++#[.pointer (some ⟨w.heap.size+1,0,none⟩),.pointer (some ⟨w.heap.size+1+1,0,none⟩)],W2,?_,?_,?_,?_,(fun h=>by cases h),?_⟩
 ·rw[←hW2,←hsv];exact run_enterLoop_outer _ _ _ _ _
 ·simp[resolve,go_sem]
 ·intro f' hf';trivial
 ·simp[invoke,go_sem,eg]
 ·have hlen':=nP SR.aG vs
  refine(pQ (w3.heap.size+1) (w.heap.size+1) (w.heap.size+1+1) (fun b=>b=(w.heap.size+1)∨b=w.heap.size+1+1) (.func (.func 96) #[] #[]) SR.aG tc (.inl rfl) (.inr rfl) (fun e=>by simp at e) (fun e=>by simp at e) (by omega)
   (fun I ss A=>ColAt w G.I (fun b=>b=(w.heap.size+1)∨b=w.heap.size+1+1) (iu fn x sv w.heap.size w3.heap.size .ready none) w.heap.size (w3.heap.size+1) w3.heap.size w3.heap.size full I ss A)
   (fun h=>⟨h.wi,fun b hb'=>(h.hX b hb').2⟩) (fun h k hw'=>h.keep hix k hw') G.I [] W2 hcol .blank x _ vs (by omega) (fun h hv hlt=>zB hix ht h hv (by rw[List.nil_append] at hlt;omega)) ((hold _ (by omega)).trans h2) hx ((hold _ (by omega)).trans h3)).mono ?_
  rintro e W3 ⟨⟨v0,rfl⟩,I,h3⟩
  obtain⟨v,us,hbx,hrow,hus,hg⟩:=h3.box;have hend:=run_endLoop (P:=Tryz.prog) h3.L (by simp[iu])
  obtain⟨W4,hW4⟩:∃ W4,W3.putObj (w3.heap.size+1) (.loop { iu fn x sv w.heap.size w3.heap.size .ready none with state:=.exhausted })=W4:=⟨_,rfl⟩
  rw[hW4] at hend;have hbx4:Boxed W4 w.heap.size 162 v:=by rw[←hW4];exact(World.putObj_heap_other (by omega)).trans hbx
  have hK4:W4.heap[w3.heap.size]? = some (.deferred (some [])):=by rw[←hW4];exact(World.putObj_heap_other (by omega)).trans h3.K
  have hrow4:W4.ownsRow w3.heap.size 22 1 v us.length us:=by rw[←hW4];exact ownsRow_putObj hrow _ h3.L rfl
  have hb4:Below w.heap.size w W4:=by rw[←hW4];exact Below.of_grown h3.below (grownBy_putObj' _ _ _) h3.below.size (fun k e=>by cases e;omega)
  have hwi4:WI (Gn I) W4:=iM h3.wi h3.below hb4 (ht I) (by rw[←hW4];simp) fun b hb' ⟨o,y,e⟩=>by
   rw[←hW4];exact World.putObj_heap_other fun e'=>by rw[e',h3.raw.2.1] at e;cases e
  have hc4:=hbx4.cell
  clear hW4;refine⟨none,W4,hend,?_⟩
  rw[hs3] at hK4
  gi_wp2
  refine⟨by simp,.inl ⟨_,_,rfl,run_takeDeferred hK4,?_⟩⟩
  have hb5:Below w.heap.size w (W4.putObj (w.heap.size+3) (.deferred none)):=Below.of_grown hb4 (grownBy_putObj' _ _ _) hb4.size (fun k e=>by cases e;omega)
  refine⟨_,results_tmp rfl _ _ _,?_⟩
  have hwi5:WI (Gn I) (W4.putObj (w.heap.size+3) (.deferred none)):=iM hwi4 hb4 hb5 (ht I) (by simp) fun b hb' ⟨o,y,e⟩=>by
   refine World.putObj_heap_other fun e' => ?_
   have:=h3.raw.2.2 o
   rw[hs3,←e',e] at this
   cases this
  rw[List.nil_append] at hus;obtain⟨I',r1,r2,r3,r4⟩:=tr hwi5 (ownsRow_putObj hrow4 _ hK4 rfl) hg hus;have holdI:∀ b,b<w.heap.size→∀ o,I' b o=G.I b o:=fun b hb o=>(r4 b (by omega) o).trans (h3.old b hb o)
  exact⟨v,I',rfl,r3,r2,hb5,fun b o y h=>by rw[holdI b (I_lt hwn h)];exact h,holdI⟩
def rE:Prim
 | [.c (.pv (.sl c))],[]=>match kX c with
  | some vs=>if vs.length≤100000000 then some (.c (.pv (.sl (qq (full (cutL SR.aG vs))))),[]) else none
  | none=>none
 | [.c .nils],[]=>some (.c (.pv (.sl [])),[])
 | _,_=>none
theorem wy {args:List AV} {bxs:List (List CV)} {x:AV×List (List CV)} (h:rE args bxs=some x):Contract Tryz.prog 175 args bxs (.ret x.1 x.2):=by
 unfold rE at h;split at h
 ·rename_i c;split at h
  case h_2=>cases h
  rename_i vs hdec;split at h
  case isFalse=>cases h
  rename_i hlen;cases h;have hc:=iy (mf _) hdec
  subst hc;refine fY fun hw hargs => ?_
  obtain⟨x,rfl,hx⟩:=de hargs;exact sm hw hx hlen
 ·cases h
  refine fY (l:=[]) fun hw hargs => ?_
  obtain⟨x,rfl,hx⟩:=de hargs;obtain rfl:x=.slice none 0 0:=hx;exact sm (vs:=[]) hw (.sl0 _ _) (by simp)
 ·cases h
end Go.Abs
namespace Go.Abs
open Go Go.Proofs Go.RowKit
def lowB (b:UInt8):UInt8:=if 65≤b∧b≤90 then b+32 else b
structure LowInv (w:World) (s:ByteArray) (e:TypeId) (B cap:Nat) (wr:World) (k:Nat):Prop where
 bel:Below w.heap.size w wr
 row:∃ cur N,wr.heap[B]? = some (.cells cur e (N,N+1))∧cur.size=N∧s.size≤N∧∀ (j:Nat) (b:UInt8),s.data.toList[j]? = some b→cur[j]? = some (.int .u8 ((if j<k then lowB b else b).toNat:Int))
theorem Bh {b:UInt8} (h1:65≤(b.toNat:Int)) (h2:(b.toNat:Int)≤90):((lowB b).toNat:Int)=b.toNat+32:=by
 unfold lowB;have e1:(65:UInt8)≤b:=by rw[UInt8.le_iff_toNat_le];show 65≤_;omega
 have e2:b≤(90:UInt8):=by rw[UInt8.le_iff_toNat_le];show _≤90;omega
 rw[if_pos ⟨e1,e2⟩,UInt8.toNat_add]
 show (((b.toNat+32) % 256:Nat):Int)=_
 omega
theorem yK {b:UInt8} (h:¬ (65≤(b.toNat:Int)∧(b.toNat:Int)≤90)):lowB b=b:=by
 unfold lowB;rw[if_neg]
 rintro ⟨e1,e2⟩
 rw[UInt8.le_iff_toNat_le] at e1 e2
 have e1:65≤b.toNat:=e1
 have e2:b.toNat≤90:=e2
 omega
theorem LowInv.step {w wr:World} {s:ByteArray} {e:TypeId} {cap k:Nat} {b:UInt8} (h:LowInv w s e w.heap.size cap wr k) (hb:s.data.toList[k]? = some b) (h1:65≤(b.toNat:Int)) (h2:(b.toNat:Int)≤90) :
  LowInv w s e w.heap.size cap (wr.setCell ⟨w.heap.size,k,none⟩ (.int .u8 (b.toNat+32))) (k+1):=by
 obtain⟨hbel,cur,N,h3,h4,h5,h6⟩:=h;refine⟨hbel.setCell (p:=⟨w.heap.size,k,none⟩) (Nat.le_refl _) _,cur.setIfInBounds k (.int .u8 (b.toNat+32)),N,?_,by simpa using h4,h5,fun j c hj => ?_⟩
 ·rw[gJ h3];exact setRow_heap wr _ cur _ e _ h3
 ·by_cases hjk:j=k
  ·subst hjk;rw[hb] at hj;cases hj;rw[if_pos (by omega),Bh h1 h2]
   have:=h6 j b hb
   have hlt:=(Array.getElem?_eq_some_iff.1 this).1
   simp[hlt]
  ·have:=h6 j c hj
   rw[Array.getElem?_setIfInBounds_ne (Ne.symm hjk),this]
   by_cases hlt:j<k
   ·rw[if_pos hlt,if_pos (by omega)]
   ·rw[if_neg hlt,if_neg (by omega)]
theorem LowInv.skip {w wr:World} {s:ByteArray} {e:TypeId} {cap k:Nat} {b:UInt8} (h:LowInv w s e w.heap.size cap wr k) (hb:s.data.toList[k]? = some b) (h1:¬ (65≤(b.toNat:Int)∧(b.toNat:Int)≤90)) :
  LowInv w s e w.heap.size cap wr (k+1):=by
 obtain⟨hbel,cur,N,h3,h4,h5,h6⟩:=h;refine⟨hbel,cur,N,h3,h4,h5,fun j c hj => ?_⟩
 by_cases hjk:j=k
 ·subst hjk;rw[hb] at hj;cases hj;rw[if_pos (by omega),h6 j b hb,if_neg (by omega),yK h1]
 ·rw[h6 j c hj];by_cases hlt:j<k
  ·rw[if_pos hlt,if_pos (by omega)]
  ·rw[if_neg hlt,if_neg (by omega)]
set_option maxRecDepth 100000 in
theorem yD (s:ByteArray) (w:World) (hs:s.size<4611686018427387904) :
  Calls Tryz.prog 111 #[.string s] w fun e w'=>e=.returned (.string ⟨(s.data.toList.map lowB).toArray⟩)∧Below w.heap.size w w':=by
 go_enter Tryz.func111,Tryz.ntmps111
 go_wp2
 rw[run_bytes_of_string _ 9 69 5 s (by exact Tryz.underlying9) (by exact Tryz.underlying69) (by exact Tryz.underlying5)]
 simp only[Result.andThen];rw[Oper.upon_value];have h0:LowInv w s 5 w.heap.size (grownCap w s.size 0 5) (w.drew.alloc (.cells (bytesRow s (grownCap w s.size 0 5)) 5 ((bytesRow s (grownCap w s.size 0 5)).size,(bytesRow s (grownCap w s.size 0 5)).size+1))) 0:=by
  refine⟨(Below.drew (Below.refl _ _)).alloc (Nat.le_refl _) _,_,_,heap_alloc_new w.drew _,rfl,?_,fun j b hj => ?_⟩
  ·show s.data.size≤_
   unfold bytesRow;rw[Array.size_append];simp
  ·unfold bytesRow;have hlt:=(List.getElem?_eq_some_iff.1 hj).1
   rw[Array.getElem?_append_left (by simpa using hlt)]
   simp at hj;simp[hj]
 revert h0;generalize w.drew.alloc (.cells (bytesRow s (grownCap w s.size 0 5)) 5 ((bytesRow s (grownCap w s.size 0 5)).size,(bytesRow s (grownCap w s.size 0 5)).size+1))=w1;generalize grownCap w s.size 0 5=cap;intro h0;have H0:Hid (LowInv w s 5 w.heap.size cap w1 0):=h0
 clear h0;have hsn:s.data.toList.length=s.size:=by show _=s.data.size;simp
 go_wp2
 go_loopw [4] (fun vi wr=>∃ k:Nat,k≤s.size∧vi=.int .i64 k∧Hid (LowInv w s 5 w.heap.size cap wr k)) (fun vi _=>s.size - (RowKit.intOf vi).toNat)
 case atStart=>exact⟨0,Nat.zero_le _,rfl,H0⟩
 case round =>
  obtain⟨k,hk,rfl,HI⟩:=hrel;obtain⟨b,hb⟩:∃ b:UInt8,k<s.size→s.data.toList[k]? = some b:=by
   by_cases hlt:k<s.size
   ·exact⟨s.data.toList[k]'(by omega),fun _=>by simp⟩
   ·exact⟨0,fun h=>absurd h hlt⟩
  have hc:k<s.size→wr.cell? ⟨w.heap.size,k,none⟩=some (.int .u8 (b.toNat:Int)):=fun h=>by
   obtain⟨cur,N,h1,h2,h3,h4⟩:=HI.out.row;rw[aa h1,h4 k b (hb h),if_neg (by omega)]
  have hf:k<s.size→wr.frozen? ⟨w.heap.size,k,none⟩=false:=fun h=>by
   obtain⟨cur,N,h1,h2,h3,h4⟩:=HI.out.row;simp[World.frozen?,h1];omega
  have HB:Hid (k<s.size→s.data.toList[k]? = some b):=hb
  clear hb
  go_wp2
  ·have hlt:k<s.size:=by assumption
   go_roundw
   case rel=>exact⟨k+1,by omega,by go_num,HI.out.step (HB.out hlt) (by omega) (by omega)⟩
   case measure=>simp[RowKit.intOf];omega
  ·have hlt:k<s.size:=by assumption
   go_roundw
   case rel=>exact⟨k+1,by omega,by go_num,HI.out.skip (HB.out hlt) (by omega)⟩
   case measure=>simp[RowKit.intOf];omega
  ·have hlt:k<s.size:=by assumption
   go_roundw
   case rel=>exact⟨k+1,by omega,by go_num,HI.out.skip (HB.out hlt) (by omega)⟩
   case measure=>simp[RowKit.intOf];omega
  ·have hkn:k=s.size:=by omega
   obtain⟨hbel,cur,N,h3,h4,h5,h6⟩:=HI.out;rw[run_convert_bytes_string wr 69 9 5 _ _ _ (by exact Tryz.underlying69) (by exact Tryz.underlying5) (by exact Tryz.underlying9)]
   have hload:(loadCells ⟨w.heap.size,0,none⟩ s.size).run Tryz.prog wr=.ok ((s.data.toList.map fun b=>((lowB b).toNat:Int)).map (Value.int .u8)).toArray wr:=by
    have:=run_loadCells_list (P:=Tryz.prog) wr ⟨w.heap.size,0,none⟩ ((s.data.toList.map fun b=>((lowB b).toNat:Int)).map (Value.int .u8)) (fun j y hy=>by
     have hadd:(⟨w.heap.size,0,none⟩:Addr).add j=⟨w.heap.size,0+j,none⟩:=by simp only[Addr.add];split<;>simp_all
     rw[hadd];rw[List.getElem?_map,List.getElem?_map,Option.map_eq_some_iff] at hy
     obtain⟨n,hn,rfl⟩:=hy;rw[Option.map_eq_some_iff] at hn;obtain⟨c,hc',rfl⟩:=hn;have hjl:=(List.getElem?_eq_some_iff.1 hc').1
     rw[aa h3,Nat.zero_add,h6 j c hc',if_pos (by omega)])
    rw[←this];congr 2;simp
   rw[run_bytesToString wr _ _ _ _ hload];have hpush:=ga (s.data.toList.map fun b=>((lowB b).toNat:Int)) []
   have hmap:([]++(s.data.toList.map fun b=>((lowB b).toNat:Int)).map fun n=>UInt8.ofNat n.toNat)=s.data.toList.map lowB:=by
    rw[List.nil_append,List.map_map];exact List.map_congr_left fun b _=>by simp
   rw[hmap] at hpush;rw[show ByteArray.empty=ByteArray.mk [].toArray from rfl,hpush]
   simp only[Result.andThen];rw[Oper.upon_value]
   go_wp2
   go_ret
   exact⟨rfl,hbel⟩
def pLow:Prim
 | [.c (.pv (.str s))],[]=>if s.length<bz then some (.c (.pv (.str (s.map lowB))),[]) else none
 | _,_=>none
theorem DA {args:List AV} {bxs:List (List CV)} {x:AV×List (List CV)} (h:pLow args bxs=some x):Contract Tryz.prog 111 args bxs (.ret x.1 x.2):=by
 unfold pLow at h;split at h
 case h_2=>cases h
 rename_i s;split at h
 case isFalse=>cases h
 rename_i hs;cases h;refine bq fun G w cargs hw hargs => ?_
 obtain⟨x,rfl,hx⟩:=de hargs;cases hx.strv;refine(yD ⟨s.toArray⟩ w (by show s.toArray.size<_;simpa[bz] using hs)).mono ?_
 rintro e w' ⟨rfl,hb⟩
 exact⟨_,rfl,.str _,hb⟩
end Go.Abs
namespace Go.Abs
open Go Go.Proofs Go.RowKit
set_option maxRecDepth 100000 in
theorem uV (s:ByteArray) (w:World) (hs:s.size<4611686018427387904) :
  Calls Tryz.prog 295 #[.string s] w fun e w'=>e=.returned (.string ⟨(s.data.toList.map lowB).toArray⟩)∧Below w.heap.size w w':=by
 go_enter Tryz.func295,Tryz.ntmps295
 go_wp2
 rw[run_bytes_of_string _ 9 69 5 s (by exact Tryz.underlying9) (by exact Tryz.underlying69) (by exact Tryz.underlying5)]
 simp only[Result.andThen];rw[Oper.upon_value];have h0:LowInv w s 5 w.heap.size (grownCap w s.size 0 5) (w.drew.alloc (.cells (bytesRow s (grownCap w s.size 0 5)) 5 ((bytesRow s (grownCap w s.size 0 5)).size,(bytesRow s (grownCap w s.size 0 5)).size+1))) 0:=by
  refine⟨(Below.drew (Below.refl _ _)).alloc (Nat.le_refl _) _,_,_,heap_alloc_new w.drew _,rfl,?_,fun j b hj => ?_⟩
  ·show s.data.size≤_
   unfold bytesRow;rw[Array.size_append];simp
  ·unfold bytesRow;have hlt:=(List.getElem?_eq_some_iff.1 hj).1
   rw[Array.getElem?_append_left (by simpa using hlt)]
   simp at hj;simp[hj]
 revert h0;generalize w.drew.alloc (.cells (bytesRow s (grownCap w s.size 0 5)) 5 ((bytesRow s (grownCap w s.size 0 5)).size,(bytesRow s (grownCap w s.size 0 5)).size+1))=w1;generalize grownCap w s.size 0 5=cap;intro h0;have H0:Hid (LowInv w s 5 w.heap.size cap w1 0):=h0
 clear h0;have hsn:s.data.toList.length=s.size:=by show _=s.data.size;simp
 go_wp2
 go_loopw [10] (fun vi wr=>∃ k:Nat,k≤s.size∧vi=.int .i64 k∧Hid (LowInv w s 5 w.heap.size cap wr k)) (fun vi _=>s.size - (RowKit.intOf vi).toNat)
 case atStart=>exact⟨0,Nat.zero_le _,rfl,H0⟩
 case round =>
  obtain⟨k,hk,rfl,HI⟩:=hrel;obtain⟨b,hb⟩:∃ b:UInt8,k<s.size→s.data.toList[k]? = some b:=by
   by_cases hlt:k<s.size
   ·exact⟨s.data.toList[k]'(by omega),fun _=>by simp⟩
   ·exact⟨0,fun h=>absurd h hlt⟩
  have hc:k<s.size→wr.cell? ⟨w.heap.size,k,none⟩=some (.int .u8 (b.toNat:Int)):=fun h=>by
   obtain⟨cur,N,h1,h2,h3,h4⟩:=HI.out.row;rw[aa h1,h4 k b (hb h),if_neg (by omega)]
  have hf:k<s.size→wr.frozen? ⟨w.heap.size,k,none⟩=false:=fun h=>by
   obtain⟨cur,N,h1,h2,h3,h4⟩:=HI.out.row;simp[World.frozen?,h1];omega
  have HB:Hid (k<s.size→s.data.toList[k]? = some b):=hb
  clear hb
  go_wp2
  ·have hlt:k<s.size:=by assumption
   go_roundw
   case rel=>exact⟨k+1,by omega,by go_num,by
    have h97:((b.toNat:Int)+97 - 65)=(b.toNat:Int)+32:=by omega
    rw[h97];exact HI.out.step (HB.out hlt) (by omega) (by omega)⟩
   case measure=>simp[RowKit.intOf];omega
  ·have hlt:k<s.size:=by assumption
   go_roundw
   case rel=>exact⟨k+1,by omega,by go_num,HI.out.skip (HB.out hlt) (by omega)⟩
   case measure=>simp[RowKit.intOf];omega
  ·have hlt:k<s.size:=by assumption
   go_roundw
   case rel=>exact⟨k+1,by omega,by go_num,HI.out.skip (HB.out hlt) (by omega)⟩
   case measure=>simp[RowKit.intOf];omega
  ·have hkn:k=s.size:=by omega
   obtain⟨hbel,cur,N,h3,h4,h5,h6⟩:=HI.out;rw[run_convert_bytes_string wr 69 9 5 _ _ _ (by exact Tryz.underlying69) (by exact Tryz.underlying5) (by exact Tryz.underlying9)]
   have hload:(loadCells ⟨w.heap.size,0,none⟩ s.size).run Tryz.prog wr=.ok ((s.data.toList.map fun b=>((lowB b).toNat:Int)).map (Value.int .u8)).toArray wr:=by
    have:=run_loadCells_list (P:=Tryz.prog) wr ⟨w.heap.size,0,none⟩ ((s.data.toList.map fun b=>((lowB b).toNat:Int)).map (Value.int .u8)) (fun j y hy=>by
     have hadd:(⟨w.heap.size,0,none⟩:Addr).add j=⟨w.heap.size,0+j,none⟩:=by simp only[Addr.add];split<;>simp_all
     rw[hadd];rw[List.getElem?_map,List.getElem?_map,Option.map_eq_some_iff] at hy
     obtain⟨n,hn,rfl⟩:=hy;rw[Option.map_eq_some_iff] at hn;obtain⟨c,hc',rfl⟩:=hn;have hjl:=(List.getElem?_eq_some_iff.1 hc').1
     rw[aa h3,Nat.zero_add,h6 j c hc',if_pos (by omega)])
    rw[←this];congr 2;simp
   rw[run_bytesToString wr _ _ _ _ hload];have hpush:=ga (s.data.toList.map fun b=>((lowB b).toNat:Int)) []
   have hmap:([]++(s.data.toList.map fun b=>((lowB b).toNat:Int)).map fun n=>UInt8.ofNat n.toNat)=s.data.toList.map lowB:=by
    rw[List.nil_append,List.map_map];exact List.map_congr_left fun b _=>by simp
   rw[hmap] at hpush;rw[show ByteArray.empty=ByteArray.mk [].toArray from rfl,hpush]
   simp only[Result.andThen];rw[Oper.upon_value]
   go_wp2
   go_ret
   exact⟨rfl,hbel⟩
def tZ:Prim
 | [.c (.pv (.str s))],[]=>if s.length<bz then some (.c (.pv (.str (s.map lowB))),[]) else none
 | _,_=>none
theorem xu {args:List AV} {bxs:List (List CV)} {x:AV×List (List CV)} (h:tZ args bxs=some x):Contract Tryz.prog 295 args bxs (.ret x.1 x.2):=by
 unfold tZ at h;split at h
 case h_2=>cases h
 rename_i s;split at h
 case isFalse=>cases h
 rename_i hs;cases h;refine bq fun G w cargs hw hargs => ?_
 obtain⟨x,rfl,hx⟩:=de hargs;cases hx.strv;refine(uV ⟨s.toArray⟩ w (by show s.toArray.size<_;simpa[bz] using hs)).mono ?_
 rintro e w' ⟨rfl,hb⟩
 exact⟨_,rfl,.str _,hb⟩
end Go.Abs
namespace Go.Abs
open Go Go.Proofs Go.RowKit
set_option maxRecDepth 100000 in
theorem tQ (s:ByteArray) (w:World) (hs:s.size<4611686018427387904) :
  Calls Tryz.prog 305 #[.string s] w fun e w'=>e=.returned (.string ⟨(s.data.toList.map lowB).toArray⟩)∧Below w.heap.size w w':=by
 go_enter Tryz.func305,Tryz.ntmps305
 go_wp2
 rw[run_bytes_of_string _ 9 69 5 s (by exact Tryz.underlying9) (by exact Tryz.underlying69) (by exact Tryz.underlying5)]
 simp only[Result.andThen];rw[Oper.upon_value];have h0:LowInv w s 5 w.heap.size (grownCap w s.size 0 5) (w.drew.alloc (.cells (bytesRow s (grownCap w s.size 0 5)) 5 ((bytesRow s (grownCap w s.size 0 5)).size,(bytesRow s (grownCap w s.size 0 5)).size+1))) 0:=by
  refine⟨(Below.drew (Below.refl _ _)).alloc (Nat.le_refl _) _,_,_,heap_alloc_new w.drew _,rfl,?_,fun j b hj => ?_⟩
  ·show s.data.size≤_
   unfold bytesRow;rw[Array.size_append];simp
  ·unfold bytesRow;have hlt:=(List.getElem?_eq_some_iff.1 hj).1
   rw[Array.getElem?_append_left (by simpa using hlt)]
   simp at hj;simp[hj]
 revert h0;generalize w.drew.alloc (.cells (bytesRow s (grownCap w s.size 0 5)) 5 ((bytesRow s (grownCap w s.size 0 5)).size,(bytesRow s (grownCap w s.size 0 5)).size+1))=w1;generalize grownCap w s.size 0 5=cap;intro h0;have H0:Hid (LowInv w s 5 w.heap.size cap w1 0):=h0
 clear h0;have hsn:s.data.toList.length=s.size:=by show _=s.data.size;simp
 go_wp2
 go_loopw [10] (fun vi wr=>∃ k:Nat,k≤s.size∧vi=.int .i64 k∧Hid (LowInv w s 5 w.heap.size cap wr k)) (fun vi _=>s.size - (RowKit.intOf vi).toNat)
 case atStart=>exact⟨0,Nat.zero_le _,rfl,H0⟩
 case round =>
  obtain⟨k,hk,rfl,HI⟩:=hrel;obtain⟨b,hb⟩:∃ b:UInt8,k<s.size→s.data.toList[k]? = some b:=by
   by_cases hlt:k<s.size
   ·exact⟨s.data.toList[k]'(by omega),fun _=>by simp⟩
   ·exact⟨0,fun h=>absurd h hlt⟩
  have hc:k<s.size→wr.cell? ⟨w.heap.size,k,none⟩=some (.int .u8 (b.toNat:Int)):=fun h=>by
   obtain⟨cur,N,h1,h2,h3,h4⟩:=HI.out.row;rw[aa h1,h4 k b (hb h),if_neg (by omega)]
  have hf:k<s.size→wr.frozen? ⟨w.heap.size,k,none⟩=false:=fun h=>by
   obtain⟨cur,N,h1,h2,h3,h4⟩:=HI.out.row;simp[World.frozen?,h1];omega
  have HB:Hid (k<s.size→s.data.toList[k]? = some b):=hb
  clear hb
  go_wp2
  ·have hlt:k<s.size:=by assumption
   go_roundw
   case rel=>exact⟨k+1,by omega,by go_num,by
    have h97:((b.toNat:Int)+97 - 65)=(b.toNat:Int)+32:=by omega
    rw[h97];exact HI.out.step (HB.out hlt) (by omega) (by omega)⟩
   case measure=>simp[RowKit.intOf];omega
  ·have hlt:k<s.size:=by assumption
   go_roundw
   case rel=>exact⟨k+1,by omega,by go_num,HI.out.skip (HB.out hlt) (by omega)⟩
   case measure=>simp[RowKit.intOf];omega
  ·have hlt:k<s.size:=by assumption
   go_roundw
   case rel=>exact⟨k+1,by omega,by go_num,HI.out.skip (HB.out hlt) (by omega)⟩
   case measure=>simp[RowKit.intOf];omega
  ·have hkn:k=s.size:=by omega
   obtain⟨hbel,cur,N,h3,h4,h5,h6⟩:=HI.out;rw[run_convert_bytes_string wr 69 9 5 _ _ _ (by exact Tryz.underlying69) (by exact Tryz.underlying5) (by exact Tryz.underlying9)]
   have hload:(loadCells ⟨w.heap.size,0,none⟩ s.size).run Tryz.prog wr=.ok ((s.data.toList.map fun b=>((lowB b).toNat:Int)).map (Value.int .u8)).toArray wr:=by
    have:=run_loadCells_list (P:=Tryz.prog) wr ⟨w.heap.size,0,none⟩ ((s.data.toList.map fun b=>((lowB b).toNat:Int)).map (Value.int .u8)) (fun j y hy=>by
     have hadd:(⟨w.heap.size,0,none⟩:Addr).add j=⟨w.heap.size,0+j,none⟩:=by simp only[Addr.add];split<;>simp_all
     rw[hadd];rw[List.getElem?_map,List.getElem?_map,Option.map_eq_some_iff] at hy
     obtain⟨n,hn,rfl⟩:=hy;rw[Option.map_eq_some_iff] at hn;obtain⟨c,hc',rfl⟩:=hn;have hjl:=(List.getElem?_eq_some_iff.1 hc').1
     rw[aa h3,Nat.zero_add,h6 j c hc',if_pos (by omega)])
    rw[←this];congr 2;simp
   rw[run_bytesToString wr _ _ _ _ hload];have hpush:=ga (s.data.toList.map fun b=>((lowB b).toNat:Int)) []
   have hmap:([]++(s.data.toList.map fun b=>((lowB b).toNat:Int)).map fun n=>UInt8.ofNat n.toNat)=s.data.toList.map lowB:=by
    rw[List.nil_append,List.map_map];exact List.map_congr_left fun b _=>by simp
   rw[hmap] at hpush;rw[show ByteArray.empty=ByteArray.mk [].toArray from rfl,hpush]
   simp only[Result.andThen];rw[Oper.upon_value]
   go_wp2
   go_ret
   exact⟨rfl,hbel⟩
def qP:Prim
 | [.c (.pv (.str s))],[]=>if s.length<bz then some (.c (.pv (.str (s.map lowB))),[]) else none
 | _,_=>none
theorem uh {args:List AV} {bxs:List (List CV)} {x:AV×List (List CV)} (h:qP args bxs=some x):Contract Tryz.prog 305 args bxs (.ret x.1 x.2):=by
 unfold qP at h;split at h
 case h_2=>cases h
 rename_i s;split at h
 case isFalse=>cases h
 rename_i hs;cases h;refine bq fun G w cargs hw hargs => ?_
 obtain⟨x,rfl,hx⟩:=de hargs;cases hx.strv;refine(tQ ⟨s.toArray⟩ w (by show s.toArray.size<_;simpa[bz] using hs)).mono ?_
 rintro e w' ⟨rfl,hb⟩
 exact⟨_,rfl,.str _,hb⟩
end Go.Abs
namespace Go.Abs
open Go Go.Proofs Go.RowKit
set_option maxRecDepth 100000 in
theorem tS (s:ByteArray) (w:World) (hs:s.size<4611686018427387904) :
  Calls Tryz.prog 102 #[.string s] w fun e w'=>e=.returned (.string ⟨(s.data.toList.map lowB).toArray⟩)∧Below w.heap.size w w':=by
 go_enter Tryz.func102,Tryz.ntmps102
 go_wp2
 rw[run_bytes_of_string _ 9 69 5 s (by exact Tryz.underlying9) (by exact Tryz.underlying69) (by exact Tryz.underlying5)]
 simp only[Result.andThen];rw[Oper.upon_value];have h0:LowInv w s 5 w.heap.size (grownCap w s.size 0 5) (w.drew.alloc (.cells (bytesRow s (grownCap w s.size 0 5)) 5 ((bytesRow s (grownCap w s.size 0 5)).size,(bytesRow s (grownCap w s.size 0 5)).size+1))) 0:=by
  refine⟨(Below.drew (Below.refl _ _)).alloc (Nat.le_refl _) _,_,_,heap_alloc_new w.drew _,rfl,?_,fun j b hj => ?_⟩
  ·show s.data.size≤_
   unfold bytesRow;rw[Array.size_append];simp
  ·unfold bytesRow;have hlt:=(List.getElem?_eq_some_iff.1 hj).1
   rw[Array.getElem?_append_left (by simpa using hlt)]
   simp at hj;simp[hj]
 revert h0;generalize w.drew.alloc (.cells (bytesRow s (grownCap w s.size 0 5)) 5 ((bytesRow s (grownCap w s.size 0 5)).size,(bytesRow s (grownCap w s.size 0 5)).size+1))=w1;generalize grownCap w s.size 0 5=cap;intro h0;have H0:Hid (LowInv w s 5 w.heap.size cap w1 0):=h0
 clear h0;have hsn:s.data.toList.length=s.size:=by show _=s.data.size;simp
 go_wp2
 go_loopw [10] (fun vi wr=>∃ k:Nat,k≤s.size∧vi=.int .i64 k∧Hid (LowInv w s 5 w.heap.size cap wr k)) (fun vi _=>s.size - (RowKit.intOf vi).toNat)
 case atStart=>exact⟨0,Nat.zero_le _,rfl,H0⟩
 case round =>
  obtain⟨k,hk,rfl,HI⟩:=hrel;obtain⟨b,hb⟩:∃ b:UInt8,k<s.size→s.data.toList[k]? = some b:=by
   by_cases hlt:k<s.size
   ·exact⟨s.data.toList[k]'(by omega),fun _=>by simp⟩
   ·exact⟨0,fun h=>absurd h hlt⟩
  have hc:k<s.size→wr.cell? ⟨w.heap.size,k,none⟩=some (.int .u8 (b.toNat:Int)):=fun h=>by
   obtain⟨cur,N,h1,h2,h3,h4⟩:=HI.out.row;rw[aa h1,h4 k b (hb h),if_neg (by omega)]
  have hf:k<s.size→wr.frozen? ⟨w.heap.size,k,none⟩=false:=fun h=>by
   obtain⟨cur,N,h1,h2,h3,h4⟩:=HI.out.row;simp[World.frozen?,h1];omega
  have HB:Hid (k<s.size→s.data.toList[k]? = some b):=hb
  clear hb
  go_wp2
  ·have hlt:k<s.size:=by assumption
   go_roundw
   case rel=>exact⟨k+1,by omega,by go_num,by
    have h97:((b.toNat:Int)+97 - 65)=(b.toNat:Int)+32:=by omega
    rw[h97];exact HI.out.step (HB.out hlt) (by omega) (by omega)⟩
   case measure=>simp[RowKit.intOf];omega
  ·have hlt:k<s.size:=by assumption
   go_roundw
   case rel=>exact⟨k+1,by omega,by go_num,HI.out.skip (HB.out hlt) (by omega)⟩
   case measure=>simp[RowKit.intOf];omega
  ·have hlt:k<s.size:=by assumption
   go_roundw
   case rel=>exact⟨k+1,by omega,by go_num,HI.out.skip (HB.out hlt) (by omega)⟩
   case measure=>simp[RowKit.intOf];omega
  ·have hkn:k=s.size:=by omega
   obtain⟨hbel,cur,N,h3,h4,h5,h6⟩:=HI.out;rw[run_convert_bytes_string wr 69 9 5 _ _ _ (by exact Tryz.underlying69) (by exact Tryz.underlying5) (by exact Tryz.underlying9)]
   have hload:(loadCells ⟨w.heap.size,0,none⟩ s.size).run Tryz.prog wr=.ok ((s.data.toList.map fun b=>((lowB b).toNat:Int)).map (Value.int .u8)).toArray wr:=by
    have:=run_loadCells_list (P:=Tryz.prog) wr ⟨w.heap.size,0,none⟩ ((s.data.toList.map fun b=>((lowB b).toNat:Int)).map (Value.int .u8)) (fun j y hy=>by
     have hadd:(⟨w.heap.size,0,none⟩:Addr).add j=⟨w.heap.size,0+j,none⟩:=by simp only[Addr.add];split<;>simp_all
     rw[hadd];rw[List.getElem?_map,List.getElem?_map,Option.map_eq_some_iff] at hy
     obtain⟨n,hn,rfl⟩:=hy;rw[Option.map_eq_some_iff] at hn;obtain⟨c,hc',rfl⟩:=hn;have hjl:=(List.getElem?_eq_some_iff.1 hc').1
     rw[aa h3,Nat.zero_add,h6 j c hc',if_pos (by omega)])
    rw[←this];congr 2;simp
   rw[run_bytesToString wr _ _ _ _ hload];have hpush:=ga (s.data.toList.map fun b=>((lowB b).toNat:Int)) []
   have hmap:([]++(s.data.toList.map fun b=>((lowB b).toNat:Int)).map fun n=>UInt8.ofNat n.toNat)=s.data.toList.map lowB:=by
    rw[List.nil_append,List.map_map];exact List.map_congr_left fun b _=>by simp
   rw[hmap] at hpush;rw[show ByteArray.empty=ByteArray.mk [].toArray from rfl,hpush]
   simp only[Result.andThen];rw[Oper.upon_value]
   go_wp2
   go_ret
   exact⟨rfl,hbel⟩
def lA:Prim
 | [.c (.pv (.str s))],[]=>if s.length<bz then some (.c (.pv (.str (s.map lowB))),[]) else none
 | _,_=>none
theorem vd {args:List AV} {bxs:List (List CV)} {x:AV×List (List CV)} (h:lA args bxs=some x):Contract Tryz.prog 102 args bxs (.ret x.1 x.2):=by
 unfold lA at h;split at h
 case h_2=>cases h
 rename_i s;split at h
 case isFalse=>cases h
 rename_i hs;cases h;refine bq fun G w cargs hw hargs => ?_
 obtain⟨x,rfl,hx⟩:=de hargs;cases hx.strv;refine(tS ⟨s.toArray⟩ w (by show s.toArray.size<_;simpa[bz] using hs)).mono ?_
 rintro e w' ⟨rfl,hb⟩
 exact⟨_,rfl,.str _,hb⟩
end Go.Abs
namespace Go.Abs
open Go Go.Proofs Go.RowKit
section
variable {P:Program}
theorem qA (w:World) (o o':Obj) : { w.alloc o with heap:=(w.alloc o).heap.setIfInBounds w.heap.size o' }=w.alloc o':=by
 simp only[World.alloc]
 congr 1
 apply Array.ext'
 simp[Array.setIfInBounds,Array.toList_push]
theorem gn {t key elem:TypeId} {k:IntKind} (ht:P.underlying t=some (.map key elem)) (hk:P.underlying key=some (.int k)) (w:World) (es:Array MapEntry) (clock:Nat) (n:Int) (v:Value)
  (hall:es.toList.all (fun e=>match e.key with|.int k' _=>k'==k|_=>false)=true) (hf:es.toList.find? (kU k n)=none) :
  (Instr.mapUpdate t (.map (some w.heap.size)) (.int k n) v).run P (w.alloc (.map es clock))=.ok () (w.alloc (.map (es.push { key:=.int k n,val:=v,born:=clock }) (clock+1))):=by
 have hh:(w.alloc (.map es clock)).heap[w.heap.size]? = some (.map es clock):=heap_alloc_new w _
 have hget:(getObj w.heap.size).run P (w.alloc (.map es clock))=.ok (.map es clock) (w.alloc (.map es clock)):=by simp only[getObj,Sem.run,hh]
 have hck:=lj (P:=P) (w:=w.alloc (.map es clock)) hk false 9999 (.int k n)
 have hnow:Instr.findNow (.int k) (.int k n) es.toList 0=some none:=by
  rcases jD (n:=n) 0 hall with⟨_,h2⟩|⟨e,j,h1,_⟩
  ·exact h2
  ·rw[hf] at h1;cases h1
 have hfind:(Instr.findKey key (.int k n) es.toList).run P (w.alloc (.map es clock))=.ok none (w.alloc (.map es clock)):=by
  unfold Instr.findKey;simp only[Sem.run_bind,run_underlying hk,Result.andThen_ok,hnow];rfl
 have hset:(setObj w.heap.size (.map (es.push { key:=.int k n,val:=v,born:=clock }) (clock+1))).run P (w.alloc (.map es clock))=.ok () (w.alloc (.map (es.push { key:=.int k n,val:=v,born:=clock }) (clock+1))):=by
  have:w.heap.size<(w.alloc (.map es clock)).heap.size:=by rw[am];omega
  simp only[setObj,Sem.run,hh];exact congrArg (Result.ok ()) (qA w _ _)
 unfold Instr.mapUpdate;simp only[Sem.run_bind,run_underlying ht,Result.andThen_ok,hget,hck,hfind,hset]
theorem jW {G:Gh} {w:World} {o:Option Own} (hw:WI G w) (ob:Obj) (ho:∀ s,o≠some (.box s)) :
  Gr (fun _=>False) G w { G with ow:=upd G.ow w.heap.size o } (w.alloc ob)∧WI { G with ow:=upd G.ow w.heap.size o } (w.alloc ob):=by
 refine⟨⟨⟨fun _ _ _ h=>h,fun c hc hn=>⟨?_,aA w _ c hc,fun k=>rfl⟩,by rw[am];omega,rfl,rfl,rfl,fun k hk=>rfl⟩,fun s b hb=>hb,fun b ℓ hb _=>⟨?_,aA w _ b (dU hw hb),fun k=>rfl⟩⟩,⟨fun b k y h => ?_,fun b hb => ?_,fun b s hb k => ?_,fun s b hb => ?_,hw.tab.map fun c hc hn=>⟨by show upd G.ow w.heap.size _ c=none;unfold upd;rw[if_neg (by omega)];exact hn,aA w _ c hc⟩⟩⟩
 ·show upd G.ow w.heap.size _ c=none
  unfold upd;rw[if_neg (by omega)];exact hn
 ·have:=dU hw hb
  show upd G.ow w.heap.size _ b=_
  unfold upd;rw[if_neg (by omega)];exact hb
 ·rw[dH w _ (I_lt hw h)];exact hw.cell b k y h
 ·rw[am] at hb;refine⟨fun k=>(hw.fresh b (by omega)).1 k,?_⟩
  show upd G.ow w.heap.size _ b=none
  unfold upd;rw[if_neg (by omega)];exact(hw.fresh b (by omega)).2
 ·have hb':upd G.ow w.heap.size o b=some (.box s):=hb
  unfold upd at hb';split at hb'
  ·exact absurd hb' (ho s)
  ·exact hw.boxI b s hb' k
 ·have h1:=hw.bbow s b hb
  have h2:=dU hw h1
  show upd G.ow w.heap.size _ b=_
  unfold upd;rw[if_neg (by omega)];exact h1
end
abbrev kf (a b:UInt8):Value:=.agg #[.string ⟨#[a]⟩,.string ⟨#[b]⟩]
def cE:List MapEntry:=[{ key:=.int .i64 2,val:=kf 40 41,born:=0 }, { key:=.int .i64 3,val:=kf 91 93,born:=1 }, { key:=.int .i64 4,val:=kf 123 125,born:=2 }]
set_option maxRecDepth 100000 in
theorem mz (w:World):Calls Tryz.prog 132 #[] w fun e w'=>e=.returned (.map (some w.heap.size))∧w'=w.alloc (.map cE.toArray 3):=by
 have ht:Tryz.prog.underlying 179=some (.map 3 177):=by kernel_rfl
 have hk:Tryz.prog.underlying 3=some (.int .i64):=by kernel_rfl
 have h1:=gn ht hk w #[] 0 2 (kf 40 41) rfl rfl
 have h2:=gn ht hk w #[{ key:=.int .i64 2,val:=kf 40 41,born:=0 }] 1 3 (kf 91 93) rfl rfl
 have h3:=gn ht hk w #[{ key:=.int .i64 2,val:=kf 40 41,born:=0 }, { key:=.int .i64 3,val:=kf 91 93,born:=1 }] 2 4 (kf 123 125) rfl rfl
 have hm:=run_makeMap_plain (P:=Tryz.prog) (w:=w) 179
 go_enter Tryz.func132,Tryz.ntmps132
 go_wp2
 go_ret
 exact⟨rfl,rfl⟩
def oh:Prim
 | [],[]=>some (.c (.cmap cE),[])
 | _,_=>none
theorem qd {args:List AV} {bxs:List (List CV)} {x:AV×List (List CV)} (h:oh args bxs=some x):Contract Tryz.prog 132 args bxs (.ret x.1 x.2):=by
 unfold oh at h;split at h
 case h_2=>cases h
 cases h
 intro G w cargs hw hargs _ _ _;cases hargs;refine(mz w).mono ?_
 rintro e w' ⟨rfl,rfl⟩
 obtain⟨g,hw'⟩:=jW (o:=some .ret) hw (.map cE.toArray 3) (fun s=>by simp)
 exact⟨_,g.ext,hw',_,rfl,⟨w.heap.size,3,rfl,by simp[upd],heap_alloc_new w _⟩,rfl,fun i l h=>by simp at h⟩
end Go.Abs
namespace Go.Abs
open Go Go.Proofs Go.RowKit Go.ChangeMaps
abbrev tokV (k:Int) (s:ByteArray) (n:Int):Value:=.agg #[.int .i64 k,.string s,.int .i64 n]
abbrev tokO (k:Int) (s:ByteArray) (n:Int):Obj:=.cells #[.int .i64 k,.string s,.int .i64 n] 56
set_option maxRecDepth 100000 in
theorem gM (s:ByteArray) (w:World):Calls Tryz.prog 133 #[.string s] w fun e w'=>e=.returned (tokV 7 s 0)∧w'=w.alloc (tokO 7 s 0):=by
 have mixed:Tryz.prog.follows .mixedOrders=true:=by kernel_rfl
 go_enter Tryz.func133,Tryz.ntmps133
 go_wp2
 exact bodyPost_ret (v:=tokV 7 s 0) (by simp[results,Tryz.results133,go_sem]) rfl ⟨rfl,rfl⟩
def iR (n:Int):ByteArray:=if n=2 then⟨#[40]⟩ else if n=3 then⟨#[91]⟩ else⟨#[123]⟩
def ky (k:Int) (s:ByteArray) (n:Int):Int :=
 if k=2 then 5 else if k=7∧n=0 then(if s=⟨#[40]⟩ then 2 else if s=⟨#[91]⟩ then 3 else if s=⟨#[123]⟩ then 4 else 0) else 0
structure Loop1 (w wr:World) (k:Int) (s:ByteArray) (n:Int) (since:Nat) (seen:Array Nat) (c0:Nat):Prop where
 bel:Below w.heap.size w wr
 tok:wr.heap[w.heap.size]? = some (tokO k s n)
 map:wr.heap[w.heap.size+1]? = some (.map cE.toArray 3)
 it:wr.heap[w.heap.size+2]? = some (.mapIter (some (w.heap.size+1)) since seen c0)
 since3:since=3∧c0=3
 no:∀ x∈cE,seen.contains x.born=true→∀ m,x.key=.int .i64 m→¬ (k=7∧s=iR m∧n=0)
set_option maxRecDepth 100000 in
theorem so (k:Int) (s:ByteArray) (n:Int) (w:World):Calls Tryz.prog 208 #[tokV k s n] w fun e w'=>e=.returned (.int .i64 (ky k s n))∧Below w.heap.size w w':=by
 have mixed:Tryz.prog.follows .mixedOrders=true:=by kernel_rfl
 have e30:∀ args w,(callFunc 132 args).run Tryz.prog w=.ok (.enter 132 args) w:=enters_of Tryz.func132 (by kernel_rfl) rfl
 have e31:∀ args w,(callFunc 133 args).run Tryz.prog w=.ok (.enter 133 args) w:=enters_of Tryz.func133 (by kernel_rfl) rfl
 have ut:Tryz.prog.underlying 179=some (.map 3 177):=by kernel_rfl
 by_cases h2:k=2
 ·subst h2
  go_enter Tryz.func208,Tryz.ntmps208
  go_wp2
  go_ret
  exact⟨rfl,(Below.refl _ _).alloc (Nat.le_refl _) _⟩
 ·have hk:(k==2)=false:=by simpa using h2
  have hrg:=run_range_map (P:=Tryz.prog) ((w.alloc (tokO k s n)).alloc (.map cE.toArray 3)) 179 3 177 (w.heap.size+1) cE.toArray 3 ut (by
   have:=heap_alloc_new (w.alloc (tokO k s n)) (.map cE.toArray 3)
   rwa [am] at this)
  go_enter Tryz.func208,Tryz.ntmps208
  go_wp2_with (go_at_call 132;refine(mz _).mono ?_;rintro e w' ⟨rfl,rfl⟩)
  go_loopw [] (fun wr=>∃ since seen c0,Loop1 w wr k s n since seen c0) (fun wr=>(leftOf cE.toArray (wr.iterSeen (w.heap.size+2))).size)
  case atStart =>
   refine⟨3, #[],3,?_⟩
   have a1:∀ (w:World) (o:Obj) (i:Nat),i<w.heap.size→(w.alloc o).heap[i]? = w.heap[i]? := fun w o i h=>aA w o i h
   refine⟨(((Below.refl _ _).alloc (Nat.le_refl _) _).alloc (by simp) _).alloc (by simp;omega) _,?_,?_,?_,⟨rfl,rfl⟩,fun x hx h=>by simp at h⟩
   ·rw[a1 _ _ _ (by simp;omega),a1 _ _ _ (by simp),heap_alloc_new]
   ·rw[a1 _ _ _ (by simp)]
    have:=heap_alloc_new (w.alloc (tokO k s n)) (.map cE.toArray 3)
    rwa [am] at this
   ·have:=heap_alloc_new ((w.alloc (tokO k s n)).alloc (.map cE.toArray 3)) (.mapIter (some (w.heap.size+1)) 3 #[] 3)
    rwa [am,am] at this
  case round =>
   obtain⟨since,seen,c0,hl⟩:=hrel;rcases run_next_at (P:=Tryz.prog) wr 0 (w.heap.size+2) (w.heap.size+1) since c0 seen cE.toArray 3 hl.it hl.map (by rw[hl.since3.1];decide) (by rw[hl.since3.1,hl.since3.2];decide) with⟨h0,hrun⟩|⟨e,he,w1,hw1,hrun⟩
   ·have hnx:∀ ty,(Instr.next (.pointer (some ⟨w.heap.size+2,0,none⟩)) false ty).run Tryz.prog wr=_:=fun _=>hrun
    go_wp2
    go_ret
    refine⟨?_,hl.bel⟩
    have hs:∀ x∈cE,seen.contains x.born=true:=fun x hx=>all_seen cE.toArray seen h0 x (by simpa using hx)
    have n2:¬ (k=7∧s=⟨#[40]⟩∧n=0):=hl.no _ (List.mem_cons_self) (hs _ List.mem_cons_self) 2 rfl
    have n3:¬ (k=7∧s=⟨#[91]⟩∧n=0):=hl.no _ (List.mem_cons_of_mem _ List.mem_cons_self) (hs _ (List.mem_cons_of_mem _ List.mem_cons_self)) 3 rfl
    have n4:¬ (k=7∧s=⟨#[123]⟩∧n=0):=hl.no _ (List.mem_cons_of_mem _ (List.mem_cons_of_mem _ List.mem_cons_self)) (hs _ (List.mem_cons_of_mem _ (List.mem_cons_of_mem _ List.mem_cons_self))) 4 rfl
    unfold ky;rw[if_neg h2];by_cases hkn:k=7∧n=0
    ·rw[if_pos hkn];have m2:¬ s=⟨#[40]⟩:=fun h=>n2 ⟨hkn.1,h,hkn.2⟩
     have m3:¬ s=⟨#[91]⟩:=fun h=>n3 ⟨hkn.1,h,hkn.2⟩
     have m4:¬ s=⟨#[123]⟩:=fun h=>n4 ⟨hkn.1,h,hkn.2⟩
     rw[if_neg m2,if_neg m3,if_neg m4];rfl
    ·rw[if_neg hkn];rfl
   ·have hmem:e∈cE:=by simpa using (mem_left he).1
    obtain⟨m,a,b,hkey,hval,hfm,hm3⟩:∃ m a b,e.key=.int .i64 m∧e.val=kf a b∧iR m=⟨#[a]⟩∧(m=2∨m=3∨m=4):=by
     simp only[cE,List.mem_cons,List.not_mem_nil,or_false] at hmem;rcases hmem with rfl|rfl|rfl
     ·exact⟨2,40,41,rfl,rfl,rfl,.inl rfl⟩
     ·exact⟨3,91,93,rfl,rfl,rfl,.inr (.inl rfl)⟩
     ·exact⟨4,123,125,rfl,rfl,rfl,.inr (.inr rfl)⟩
    have hr1:w1.heap=wr.heap:=by rcases hw1 with rfl|rfl<;>rfl
    obtain⟨W2,hW2⟩:∃ W,W=setBlock w1 (w.heap.size+2) (.mapIter (some (w.heap.size+1)) since (seen.push e.born) 3):=⟨_,rfl⟩
    rw[←hW2,hkey,hval] at hrun;have hh:∀ i,i≠w.heap.size+2→W2.heap[i]? = wr.heap[i]? := by
     intro i hi;subst hW2
     show (w1.heap.setIfInBounds _ _)[i]? = _
     rw[Array.getElem?_setIfInBounds_ne (by omega),hr1]
    have hit:W2.heap[w.heap.size+2]? = some (.mapIter (some (w.heap.size+1)) since (seen.push e.born) 3):=by
     subst hW2
     show (w1.heap.setIfInBounds _ _)[w.heap.size+2]? = _
     have:w.heap.size+2<w1.heap.size:=by rw[hr1];exact(Array.getElem?_eq_some_iff.1 hl.it).1
     rw[Array.getElem?_setIfInBounds_self_of_lt this]
    have hbel2:Below w.heap.size w W2:=by
     refine hl.bel.trans ?_
     subst hW2;refine⟨?_,?_,?_,?_,fun i hi => ?_⟩
     ·rcases hw1 with rfl|rfl<;>rfl
     ·rcases hw1 with rfl|rfl<;>rfl
     ·rcases hw1 with rfl|rfl<;>rfl
     ·show wr.heap.size≤(w1.heap.setIfInBounds _ _).size
      rw[Array.size_setIfInBounds,hr1];exact Nat.le_refl _
     ·exact hh i (by omega)
    have hnx:∀ ty,(Instr.next (.pointer (some ⟨w.heap.size+2,0,none⟩)) false ty).run Tryz.prog wr=_:=fun _=>hrun
    have hen:=run_entry_at (P:=Tryz.prog) W2 (w.heap.size+2) (w.heap.size+1) since seen cE.toArray 3 e hit ((hh _ (by omega)).trans hl.map) (by simpa using hmem) (by decide)
    rw[hkey,hval] at hen;have c0':∀ j,W2.cell? ⟨w.heap.size,j,none⟩=wr.cell? ⟨w.heap.size,j,none⟩:=fun j=>by simp only[World.cell?,hh w.heap.size (by omega)]
    have hc:∀ j v,(tokV k s n).cells[j]? = some v→W2.cell? ⟨w.heap.size,j,none⟩=some v:=by
     intro j v h;rw[c0' j];simp only[World.cell?,hl.tok]
     exact h
    have hen1:(Instr.entry (.pointer (some ⟨w.heap.size+1+1,0,none⟩))).run Tryz.prog W2=_:=hen
    have hsz:W2.heap.size=wr.heap.size:=by
     rw[hW2]
     show (w1.heap.setIfInBounds _ _).size=_
     rw[Array.size_setIfInBounds,hr1]
    have htok:=(hh w.heap.size (by omega)).trans hl.tok
    have hmap:=(hh (w.heap.size+1) (by omega)).trans hl.map
    have hrel0:∀ o o',(((W2.alloc o).alloc o').drew).heap[w.heap.size+2]? = some (.mapIter (some (w.heap.size+1)) since (seen.push e.born) 3):=fun o o' =>
     ((aA (W2.alloc o) o' _ (by rw[am];have:=(Array.getElem?_eq_some_iff.1 hit).1;omega)).trans (aA W2 o _ (Array.getElem?_eq_some_iff.1 hit).1)).trans hit
    have hlt:w.heap.size<W2.heap.size:=(Array.getElem?_eq_some_iff.1 ((hh w.heap.size (by omega)).trans hl.tok)).1
    have d1:∀ (o:Obj) j,((W2.alloc o).drew).cell? ⟨w.heap.size,j,none⟩=W2.cell? ⟨w.heap.size,j,none⟩:=fun o j=>World.cell?_alloc_past _ _ _ hlt
    have d2:∀ (o o':Obj) j,(((W2.alloc o).drew.alloc o')).cell? ⟨w.heap.size,j,none⟩=W2.cell? ⟨w.heap.size,j,none⟩:=fun o o' j=>(World.cell?_alloc_past _ _ _ (by simp;omega)).trans (d1 o j)
    have d10:∀ (o:Obj),((W2.alloc o).drew).cell? ⟨w.heap.size,0,none⟩=some (.int .i64 k):=fun o=>(d1 o 0).trans (hc 0 _ rfl)
    have d11:∀ (o:Obj),((W2.alloc o).drew).cell? ⟨w.heap.size,1,none⟩=some (.string s):=fun o=>(d1 o 1).trans (hc 1 _ rfl)
    have d12:∀ (o:Obj),((W2.alloc o).drew).cell? ⟨w.heap.size,2,none⟩=some (.int .i64 n):=fun o=>(d1 o 2).trans (hc 2 _ rfl)
    have d20:∀ (o o':Obj),((W2.alloc o).drew.alloc o').cell? ⟨w.heap.size,0,none⟩=some (.int .i64 k):=fun o o'=>(d2 o o' 0).trans (hc 0 _ rfl)
    have d21:∀ (o o':Obj),((W2.alloc o).drew.alloc o').cell? ⟨w.heap.size,1,none⟩=some (.string s):=fun o o'=>(d2 o o' 1).trans (hc 1 _ rfl)
    have d22:∀ (o o':Obj),((W2.alloc o).drew.alloc o').cell? ⟨w.heap.size,2,none⟩=some (.int .i64 n):=fun o o'=>(d2 o o' 2).trans (hc 2 _ rfl)
    have d30:∀ (o o':Obj),((W2.alloc o).alloc o').drew.cell? ⟨w.heap.size,0,none⟩=some (.int .i64 k):=d20
    have d31:∀ (o o':Obj),((W2.alloc o).alloc o').drew.cell? ⟨w.heap.size,1,none⟩=some (.string s):=d21
    have d32:∀ (o o':Obj),((W2.alloc o).alloc o').drew.cell? ⟨w.heap.size,2,none⟩=some (.int .i64 n):=d22
    clear d1 d2 hc c0' hh;have hrel':∀ o o', ¬ (k=7∧s=iR m∧n=0)→Loop1 w ((W2.alloc o).alloc o').drew k s n since (seen.push e.born) c0:=by
     intro o o' hne;have hl2:W2.heap.size=wr.heap.size:=hsz
     have hp:∀ i,i<W2.heap.size→(((W2.alloc o).alloc o').drew).heap[i]? = W2.heap[i]? := fun i hi =>
      (aA (W2.alloc o) o' i (by rw[am];omega)).trans (aA W2 o i hi)
     have l2:w.heap.size+2<W2.heap.size:=(Array.getElem?_eq_some_iff.1 hit).1
     refine⟨Below.drew ((hbel2.alloc (by omega) _).alloc (by simp;omega) _),?_,?_,?_,hl.since3,?_⟩
     ·rw[hp _ (by omega)];exact htok
     ·rw[hp _ (by omega)];exact hmap
     ·rw[hp _ l2,hit,hl.since3.2]
     ·intro x hx hc' m' hm';rw[contains_push] at hc';rcases Bool.or_eq_true _ _▸hc' with h1|h1
      ·exact hl.no x hx h1 m' hm'
      ·have hxe:x=e:=born_inj (l:=cE) (by decide) hx hmem (beq_iff_eq.1 h1)
       subst hxe;rw[hkey] at hm';cases hm';exact hne
    have hmea:∀ o o',(leftOf cE.toArray ((((W2.alloc o).alloc o').drew).iterSeen (w.heap.size+2))).size<(leftOf cE.toArray (wr.iterSeen (w.heap.size+2))).size:=by
     intro o o';have hi:=(hrel0 o o')
     have h1:(((W2.alloc o).alloc o').drew).iterSeen (w.heap.size+2)=seen.push e.born:=by
      unfold World.iterSeen;rw[hi]
     have h2:wr.iterSeen (w.heap.size+2)=seen:=by
      unfold World.iterSeen;rw[hl.it]
     rw[h1,h2];exact left_shrinks cE.toArray seen e he
    have hopen:k=7→s.toList=[a]→n=0→ky k s n=m:=by
     intro e1 e2 e3;have e4:s=iR m:=by
      rw[hfm];rw[ByteArray.toList_eq] at e2
      obtain⟨⟨x⟩⟩:=s;simp only at e2
      rw[e2]
     unfold ky;rw[if_neg h2,if_pos ⟨e1,e3⟩,e4];rcases hm3 with rfl|rfl|rfl<;>rfl
    have hsz2:w.heap.size≤W2.heap.size:=by omega
    clear hW2 hsz htok hmap hrel0 hr1 hit hlt
    go_wp2
    clear hrun hnx hen hen1;cases h7:(k==7)
    ·have hne:¬ (k=7∧s=iR m∧n=0):=fun h=>by simp[h.1] at h7
     go_region_with (go_at_call 133;refine(gM _ _).mono ?_;rintro e w' ⟨rfl,rfl⟩)
     all_goals
      go_wp2
      exact⟨⟨_,_,_,_,_,_,_,_,_,_,_,_,_,_,⟨since,_,c0,hrel' _ _ hne⟩,rfl⟩,hmea _ _⟩
    ·by_cases hs:s.toList=[a]
     ·by_cases hn:n=0
      ·have hans:ky k s n=m:=hopen (by simpa using h7) hs hn
       go_region_with (go_at_call 133;refine(gM _ _).mono ?_;rintro e w' ⟨rfl,rfl⟩)
       all_goals
        go_wp2
        go_ret
        refine⟨by rw[hans];rfl,Below.drew ((hbel2.alloc hsz2 _).alloc (by simp;omega) _)⟩
      ·have hne:¬ (k=7∧s=iR m∧n=0):=fun h=>hn h.2.2
       go_region_with (go_at_call 133;refine(gM _ _).mono ?_;rintro e w' ⟨rfl,rfl⟩)
       all_goals
        go_wp2
        exact⟨⟨_,_,_,_,_,_,_,_,_,_,_,_,_,_,⟨since,_,c0,hrel' _ _ hne⟩,rfl⟩,hmea _ _⟩
     ·have hne:¬ (k=7∧s=iR m∧n=0):=fun h=>hs (by rw[h.2.1,hfm,ByteArray.toList_eq])
      go_region_with (go_at_call 133;refine(gM _ _).mono ?_;rintro e w' ⟨rfl,rfl⟩)
      all_goals
       go_wp2
       exact⟨⟨_,_,_,_,_,_,_,_,_,_,_,_,_,_,⟨since,_,c0,hrel' _ _ hne⟩,rfl⟩,hmea _ _⟩
theorem wK (k:Int) (s:List UInt8) (n:Int):ky k ⟨s.toArray⟩ n=kH k s n:=by
 have h:∀ l:List UInt8,((⟨s.toArray⟩:ByteArray)=⟨l.toArray⟩)=(s=l):=fun l=>by
  apply propext
  constructor
  ·intro h;injection h with h;simpa using h
  ·intro h;rw[h]
 have h1:=h [40]
 have h2:=h [91]
 have h3:=h [123]
 unfold ky kH;simp only[h1,h2,h3]
def rh:Prim
 | [.agg [.pv (.int .i64 k),.pv (.str s),.pv (.int .i64 n)]],[]=>some (.c (.pv (.int .i64 (kH k s n))),[])
 | _,_=>none
theorem xO {args:List AV} {bxs:List (List CV)} {x:AV×List (List CV)} (h:rh args bxs=some x):Contract Tryz.prog 208 args bxs (.ret x.1 x.2):=by
 unfold rh at h;split at h
 case h_2=>cases h
 rename_i k s n;cases h;refine bq fun G w cargs hw hargs => ?_
 obtain⟨x,rfl,hx⟩:=de hargs;obtain⟨xs,rfl,hxs⟩:∃ xs:List Value,x=.agg xs.toArray∧All2 (RN G) [.pv (.int .i64 k),.pv (.str s),.pv (.int .i64 n)] xs:=hx
 cases hxs with
 | cons ha hxs =>
 cases hxs with
 | cons hb hxs =>
 cases hxs with
 | cons hc hxs =>
 cases hxs
 cases (RA.of_RN (w:=w) (ℓ:=.ret) ha).intv
 cases (RA.of_RN (w:=w) (ℓ:=.ret) hb).strv
 cases (RA.of_RN (w:=w) (ℓ:=.ret) hc).intv
 refine(so k ⟨s.toArray⟩ n w).mono ?_
 rintro e w' ⟨rfl,hb⟩
 rw[wK];exact⟨_,rfl,.int _ _,hb⟩
end Go.Abs
namespace Go.Abs
open Go Go.Proofs
set_option maxRecDepth 10000
attribute [local go_sem] cG cj bF bH cF cf ce ay aV aR bw bU bg opd avOf cvOf St.degAt St.put okPV dr okAV cQ cR cP cv aj if_true Bool.false_eq_true if_false Option.map_some Option.map_none Option.bind_some Option.bind_none du dh upd List.toList_toArray bC steal aH mvB cX cw bR AV.deg CV.deg AV.gv AV.isIter co cg bG List.length_nil List.length_cons List.filterMap_cons List.filterMap_nil beq_iff_eq List.getElem?_cons_zero List.getElem?_cons_succ Option.getD_some Bool.false_and Bool.and_false Bool.and_self bv bO aJ lend back idx dedup AV.ren CV.ren TV.ren AV.ptrs CV.ptrs ck AV.flat CV.flat bL bu az bV cz dK bD ar bK aQ bd bt aP dV CV.pv? content aN ownT aD reps pvs chunks aZ leave dT bW cN bf aK TV.deg TV.av LK CV.plain CV.noBld cq dS bound List.map_cons List.map_nil List.all_cons List.all_nil List.any_cons List.any_nil List.contains_cons List.contains_nil List.elem_cons List.elem_nil List.cons_append List.nil_append List.append_nil List.flatMap_cons List.flatMap_nil List.zip_cons_cons List.zip_nil_left List.zip_nil_right List.take_succ_cons List.take_zero List.take_nil List.drop_succ_cons List.drop_zero List.drop_nil List.isEmpty_nil List.isEmpty_cons Bool.and_true Bool.true_and Bool.or_true Bool.true_or Bool.or_false Bool.false_or Bool.not_true Bool.not_false Nat.add_zero Nat.zero_add Option.isNone_none Option.isNone_some Option.getD_none true_and and_true not_true_eq_false not_false_eq_true decide_true decide_false Nat.le_refl and_self Bool.not_eq_true Nat.sub_self or_true true_or Option.some.injEq List.length_map List.nil_eq and_false false_and AV.live CV.live CV.liveIn ax Option.orElse_some Option.orElse_none head aI aF Int.lt_irrefl List.length_append ite_self dt br bZ aY Key.clash Key.sees Key.writes Nat.lt_irrefl gt_iff_lt ci dp false_or or_false beq_self_eq_true Bool.true_beq Bool.false_beq
def keep0 (f r:Nat):List Nat×List Nat:=if f==252&&r==18 then([1,45],[]) else if f==285&&r==38 then([175],[]) else if f==285&&r==5 then([0,7,8,9],[]) else([],[])
def pr0 (f:Nat):Option Prim:=if f==155 then some eR else none
noncomputable def K0:Cfg := { P:=Tryz.prog,pr:=pr0,keep:=keep0,ownRet:=fun _=>false,good:=[252,286,285,313,155].contains,hook:=fun _ _=>false }
theorem gP (f:FuncId):K0.ownRet f=false:=rfl
theorem Cg (f i:Nat):K0.hook f i=false:=rfl
theorem region0 (f:FuncId) (id:Nat) (ops:Array Oper) (draw:Bool) (S:St):exL K0 f (.region id ops draw) S=ay K0 (den K0) ops.toList draw S:=bA f id ops draw S (Cg f id)
theorem K0_P:K0.P=Tryz.prog:=rfl
theorem jP (f r:Nat):K0.keep f r=keep0 f r:=rfl
theorem mw:keep0 252 18=([1,45],[]):=by decide
theorem oD:keep0 285 5=([0,7,8,9],[]):=by decide
theorem yC:K0.good 286=true:=rfl
theorem tT:K0.good 285=true:=rfl
theorem tz:K0.good 313=true:=rfl
theorem oS:K0.good 155=true:=rfl
theorem gp:bm Tryz.prog 9=some .str:=by kernel_rfl
theorem vS:bm Tryz.prog 21=some (.int .i32):=by kernel_rfl
theorem BB:bm Tryz.prog 5=some (.int .u8):=by kernel_rfl
theorem jm {f:FuncId} {fn:Func} {x:Code} {nt:Nat} {args:List AV} {bxs:List (List CV)} {r:Res} (hp:pr0 f=none) (hf:Tryz.prog.funcs[f]? = some fn) (hx:fn.body=some x) (hn:fn.ntmps=nt)
  (hl:args.length≤nt∧nt<LK) (h:(exL K0 f x (aZ nt args bxs)).bind (fun r=>leave K0 f fn bxs.length (some r))=some r):den K0 f args bxs=some r:=by
 rw[rH (K:=K0) hp rfl hf hx,hn,if_pos hl];exact h
theorem zR (n:Int):den K0 286 [.c (.pv (.int .i64 n))] []=some (.ret (.c (.pv (.bool (decide (8<n))))) []):=by
 refine jm rfl Tryz.func286 rfl Tryz.ntmps286 ⟨by simp,by simp[LK]⟩ ?_
 have hr:Tryz.f286.results=#[.tmp 2]:=rfl
 simp only[go_sem,reduceLT,reduceCtorEq,reduceEqDiff,Nat.reduceBEq,reduceAdd,region0,gP,K0_P,hr]
theorem pL (s:List UInt8) (c:Int):den K0 155 [.c (.pv (.str s)),.c (.pv (.int .u8 c))] []=some (.ret (.c (.pv (.int .i64 (Lib.indexByte s c.toNat.toUInt8)))) []):=by
 rw[pi (K:=K0) (F:=eR) rfl];rfl
theorem vo (r:Int):den K0 313 [.c (.pv (.int .i32 r))] []=some (.ret (.c (.pv (.bool (Utf8.valid r)))) []):=by
 refine jm rfl Tryz.func313 rfl Tryz.ntmps313 ⟨by simp,by simp[LK]⟩ ?_
 have hr:Tryz.f313.results=#[.tmp 2]:=rfl
 have e:Utf8.valid r=((decide (0≤r)&&decide (r<55296))||(decide (57343<r)&&decide (r≤1114111))):=by
  unfold Utf8.valid;have:decide (57344≤r)=decide (57343<r):=decide_eq_decide.2 (by omega)
  rw[←this]
 rw[e];cases b1:decide (0≤r)<;>cases b2:decide (r<55296)<;>cases b3:decide (57343<r)<;>cases b4:decide (r≤1114111)<;>simp only[go_sem,reduceLT,reduceCtorEq,reduceEqDiff,Nat.reduceBEq,reduceAdd,region0,gP,K0_P,hr,b1,b2,b3,b4]
abbrev eN:List UInt8:=[10,12,13]
theorem yQ:bQ K0 40 285 [.c (.pv (.str eN)),.c (.pv (.int .i32 65533))] []=some (.ret (.c (.pv (.int .i64 (-1)))) []):=by kernel_rfl
theorem qv {c:UInt8} (h:128≤c.toNat):∀ l:List UInt8,(∀ b∈l,b.toNat<128)→Lib.indexByte l c = -1
 | [],_=>rfl
 | b::l,hl=>by
  have hb:(b==c)=false:=by
   rw[beq_eq_false_iff_ne];intro e;have:=hl b (by simp);rw[e] at this;omega
  rw[Lib.indexByte,hb,qv h l fun x hx=>hl x (by simp[hx])]
  rfl
set_option maxRecDepth 100000 in
theorem xx (r:Int) (h:0≤r∧r≤2147483647):den K0 285 [.c (.pv (.str eN)),.c (.pv (.int .i32 r))] []=some (.ret (.c (.pv (.int .i64 (if r<128 then Lib.indexByte eN r.toNat.toUInt8 else -1)))) []):=by
 have hr:Tryz.f285.results=#[.tmp 4]:=rfl
 have h0:decide (0≤r)=true:=decide_eq_true h.1
 by_cases h1:r<128
 ·have d1:decide (r<128)=true:=decide_eq_true h1
  have w1:IntKind.u8.wrap r=r:=IntWalk.u8_in _ (by omega)
  have hb:=pL eN r
  refine jm rfl Tryz.func285 rfl Tryz.ntmps285 ⟨by simp,by simp[LK]⟩ ?_
  simp only[go_sem,reduceLT,reduceCtorEq,reduceEqDiff,Nat.reduceBEq,reduceAdd,region0,gP,K0_P,hr,h0,h1,w1,hb,oS,cZ vS BB]
 ·have d1:decide (r<128)=false:=decide_eq_false h1
  rw[if_neg h1];by_cases h2:r=65533
  ·subst h2;exact dL.2 ⟨40,yQ⟩
  ·have d2:(r==65533)=false:=by simpa using h2
   have hv:=vo r
   refine jm rfl Tryz.func285 rfl Tryz.ntmps285 ⟨by simp,by simp[LK]⟩ ?_
   cases h3:Utf8.valid r
   ·rw[h3] at hv;simp only[go_sem,reduceLT,reduceCtorEq,reduceEqDiff,Nat.reduceBEq,reduceAdd,region0,gP,K0_P,hr,h0,d1,d2,hv,tz]
   ·rw[h3] at hv;obtain⟨e2,e4,elast⟩:=encode_facts r h3 (by omega)
    have hsz:(Utf8.encode r).size=(Utf8.encode r).data.toList.length:=Lib.size_eq _
    have hlast:∃ c:UInt8,(Utf8.encode r).data.toList[(Utf8.encode r).data.toList.length - 1]? = some c∧128≤c.toNat:=by
     have hx:(Utf8.encode r).data.toList.length - 1<(Utf8.encode r).data.toList.length:=by omega
     refine⟨_,List.getElem?_eq_getElem hx,?_⟩
     have:=elast (by rw[hsz];exact hx)
     have e:(Utf8.encode r)[(Utf8.encode r).size - 1]'(by rw[hsz];exact hx)=(Utf8.encode r).data.toList[(Utf8.encode r).data.toList.length - 1]'hx:=by
      simp only[hsz];rfl
     rw[e] at this
     exact this
    rw[hsz] at e2 e4
    clear elast hsz;generalize ht:(Utf8.encode r).data.toList=t at e2 e4 hlast
    obtain⟨c,hl,hc⟩:=hlast;have hneg:decide ((-1:Int)<0)=true:=by decide
    have hcb:(c.toNat:Int).toNat.toUInt8=c:=by simp
    have hm:∀ l:List UInt8,(∀ b∈l,b.toNat<128)→Lib.indexByte l c = -1:=fun l=>qv hc l
    have hy:∀ l:List UInt8,(∀ b∈l,b.toNat<128)→den K0 155 [.c (.pv (.str l)),.c (.pv (.int .u8 c.toNat))] []=some (.ret (.c (.pv (.int .i64 (-1)))) []):=fun l hl=>by
     rw[pL,hcb,hm l hl]
    have hne:∀ b:UInt8,b.toNat<128→((b.toNat:Int) != (c.toNat:Int))=true:=fun b hb=>by rw[bne_iff_ne];omega
    have w1:IntKind.i64.wrap 1=1:=by decide
    have w2:IntKind.i64.wrap 2=2:=by decide
    have w3:IntKind.i64.wrap 3=3:=by decide
    have w4:IntKind.i64.wrap 4=4:=by decide
    have y1:=hy [13] (by decide)
    have y2:=hy [] (by simp)
    have n1:((12:Int)=(c.toNat:Int))=False:=eq_false (by omega)
    have n2:((13:Int)=(c.toNat:Int))=False:=eq_false (by omega)
    simp only[go_sem,reduceLT,reduceCtorEq,reduceEqDiff,Nat.reduceBEq,reduceAdd,region0,gP,K0_P,hr,h0,d1,d2,hv,tz,rD vS gp,ht,cy gp];rw[aB];rcases t with _|⟨a,_|⟨b,_|⟨d,_|⟨e,_|⟨e',t⟩⟩⟩⟩⟩
    ·exact absurd e2 (by rw[List.length_nil];omega)
    ·exact absurd e2 (by rw[List.length_cons,List.length_nil];omega)
    ·
     obtain rfl:b=c:=by simpa using hl
     simp[go_sem,reduceLT,reduceCtorEq,reduceEqDiff,reduceAdd,region0,gP,jP,oD,K0_P,oS,cy gp,fk gp,ai gp,w1,w2,y1,n1,reach,eN]
    ·
     obtain rfl:d=c:=by simpa using hl
     simp[go_sem,reduceLT,reduceCtorEq,reduceEqDiff,reduceAdd,region0,gP,jP,oD,K0_P,oS,cy gp,fk gp,ai gp,w2,w3,y2,n2,reach,eN]
    ·
     obtain rfl:e=c:=by simpa using hl
     simp[go_sem,reduceLT,reduceCtorEq,reduceEqDiff,reduceAdd,region0,jP,oD,K0_P,cy gp,w3,eN]
    ·exact absurd e4 (by simp only[List.length_cons];omega)
end Go.Abs
namespace Go.Abs
open Go Go.Proofs Go.RowKit Go.Shelf
theorem sr (n:Nat) (w:World) (hn:n≤1000000000) :
  Calls Tryz.prog 333 #[.slice none 0 0,.int .i64 n] w fun e w'=>∃ v',e=.returned v'∧w'.ownsRow w.heap.size 58 5 v' 0 []∧Below w.heap.size w w':=by
 obtain⟨i,z,hi,hz,hzs,hs,hb⟩:=nX;by_cases h0:n=0
 ·subst h0;refine(Any8.slices_Grow_room Tryz.growV none 0 0 0 w (Nat.le_refl _) (by omega) (by omega) (by omega)).mono ?_
  rintro e w' ⟨rfl,rfl⟩
  exact⟨_,rfl,World.ownsRow_nil _ _ _ _,.refl _ _⟩
 ·refine(Any8.slices_Grow_grow Tryz.growV i z hi hz (by omega) none 0 0 n [] w (Nat.le_refl _) (by omega) (by rw[hb];omega) (by omega) (by simp) (fun _=>rfl) (fun a h=>by cases h)).mono ?_
  rintro e w' ⟨rfl,rfl⟩
  have hg:0+n≤grownCap w (0+n) 0 58:=grownCap_ge w _ _ _
  have hm:=grownCap_le_maxLen w (0+n) 0 58 (by unfold maxLen;omega)
  have:=World.ownsRow_made (base:=w.heap.size) (e:=58) (size:=5) w.drew (([]:List Value).toArray++Builtin.zeroCells z.cells (0+n - 0)++Builtin.zeroCells z.cells (grownCap w (0+n) 0 58 - (0+n))) _ (Nat.le_refl _) hm (by
   simp only[Array.size_append,size_zeroCells,hzs,List.size_toArray,List.length_nil];omega)
  exact⟨_,rfl,this,((Below.refl _ w).drew).alloc (Nat.le_refl _) _⟩
structure Pt where
 ad:Addr
 n:Nat
 cap:Nat
 row:List Value
def dQ:List Pt→Nat
 | []=>0
 | p::ps=>p.n+dQ ps
def iK:List Pt→List Value
 | []=>[]
 | p::ps=>p.row++iK ps
theorem fO:∀ {ps:List Pt} {k:Nat} {p:Pt},ps[k]? = some p→dQ (ps.take (k+1))=dQ (ps.take k)+p.n
 | [],_,_,h=>by simp at h
 | q::ps,0,p,h=>by
  simp at h;subst h;simp[dQ]
 | q::ps,k+1,p,h=>by
  have:=fO (ps:=ps) (k:=k) (p:=p) (by simpa using h)
  simp only[List.take_succ_cons,dQ];omega
theorem mT:∀ {ps:List Pt} {k:Nat} {p:Pt},ps[k]? = some p→iK (ps.take (k+1))=iK (ps.take k)++p.row
 | [],_,_,h=>by simp at h
 | q::ps,0,p,h=>by
  simp at h;subst h;simp[iK]
 | q::ps,k+1,p,h=>by
  have:=mT (ps:=ps) (k:=k) (p:=p) (by simpa using h)
  simp only[List.take_succ_cons,iK,this,List.append_assoc]
theorem mv:∀ (ps:List Pt) (k:Nat),dQ (ps.take k)≤dQ ps
 | [],k=>by simp
 | q::ps,0=>by simp[dQ]
 | q::ps,k+1=>by
  have:=mv ps k
  simp only[List.take_succ_cons,dQ];omega
structure Lies (w:World) (ba:Addr) (i:Nat) (p:Pt):Prop where
 cell:w.cell? (ba.add i)=some (.slice (some p.ad) p.n p.cap)
 len:p.row.length=p.n*5
 row:∀ j u,p.row[j]? = some u→w.cell? (p.ad.add j)=some u
 one:∀ u∈p.row,u.oneCell'=true
set_option maxRecDepth 100000 in
theorem mF (ba:Addr) (cap:Nat) (ps:List Pt) (w:World) (h:∀ i p,ps[i]? = some p→Lies w ba i p) (hk:ps.length≤1000000000) (hn:dQ ps≤1000000000) :
  Calls Tryz.prog 327 #[.slice (some ba) ps.length cap] w fun e w'=>∃ v',e=.returned v'∧w'.ownsRow w.heap.size 58 5 v' (dQ ps) (iK ps)∧Below w.heap.size w w':=by
 obtain⟨i,z,hi,hz,hzs,hs,hb⟩:=nX
 go_enter Tryz.func327,Tryz.ntmps327
 go_wp2
 go_loopw [3,11] (fun v3 v11 wr=>∃ k:Nat,k≤ps.length∧v3=.int .i64 (dQ (ps.take k):Nat)∧v11=.int .i64 k∧wr=w) (fun _ v11 _=>ps.length - (RowKit.intOf v11).toNat)
 case atStart=>exact⟨0,Nat.zero_le _,rfl,rfl,rfl⟩
 case round =>
  obtain⟨k,hkl,rfl,rfl,hw⟩:=hrel;obtain rfl:w=wr:=hw.symm;clear hw;by_cases hlt:k<ps.length
  ·obtain⟨p,hp⟩:∃ p,ps[k]? = some p:=⟨_,List.getElem?_eq_getElem hlt⟩
   have hL:=(h k p hp).cell
   have hle:=mv ps (k+1)
   rw[fO hp] at hle
   go_wp2
   go_roundw
   case rel=>exact⟨k+1,by omega,by rw[fO hp];go_num,by go_num,trivial⟩
   case measure=>simp[RowKit.intOf];omega
  ·obtain rfl:k=ps.length:=by omega
   rw[List.take_length];have hgw:=sr (dQ ps) w hn
   go_wp2_with (go_at_call 333;refine hgw.mono ?_)
   rintro e w1 ⟨v6,rfl,hown,hbel⟩
   go_wp2
   go_loopw [6,27] (fun v6 v27 wr=>∃ k:Nat,k≤ps.length∧v27=.int .i64 k∧Hid (wr.ownsRow w.heap.size 58 5 v6 (dQ (ps.take k)) (iK (ps.take k))∧Below w.heap.size w wr)) (fun _ v27 _=>ps.length - (RowKit.intOf v27).toNat)
   case atStart=>exact⟨0,Nat.zero_le _,rfl,hown,hbel⟩
   case round =>
    obtain⟨k,hkl2,rfl,HI⟩:=hrel;by_cases hlt2:k<ps.length
    ·obtain⟨p,hp⟩:∃ p,ps[k]? = some p:=⟨_,List.getElem?_eq_getElem hlt2⟩
     have L:Hid (Lies w ba k p):=h k p hp
     have hold:∀ {a:Addr} {v:Value},w.cell? a=some v→wr.cell? a=some v:=fun {a v} e=>by
      rw[HI.out.2.cell (World.block_lt_of_cell? w a e)];exact e
     have hc:=hold L.out.cell
     have hle:=mv ps (k+1)
     rw[fO hp] at hle
     go_wp2_with (at_builtin;refine wpList_append_own _ rfl _ _ 22 rfl w.heap.size 58 i z 5 64 Tryz.underlying22 hi hz hs hb hzs (by decide) _ _ _ rfl HI.out.1 p.ad p.n p.cap p.row rfl L.out.len ?_ L.out.one ?_ ?_ ?_ ?_)
     ·exact fun j u e=>hold (L.out.row j u e)
     ·simp only[maxLen];omega
     ·omega
     ·exact HI.out.2.size
     ·intro v' w3 hown3 hgrow hne;have hbl:Below w.heap.size w w3:=HI.out.2.grown hgrow HI.out.2.size (fun b e=>(HI.out.1.lt b e).1)
      have hr:Hid (w3.ownsRow w.heap.size 58 5 v' (dQ (ps.take (k+1))) (iK (ps.take (k+1)))∧Below w.heap.size w w3):=by
       rw[fO hp,mT hp];exact⟨hown3,hbl⟩
      clear hown3 hgrow hne hbl
      go_wp2
      go_roundw
      case rel=>exact⟨k+1,by omega,by go_num,hr⟩
      case measure=>simp[RowKit.intOf];omega
    ·obtain rfl:k=ps.length:=by omega
     rw[List.take_length] at HI
     go_wp2
     go_ret
     exact⟨_,rfl,HI.out⟩
set_option maxRecDepth 100000 in
theorem tw (cap:Nat) (w:World) :
  Calls Tryz.prog 327 #[.slice none 0 cap] w fun e w'=>∃ v',e=.returned v'∧w'.ownsRow w.heap.size 58 5 v' 0 []∧Below w.heap.size w w':=by
 go_enter Tryz.func327,Tryz.ntmps327
 go_wp2
 go_loopw [3,11] (fun v3 v11 wr=>v3=.int .i64 0∧v11=.int .i64 0∧wr=w) (fun _ _ _=>0)
 case atStart=>exact⟨rfl,rfl,rfl⟩
 case round =>
  obtain⟨rfl,rfl,hw⟩:=hrel;obtain rfl:w=wr:=hw.symm;clear hw;have hgw:=sr 0 w (by omega)
  go_wp2_with (go_at_call 333;refine hgw.mono ?_)
  rintro e w1 ⟨v6,rfl,hown,hbel⟩
  have H:Hid (w1.ownsRow w.heap.size 58 5 v6 0 []∧Below w.heap.size w w1):=⟨hown,hbel⟩
  clear hown hbel
  go_wp2
  go_loopw [6,27] (fun x6 v27 wr=>Hid (x6=v6)∧v27=.int .i64 0∧wr=w1) (fun _ _ _=>0)
  case atStart=>exact⟨rfl,rfl,rfl⟩
  case round =>
   obtain⟨hx6,rfl,hw⟩:=hrel;cases hx6.out;obtain rfl:w1=wr:=hw.symm;clear hw
   go_wp2
   go_ret
   exact⟨_,rfl,H.out⟩
theorem yf {I:Nat→Nat→Option Value} {w:World} (hw:∀ b o y,I b o=some y→w.cell? ⟨b,o,none⟩=some y):∀ {cs:List (List (List PV))} {ys:List Value},All2 (RP I) (cs.map PV.sl) ys→(∀ c∈cs,c≠[]∧∀ el∈c,el.length=5) →
  ∃ ps:List Pt,ps.length=cs.length∧(∀ (i:Nat) (p:Pt),ps[i]? = some p→ys[i]? = some (.slice (some p.ad) p.n p.cap)∧p.row.length=p.n*5∧(∀ (j:Nat) (u:Value),p.row[j]? = some u→w.cell? (p.ad.add j)=some u)∧∀ u∈p.row,u.oneCell'=true) ∧
   dQ ps=cs.flatten.length∧All2 (RP I) cs.flatten.flatten (iK ps)
 | [],[],_,_=>⟨[],rfl,fun i p h=>by simp at h,rfl,.nil⟩
 | [],_::_,h,_=>by cases h
 | _::_,[],h,_=>by cases h
 | c::cs,y::ys,.cons h1 h2,hc=>by
  obtain⟨ps,k1,k2,k3,k4⟩:=yf hw h2 fun c' h=>hc c' (List.mem_cons_of_mem _ h)
  obtain⟨hne,h5⟩:=hc c (by simp)
  obtain⟨pa,cap,rfl,_,hs⟩:=RP.slice_inv (show RP I (.sl c) y from h1)
  obtain⟨b,o,sz,rfl,hsz',hseg⟩:=hs hne;have e5:sz=5:=by
   cases c with
   | nil=>exact absurd rfl hne
   | cons el c=>rw[←hsz' el (by simp),h5 el (by simp)]
  subst e5;obtain⟨zs,hl,hI,hv⟩:=fj (by decide) h5 hseg
  refine⟨⟨⟨b,o,none⟩,c.length,cap,zs⟩::ps,by simp[k1],fun i p h => ?_,?_,?_⟩
  ·cases i with
   | zero =>
    simp at h;subst h;refine⟨rfl,hl,fun j u e => ?_,gj hv⟩
    have e':(⟨b,o,none⟩:Addr).add j=⟨b,o+j,none⟩:=by simp only[Addr.add];split<;>simp_all
    rw[e'];exact hw _ _ _ (hI j u e)
   | succ i=>exact k2 i p (by simpa using h)
  ·simp[dQ,k3]
  ·rw[List.flatten_cons,List.flatten_append];exact hv.append k4
def zW:List PV→Option (List (List PV))
 | [.sl c]=>if c≠[]∧c.all (fun el=>el.length==5)=true then some c else none
 | _=>none
def nx:List (List PV)→Option (List (List (List PV)))
 | []=>some []
 | el::ls=>match zW el,nx ls with
  | some c,some cs=>some (c::cs)
  | _,_=>none
def rL:Prim
 | [.c (.pv (.sl ls))],[]=>match nx ls with
  | some cs=>if ls.length≤1000000000∧cs.flatten.length≤1000000000 then some (.c (.pv (.sl cs.flatten)),[]) else none
  | none=>none
 | _,_=>none
theorem lM:∀ {ls:List (List PV)} {cs:List (List (List PV))},nx ls=some cs→ls=cs.map (fun c=>[.sl c])∧∀ c∈cs,c≠[]∧∀ el∈c,el.length=5
 | [],cs,h=>by cases h;exact⟨rfl,fun c h=>by cases h⟩
 | el::ls,cs,h=>by
  rw[nx] at h;split at h
  case h_2=>cases h
  rename_i c cs' h1 h2;cases h;obtain⟨k1,k2⟩:=lM h2;unfold zW at h1;split at h1
  case h_2=>cases h1
  split at h1
  case isFalse=>cases h1
  rename_i hc;cases h1;refine⟨by rw[k1];rfl,fun c' h' => ?_⟩
  rcases List.mem_cons.1 h' with rfl|h'
  ·exact⟨hc.1,fun el hel=>by simpa using List.all_eq_true.1 hc.2 el hel⟩
  ·exact k2 c' h'
theorem wb:∀ cs:List (List (List PV)),(cs.map fun c=>[PV.sl c]).flatten=cs.map PV.sl
 | []=>rfl
 | c::cs=>by rw[List.map_cons,List.flatten_cons,wb cs];rfl
theorem uq {args:List AV} {bxs:List (List CV)} {x:AV×List (List CV)} (h:rL args bxs=some x):Contract Tryz.prog 327 args bxs (.ret x.1 x.2):=by
 unfold rL at h;split at h
 case h_2=>cases h
 rename_i ls;split at h
 case h_2=>cases h
 rename_i cs hcs;split at h
 case isFalse=>cases h
 rename_i hc;cases h;obtain⟨rfl,h5⟩:=lM hcs;intro G w cargs hw hargs _ _ _;obtain⟨x,rfl,hx⟩:=de hargs;obtain⟨pa,cap,rfl,_,hs⟩:=RP.slice_inv (show RP G.I (.sl (cs.map fun c=>[PV.sl c])) x from hx)
 by_cases hc0:cs=[]
 ·subst hc0;have fin:∀ {e:Ending} {w':World},(∃ v',e=.returned v'∧w'.ownsRow w.heap.size 58 5 v' 0 []∧Below w.heap.size w w')→∃ G',Ext G w G' w'∧WI G' w'∧REnd 0 G' w' e (.ret (.c (.pv (.sl (([]:List (List (List PV))).flatten)))) []):=by
   rintro e w' ⟨v',rfl,hown,hb⟩
   obtain⟨G',h1,h2,h3,_,_⟩:=lz hw hb hown (c:=[]) rfl (fun el hel=>by cases hel) .nil
   exact⟨G',h1,h2,_,rfl,h3,rfl,fun i l h=>by simp at h⟩
  cases pa with
  | none=>exact(tw cap w).mono fun e w' h=>fin h
  | some ba=>exact(mF ba cap [] w (fun i p e=>by simp at e) (by simp) (by simp[dQ])).mono fun e w' h=>fin h
 obtain⟨b,o,sz,rfl,hsz',hseg⟩:=hs (by simpa using hc0)
 have h1:∀ el∈cs.map (fun c=>[PV.sl c]),el.length=1:=fun el hel=>by
  obtain⟨c,_,rfl⟩:=List.mem_map.1 hel;rfl
 have e1:sz=1:=by
  cases cs with
  | nil=>exact absurd rfl hc0
  | cons c cs=>rw[←hsz' [PV.sl c] (by simp)];rfl
 subst e1;obtain⟨ys,hl,hI,hv⟩:=fj (by decide) h1 hseg
 rw[wb] at hv;obtain⟨ps,k1,k2,k3,k4⟩:=yf (fun b o y e=>hw.cell b o y e) hv h5
 have hlen:(cs.map fun c=>[PV.sl c]).length=ps.length:=by rw[List.length_map,k1]
 rw[hlen];refine(mF ⟨b,o,none⟩ cap ps w (fun i p e => ?_) (by rw[←hlen];exact hc.1) (by rw[k3];exact hc.2)).mono ?_
 ·obtain⟨j1,j2,j3,j4⟩:=k2 i p e;refine⟨?_,j2,j3,j4⟩
  have e':(⟨b,o,none⟩:Addr).add i=⟨b,o+i,none⟩:=by simp only[Addr.add];split<;>simp_all
  rw[e'];exact hw.cell _ _ _ (hI i _ j1)
 ·rintro e w' ⟨v',rfl,hown,hb⟩
  obtain⟨G',h1,h2,h3,_,_⟩:=lz hw hb hown k3.symm (fun el hel=>by
   obtain⟨c,hc',hel'⟩:=List.mem_flatten.1 hel;exact(h5 c hc').2 el hel') k4
  exact⟨G',h1,h2,_,rfl,h3,rfl,fun i l h=>by simp at h⟩
end Go.Abs
namespace Go.Abs
open Go Go.Proofs
theorem bJ:cA Tryz.prog 3=Option.some Option.none:=by kernel_rfl
theorem cB:szOf Tryz.prog 3=Option.some 1:=by kernel_rfl
theorem cJ:bm Tryz.prog 3=Option.some (Go.Abs.Desc.int Go.IntKind.i64):=by kernel_rfl
theorem gX:szOf Tryz.prog 5=Option.some 1:=by kernel_rfl
theorem ei:zeroCells Tryz.prog 5=Option.some [Go.Abs.CV.pv (Go.Abs.PV.int Go.IntKind.u8 0)]:=by kernel_rfl
theorem er:bm Tryz.prog 5=Option.some (Go.Abs.Desc.int Go.IntKind.u8):=by kernel_rfl
theorem cU:cA Tryz.prog 9=Option.some Option.none:=by kernel_rfl
theorem fa:szOf Tryz.prog 9=Option.some 1:=by kernel_rfl
theorem ek:bm Tryz.prog 9=Option.some Go.Abs.Desc.str:=by kernel_rfl
theorem rv:bm Tryz.prog 21=Option.some (Go.Abs.Desc.int Go.IntKind.i32):=by kernel_rfl
theorem lI:cA Tryz.prog 22=Option.some Option.none:=by kernel_rfl
theorem gl:szOf Tryz.prog 22=Option.some 1:=by kernel_rfl
theorem af:bm Tryz.prog 22=Option.some (Go.Abs.Desc.sl 58 Bool.false):=by kernel_rfl
theorem iT:cA Tryz.prog 23=Option.some Option.none:=by kernel_rfl
theorem kL:szOf Tryz.prog 23=Option.some 1:=by kernel_rfl
theorem km:iA Tryz.prog 23=Option.some (43,8):=by kernel_rfl
theorem bT:bm Tryz.prog 23=Option.some (Go.Abs.Desc.sl 43 Bool.false):=by kernel_rfl
theorem rt:cA Tryz.prog 41=Option.some Option.none:=by kernel_rfl
theorem vk:szOf Tryz.prog 41=Option.some 1:=by kernel_rfl
theorem qG:bm Tryz.prog 41=Option.some (Go.Abs.Desc.sl 9 Bool.false):=by kernel_rfl
theorem lG:cA Tryz.prog 43=Option.some (Option.some 8):=by kernel_rfl
theorem dY:szOf Tryz.prog 43=Option.some 8:=by kernel_rfl
theorem aE:zeroCells Tryz.prog 43=Option.some [Go.Abs.CV.pv (Go.Abs.PV.int Go.IntKind.i64 0),Go.Abs.CV.nils,Go.Abs.CV.nils,Go.Abs.CV.nils,Go.Abs.CV.pv (Go.Abs.PV.int Go.IntKind.i64 0),Go.Abs.CV.pv (Go.Abs.PV.int Go.IntKind.i64 0),Go.Abs.CV.nils,Go.Abs.CV.nils]:=by kernel_rfl
theorem bE:fe Tryz.prog 43=Option.some [(0,1),(1,1),(2,1),(3,1),(4,1),(5,1),(6,1),(7,1)]:=by kernel_rfl
theorem gW:bl Tryz.prog 43 0=Option.some (0,3):=by kernel_rfl
theorem lW:bl Tryz.prog 43 3=Option.some (3,41):=by kernel_rfl
theorem fA:bl Tryz.prog 43 4=Option.some (4,3):=by kernel_rfl
theorem fD:bl Tryz.prog 43 5=Option.some (5,3):=by kernel_rfl
theorem fw:bl Tryz.prog 43 7=Option.some (7,23):=by kernel_rfl
theorem aq:szOf Tryz.prog 56=Option.some 3:=by kernel_rfl
theorem ao:zeroCells Tryz.prog 56=Option.some [Go.Abs.CV.pv (Go.Abs.PV.int Go.IntKind.i64 0),Go.Abs.CV.pv (Go.Abs.PV.str []),Go.Abs.CV.pv (Go.Abs.PV.int Go.IntKind.i64 0)]:=by kernel_rfl
theorem ee:fe Tryz.prog 56=Option.some [(0,1),(1,1),(2,1)]:=by kernel_rfl
theorem eF:bl Tryz.prog 56 0=Option.some (0,3):=by kernel_rfl
theorem fu:bl Tryz.prog 56 1=Option.some (1,9):=by kernel_rfl
theorem ma:bl Tryz.prog 56 2=Option.some (2,3):=by kernel_rfl
theorem bS:cA Tryz.prog 58=Option.some (Option.some 5):=by kernel_rfl
theorem aU:szOf Tryz.prog 58=Option.some 5:=by kernel_rfl
theorem cu:bl Tryz.prog 58 0=Option.some (0,3):=by kernel_rfl
theorem aW:bl Tryz.prog 58 1=Option.some (1,56):=by kernel_rfl
theorem eC:bl Tryz.prog 58 2=Option.some (4,22):=by kernel_rfl
theorem cI:bm Tryz.prog 69=Option.some (Go.Abs.Desc.sl 5 Bool.true):=by kernel_rfl
theorem cm:cA Tryz.prog 75=Option.some Option.none:=by kernel_rfl
theorem cM:szOf Tryz.prog 75=Option.some 1:=by kernel_rfl
theorem py:iA Tryz.prog 75=Option.some (56,3):=by kernel_rfl
theorem au:bm Tryz.prog 75=Option.some (Go.Abs.Desc.sl 56 Bool.false):=by kernel_rfl
theorem qJ:cA Tryz.prog 88=Option.some (Option.some 5):=by kernel_rfl
theorem uX:szOf Tryz.prog 88=Option.some 5:=by kernel_rfl
theorem nf:zeroCells Tryz.prog 88=Option.some [Go.Abs.CV.pv (Go.Abs.PV.bool Bool.false),Go.Abs.CV.pv (Go.Abs.PV.str []),Go.Abs.CV.nils,Go.Abs.CV.nils,Go.Abs.CV.pv (Go.Abs.PV.bool Bool.false)]:=by kernel_rfl
theorem mb:bl Tryz.prog 88 2=Option.some (2,22):=by kernel_rfl
theorem lO:bl Tryz.prog 88 3=Option.some (3,22):=by kernel_rfl
theorem gV:cA Tryz.prog 137=Option.some Option.none:=by kernel_rfl
theorem jK:szOf Tryz.prog 137=Option.some 1:=by kernel_rfl
theorem ae:bm Tryz.prog 137=Option.some Go.Abs.Desc.str:=by kernel_rfl
theorem mu:zeroCells Tryz.prog 139=Option.some [Go.Abs.CV.pv (Go.Abs.PV.str []),Go.Abs.CV.nils]:=by kernel_rfl
theorem mY:fe Tryz.prog 139=Option.some [(0,1),(1,1)]:=by kernel_rfl
theorem fo:bl Tryz.prog 139 0=Option.some (0,137):=by kernel_rfl
theorem gD:bl Tryz.prog 139 1=Option.some (1,75):=by kernel_rfl
theorem al:bm Tryz.prog 162=Option.some (Go.Abs.Desc.sl 22 Bool.false):=by kernel_rfl
end Go.Abs
namespace Go.Abs.Sl
def cut (p:Val→Bool):List Val→List (List Val)
 | []=>[[]]
 | v::l=>if p v then []::cut p l else match cut p l with
  | []=>[[v]]
  | q::qs=>(v::q)::qs
theorem yI (p:Val→Bool) (l:List Val):∃ q qs,cut p l=q::qs:=by
 cases l with
 | nil=>exact⟨_,_,rfl⟩
 | cons v l =>
  rw[cut];split
  ·exact⟨_,_,rfl⟩
  ·split
   ·exact⟨_,_,rfl⟩
   ·exact⟨_,_,rfl⟩
theorem vT {p:Val→Bool} {v:Val} (h:p v=true) (l:List Val):cut p (v::l)=[]::cut p l:=by rw[cut,if_pos h]
theorem Aa {p:Val→Bool} {v:Val} (h:p v=false) {l q:List Val} {qs:List (List Val)} (e:cut p l=q::qs):cut p (v::l)=(v::q)::qs:=by
 rw[cut,if_neg (by rw[h];simp),e]
def fulls (ss:List (List Val)):List (List Val):=ss.filter fun s => !s.isEmpty
def words (l:List Val):List (List Val):=fulls (cut aG l)
theorem nK (p:Val→Bool):∀ l:List Val,(cut p l).length≤l.length+1
 | []=>Nat.le_refl _
 | v::l=>by
  have h:=nK p l
  obtain⟨q,qs,e⟩:=yI p l;cases hv:p v with
  | true=>rw[vT hv,List.length_cons,List.length_cons];omega
  | false =>
   rw[Aa hv e,List.length_cons,List.length_cons];rw[e,List.length_cons] at h;omega
end Go.Abs.Sl
