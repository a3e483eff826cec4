/-
  WHAT THE FUNCTIONS COMPUTE, layer 1: the scanner's next token.
  (And 2 texts more.)
-/
import Derived.Test.YtcfklbkkdipjhaaGreatDoorSm8
open Nat (reduceEqDiff reduceAdd reduceLT reduceLeDiff reduceSub)
set_option linter.unusedSimpArgs false
set_option linter.unusedVariables false
namespace Go.Abs
open Go Go.Proofs
set_option maxRecDepth 10000
attribute [local go_sem] cG bA cj bF bH cF cf ce ay aV aR bw bU bg opd avOf cvOf St.degAt St.put okPV dr okAV cQ cR cP cv aj if_true Bool.false_eq_true if_false Option.map_some Option.map_none Option.bind_some Option.bind_none du dh upd List.toList_toArray bC steal aH mvB cX cw bR AV.deg CV.deg AV.gv AV.isIter co cg bG List.length_nil List.length_cons List.filterMap_cons List.filterMap_nil beq_iff_eq List.getElem?_cons_zero List.getElem?_cons_succ Option.getD_some eG fh Bool.false_and Bool.and_false Bool.and_self K_P fT bv bO aJ lend back idx dedup AV.ren CV.ren TV.ren AV.ptrs CV.ptrs ck AV.flat CV.flat bL bu az bV cz dK bD ar bK aQ bd bt aP dV CV.pv? content aN ownT aD reps pvs chunks aZ leave dT bW cN bf aK TV.deg TV.av LK CV.plain CV.noBld cq dS bound List.map_cons List.map_nil List.all_cons List.all_nil List.any_cons List.any_nil List.contains_cons List.contains_nil List.elem_cons List.elem_nil List.cons_append List.nil_append List.append_nil List.flatMap_cons List.flatMap_nil List.zip_cons_cons List.zip_nil_left List.zip_nil_right List.take_succ_cons List.take_zero List.take_nil List.drop_succ_cons List.drop_zero List.drop_nil List.isEmpty_nil List.isEmpty_cons Bool.and_true Bool.true_and Bool.or_true Bool.true_or Bool.or_false Bool.false_or Bool.not_true Bool.not_false Nat.add_zero Nat.zero_add Option.isNone_none Option.isNone_some Option.getD_none true_and and_true not_true_eq_false not_false_eq_true decide_true decide_false Nat.le_refl and_self Bool.not_eq_true Nat.sub_self or_true true_or Option.some.injEq List.length_map List.nil_eq and_false false_and AV.live CV.live CV.liveIn dX ax Option.orElse_some Option.orElse_none head aI aF Int.lt_irrefl List.length_append ite_self dt br bZ aY Key.clash Key.sees Key.writes Nat.lt_irrefl gt_iff_lt ci dp false_or or_false beq_self_eq_true Bool.true_beq Bool.false_beq tx fo jK gV oc se zh zG nN sD yq ov yS
theorem xH (c:UInt8) (r:List UInt8):Lib.hasPrefix (c::r) [47,42]=decide (c=47∧Tk.at0 r=42):=by
 unfold Lib.hasPrefix;cases r with
 | nil =>
  have:¬ (c=47∧Tk.at0 []=42):=fun h=>absurd h.2 (by decide)
  rw[decide_eq_false this];simp[List.isPrefixOf]
 | cons d l =>
  rw[Bool.eq_iff_iff,decide_eq_true_eq];simp only[List.isPrefixOf,Bool.and_true,Bool.and_eq_true,beq_iff_eq,Tk.at0];exact⟨fun h=>⟨h.1.symm,h.2.symm⟩,fun h=>⟨h.1.symm,h.2.symm⟩⟩
theorem among (l:List UInt8) (c:UInt8):decide (0≤Lib.indexByte l c)=l.contains c:=by
 rw[Lib.contains_iff_indexByte]
theorem pP (c:UInt8):decide (0≤Lib.indexByte [32,10,9,12,13] c)=Tk.blank c:=by
 rw[among];unfold Tk.blank;simp only[List.contains_cons,List.contains_nil,Bool.or_false,Bool.or_assoc]
theorem wD (c:UInt8):decide (0≤Lib.indexByte [34,39] c)=decide (c=34∨c=39):=by
 rw[among];simp only[List.contains_cons,List.contains_nil,Bool.or_false];by_cases h1:c=34
 ·simp[h1]
 ·by_cases h2:c=39<;>simp[h1,h2]
theorem wS (c:UInt8) (r:List UInt8):decide (0≤gS c r)=(Tk.inner c r).isSome:=by
 unfold gS;cases Tk.inner c r with
 | none=>rfl
 | some n=>simp
theorem xM (c:UInt8):den K 156 [U c] []=some (.ret (B (Tk.blank c)) []):=by
 have d:=fE [32,10,9,12,13] c
 have e:=pP c
 refine ak rfl rfl Tryz.func156 rfl Tryz.ntmps156 ⟨by simp,by simp[LK]⟩ ?_
 have hr:Tryz.f156.results=#[.tmp 2]:=rfl
 simp only[go_sem,reduceLT,reduceCtorEq,reduceEqDiff,Nat.reduceBEq,reduceAdd,hr,d,e]
def dP (x:TS):Option Tok→TS
 | none=>x
 | some t=>.wr (x.toks++[t])
set_option maxHeartbeats 16000000 in
theorem zO (s:List UInt8) (c:UInt8) (r:List UInt8) (x:TS) (et:Nat) (ct:List (List PV)) (hx:x.cell=.own et ct) (hsr:s=c::r) (hs:s.length<4000000000) (hxl:x.toks.length<4000000000) :
  den K 95 [P0] [[.pv (.str s),.own et ct]]=some (.ret (.tup []) [scan (s.drop (Tk.step c r).2) (dP x (Tk.step c r).1)]):=by
 have hr:Tryz.f95.results=#[]:=rfl
 have a0:=kO s 0 (by omega)
 have a1:=kO s 1 (by omega)
 have n0:=nW s (by omega) 0 (by omega)
 have n1:=nW s (by omega) 1 (by rw[hsr];simp)
 have c0:Tk.at0 (s.drop 0)=c:=by rw[hsr];rfl
 have cs:s.drop 0=s:=rfl
 have cr:s.drop 1=r:=by rw[hsr];rfl
 rw[c0] at a0
 rw[cs] at n0
 rw[cr] at a1 n1
 have hpre:=pG s [47,42]
 rw[hsr,xH,←hsr] at hpre;have hbl:=fE [32,10,9,12,13] c
 have ebl:=pP c
 have hqu:=fE [34,39] c
 have equ:=wD c
 have hin:=wX s c r x hsr hs
 have ein:=wS c r
 have hrw:=ni s (by omega) Tk.within 160 sy rfl pu 1 (by rw[hsr];simp)
 rw[cr] at hrw;have e35:((c.toNat:Int)==35)=(c==35):=iL c 35
 have e64:((c.toNat:Int)==64)=(c==64):=iL c 64
 have e45:((c.toNat:Int)==45)=(c==45):=iL c 45
 have hdc:=jO c
 have hdr:=jO (Tk.at0 r)
 have hput:∀ n kind text v,n≤s.length→den K 157 [P0,I (n:Nat),I kind,T text,I v] [[.pv (.str s),.own et ct]]=some (.ret (.tup []) [scan (s.drop n) (.wr (x.toks++[⟨kind,text,v⟩]))]):=fun n kind text v h=>by
  have:=vV s x n kind text v h hxl
  simp only[scan,hx] at this
  exact this
 simp only[scan,hx] at hin;have z0:((0:Nat):Int)=0:=rfl
 have z1:((1:Nat):Int)=1:=rfl
 simp only[z0,z1] at a0 a1 n0 n1 hrw
 have hlen:s.length=r.length+1:=by rw[hsr];rfl
 by_cases h1:c=47∧Tk.at0 r=42
 ·have e:Tk.step c r=(none,Tk.comment r.tail):=by unfold Tk.step;rw[if_pos h1]
  have h2:2≤s.length:=by
   cases r with
   | nil=>exact absurd h1.2 (by decide)
   | cons d r=>simp at hlen;omega
  have hcm:=sj s x hs h2
  have cr2:s.drop 2=r.tail:=by rw[hsr];cases r<;>rfl
  rw[cr2] at hcm;simp only[scan,hx] at hcm;rw[decide_eq_true h1] at hpre;rw[e];simp only[dP,scan,hx];refine ak rfl rfl Tryz.func95 rfl Tryz.ntmps95 ⟨by simp,by simp[LK]⟩ ?_
  simp only[go_sem,reduceLT,reduceCtorEq,reduceEqDiff,Nat.reduceBEq,reduceAdd,hr,a0,n0,n1,hpre,hcm]
 rw[decide_eq_false h1] at hpre;by_cases h2:Tk.blank c=true
 ·have e:Tk.step c r=(some ⟨8,[10],0⟩,Tk.run Tk.blank s):=by unfold Tk.step;rw[if_neg h1,if_pos h2,hsr]
  have hrun:=ni s (by omega) Tk.blank 156 Ay rfl xM 0 (by omega)
  rw[cs,z0] at hrun;have hp:=hput (Tk.run Tk.blank s) 8 [10] 0 (Tk.run_le s)
  simp only[scan,TS.cell] at hp;rw[h2] at ebl
  rw[e];simp only[dP,scan,TS.cell];refine ak rfl rfl Tryz.func95 rfl Tryz.ntmps95 ⟨by simp,by simp[LK]⟩ ?_
  simp only[go_sem,reduceLT,reduceCtorEq,reduceEqDiff,Nat.reduceBEq,reduceAdd,hr,a0,n0,n1,hpre,hbl,ebl,hrun,hp]
 have h2':Tk.blank c=false:=by simpa using h2
 rw[h2'] at ebl
 have t0:Int.toNat 0=0:=rfl
 have t1:Int.toNat 1=1:=rfl
 have hs1:(s.take 1).drop 0=[c]:=by rw[hsr];rfl
 have hs1':s.take 1=[c]:=by rw[hsr];rfl
 have b1:((0:Int)≤1∧(1:Int)≤(s.length:Int))=True:=eq_true (by omega)
 have hp1:=hput 1 7 [c] 0 (by omega)
 simp only[scan,TS.cell,z1] at hp1;have nz:∀ d:UInt8,c=d→Tk.within d=false→Tk.name s=0:=fun d h hw=>by
  rw[Tk.qy];rw[hsr];exact Tk.kC (c:=d) (by rw[Tk.gz];exact h) hw
 by_cases h3:(c=34∨c=39)∧(Tk.inner c r).isSome=true
 ·obtain⟨n,hn⟩:=Option.isSome_iff_exists.1 h3.2;have hnl:=Tk.oG hn
  have e:Tk.step c r=(some ⟨6,r.take n,c.toNat⟩,n+2):=by unfold Tk.step;rw[if_neg h1,if_neg h2,if_pos h3,hn];rfl
  rw[decide_eq_true h3.1] at equ
  unfold gS at hin ein;rw[hn] at hin ein;simp only[Option.isSome_some] at hin ein;have hsl:(s.take (1+n)).drop 1=r.take n:=by rw[List.drop_take,cr];congr 1;omega
  have b2:((0:Int)≤((1+n:Nat):Int)∧((1+n:Nat):Int)≤(s.length:Int))=True:=eq_true (by omega)
  have b3:((0:Int)≤1∧(1:Int)≤((1+n:Nat):Int))=True:=eq_true (by omega)
  have w1:IntKind.i64.wrap ((n:Int)+2)=((n+2:Nat):Int):=by rw[IntWalk.i64_in _ (by omega)];rfl
  have w2:IntKind.i64.wrap (1+(n:Int))=((1+n:Nat):Int):=by rw[IntWalk.i64_in _ (by omega)];omega
  have w3:IntKind.i64.wrap (c.toNat:Int)=(c.toNat:Int):=IntWalk.i64_in _ (by have:=c.toNat_lt;omega)
  have hp:=hput (n+2) 6 (r.take n) c.toNat (by omega)
  simp only[scan,TS.cell] at hp;rw[e];simp only[dP,scan,TS.cell];refine ak rfl rfl Tryz.func95 rfl Tryz.ntmps95 ⟨by simp,by simp[LK]⟩ ?_
  simp only[go_sem,reduceLT,reduceCtorEq,reduceEqDiff,Nat.reduceBEq,reduceAdd,ai ae,cZ er cJ,hr,t1,Int.toNat_natCast,a0,n0,n1,hpre,hbl,ebl,hqu,equ,hin,ein,b2,b3,w1,w2,w3,hsl,hp]
 by_cases q:c=34∨c=39
 ·have hi:(Tk.inner c r).isSome=false:=by cases hh:(Tk.inner c r).isSome;rfl;exact absurd ⟨q,hh⟩ h3
  rw[hi] at ein
  rw[decide_eq_true q] at equ
  have k35:(c==35)=false:=by rcases q with rfl|rfl<;>decide
  have k64:(c==64)=false:=by rcases q with rfl|rfl<;>decide
  have k45:(c==45)=false:=by rcases q with rfl|rfl<;>decide
  have kd:Tk.digit c=false:=by rcases q with rfl|rfl<;>decide
  have kn:Tk.name s=0:=nz c rfl (by rcases q with rfl|rfl<;>decide)
  have e:Tk.step c r=(some ⟨7,[c],0⟩,1):=by
   unfold Tk.step;rw[if_neg h1,if_neg h2,if_neg h3,if_neg (fun x=>by simp[x.1] at k35),if_neg (fun x=>by simp[x.1] at k64),if_neg (by simp[kd]),if_neg (fun x=>by simp[x.1] at k45),←hsr,if_neg (by omega)]
  rw[k35] at e35
  rw[k64] at e64
  rw[k45] at e45
  rw[kd] at hdc;rw[kn,z0] at n0
  rw[e];simp only[dP,scan,TS.cell];refine ak rfl rfl Tryz.func95 rfl Tryz.ntmps95 ⟨by simp,by simp[LK]⟩ ?_
  simp only[go_sem,reduceLT,reduceCtorEq,reduceEqDiff,Nat.reduceBEq,reduceAdd,ai ae,cZ er cJ,hr,Int.le_refl,t0,t1,a0,n0,n1,hpre,hbl,ebl,hqu,equ,hin,ein,e35,e64,e45,hdc,hs1,b1,hp1]

 rw[decide_eq_false q] at equ
 have hrl:=Tk.run_le (p:=Tk.within) r
 by_cases h4:c=35
 ·have k64:(c==64)=false:=by rw[h4];decide
  have k45:(c==45)=false:=by rw[h4];decide
  have k35:(c==35)=true:=by rw[h4];decide
  have kd:Tk.digit c=false:=by rw[h4];decide
  have kn:Tk.name s=0:=nz 35 h4 (by decide)
  rw[k35] at e35
  rw[k64] at e64
  rw[k45] at e45
  rw[kd] at hdc;by_cases hpos:0<Tk.run Tk.within r
  ·have e:Tk.step c r=(some ⟨4,r.take (Tk.run Tk.within r),0⟩,Tk.run Tk.within r+1):=by unfold Tk.step;rw[if_neg h1,if_neg h2,if_neg h3,if_pos ⟨h4,hpos⟩]
   rw[e];have hsl:(s.take (1+Tk.run Tk.within r)).drop 1=r.take (Tk.run Tk.within r):=by rw[List.drop_take,cr];congr 1;omega
   have hp:=hput (1+Tk.run Tk.within r) 4 (r.take (Tk.run Tk.within r)) 0 (by omega)
   rw[Nat.add_comm (Tk.run Tk.within r) 1];generalize Tk.run Tk.within r=n at hrw hrl hpos hp hsl;have b2:((0:Int)≤((1+n:Nat):Int)∧((1+n:Nat):Int)≤(s.length:Int))=True:=eq_true (by omega)
   have b3:((0:Int)≤1∧(1:Int)≤((1+n:Nat):Int))=True:=eq_true (by omega)
   have w2:IntKind.i64.wrap (1+(n:Int))=((1+n:Nat):Int):=by rw[IntWalk.i64_in _ (by omega)];omega
   have hg:decide ((0:Int)<(n:Int))=true:=decide_eq_true (by omega)
   simp only[scan,TS.cell] at hp;simp only[dP,scan,TS.cell];refine ak rfl rfl Tryz.func95 rfl Tryz.ntmps95 ⟨by simp,by simp[LK]⟩ ?_
   simp only[go_sem,reduceLT,reduceCtorEq,reduceEqDiff,Nat.reduceBEq,reduceAdd,ai ae,hr,t1,Int.toNat_natCast,a0,n0,n1,hpre,hbl,ebl,hqu,equ,e35,hrw,hg,b2,b3,w2,hsl,hp]
  ·have e:Tk.step c r=(some ⟨7,[c],0⟩,1):=by
    unfold Tk.step;rw[if_neg h1,if_neg h2,if_neg h3,if_neg (fun x=>hpos x.2),if_neg (fun x=>by simp[x.1] at k64),if_neg (by simp[kd]),if_neg (fun x=>by simp[x.1] at k45),←hsr,if_neg (by omega)]
   have hr0:Tk.run Tk.within r=0:=by omega
   rw[hr0,z0] at hrw;rw[kn,z0] at n0
   rw[e];simp only[dP,scan,TS.cell];refine ak rfl rfl Tryz.func95 rfl Tryz.ntmps95 ⟨by simp,by simp[LK]⟩ ?_
   simp only[go_sem,reduceLT,reduceCtorEq,reduceEqDiff,Nat.reduceBEq,reduceAdd,ai ae,hr,Int.le_refl,t0,t1,a0,n0,n1,hpre,hbl,ebl,hqu,equ,e35,hrw,e64,e45,hdc,Int.lt_irrefl,hs1,b1,hp1]

 have k35:(c==35)=false:=by simpa using h4
 rw[k35] at e35
 have hnl:=Tk.kc r
 by_cases h5:c=64
 ·have k45:(c==45)=false:=by rw[h5];decide
  have k64:(c==64)=true:=by rw[h5];decide
  have kd:Tk.digit c=false:=by rw[h5];decide
  have kn:Tk.name s=0:=nz 64 h5 (by decide)
  rw[k64] at e64
  rw[k45] at e45
  rw[kd] at hdc;by_cases hpos:0<Tk.name r
  ·have e:Tk.step c r=(some ⟨3,r.take (Tk.name r),0⟩,Tk.name r+1):=by unfold Tk.step;rw[if_neg h1,if_neg h2,if_neg h3,if_neg (fun x=>h4 x.1),if_pos ⟨h5,hpos⟩]
   rw[e];have hsl:(s.take (1+Tk.name r)).drop 1=r.take (Tk.name r):=by rw[List.drop_take,cr];congr 1;omega
   have hp:=hput (1+Tk.name r) 3 (r.take (Tk.name r)) 0 (by omega)
   rw[Nat.add_comm (Tk.name r) 1];generalize Tk.name r=n at n1 hnl hpos hp hsl
   have b2:((0:Int)≤((1+n:Nat):Int)∧((1+n:Nat):Int)≤(s.length:Int))=True:=eq_true (by omega)
   have b3:((0:Int)≤1∧(1:Int)≤((1+n:Nat):Int))=True:=eq_true (by omega)
   have w2:IntKind.i64.wrap (1+(n:Int))=((1+n:Nat):Int):=by rw[IntWalk.i64_in _ (by omega)];omega
   have hg:decide ((0:Int)<(n:Int))=true:=decide_eq_true (by omega)
   simp only[scan,TS.cell] at hp;simp only[dP,scan,TS.cell];refine ak rfl rfl Tryz.func95 rfl Tryz.ntmps95 ⟨by simp,by simp[LK]⟩ ?_
   simp only[go_sem,reduceLT,reduceCtorEq,reduceEqDiff,Nat.reduceBEq,reduceAdd,ai ae,hr,t1,Int.toNat_natCast,a0,n0,n1,hpre,hbl,ebl,hqu,equ,e35,e64,hg,b2,b3,w2,hsl,hp]
  ·have e:Tk.step c r=(some ⟨7,[c],0⟩,1):=by
    unfold Tk.step;rw[if_neg h1,if_neg h2,if_neg h3,if_neg (fun x=>h4 x.1),if_neg (fun x=>hpos x.2),if_neg (by simp[kd]),if_neg (fun x=>by simp[x.1] at k45),←hsr,if_neg (by omega)]
   have hr0:Tk.name r=0:=by omega
   rw[hr0,z0] at n1
   rw[kn,z0] at n0
   rw[e];simp only[dP,scan,TS.cell];refine ak rfl rfl Tryz.func95 rfl Tryz.ntmps95 ⟨by simp,by simp[LK]⟩ ?_
   simp only[go_sem,reduceLT,reduceCtorEq,reduceEqDiff,Nat.reduceBEq,reduceAdd,ai ae,hr,Int.le_refl,t0,t1,a0,n0,n1,hpre,hbl,ebl,hqu,equ,e35,e64,e45,hdc,Int.lt_irrefl,hs1,b1,hp1]

 have k64:(c==64)=false:=by simpa using h5
 rw[k64] at e64
 by_cases h6:Tk.digit c=true
 ·have e:Tk.step c r=(some (Tk.number false (c::r)).1,(Tk.number false (c::r)).2):=Tk.mA h6
  have k45:(Tk.at0 s==45)=false:=by rw[hsr,Tk.gz];simpa using Tk.sG h6 (d:=45) (by decide)
  have hnm:=ol s x false 0 s rfl cs (by omega) k45 hs hxl
  rw[Nat.zero_add] at hnm;rw[h6] at hdc;rw[e,←hsr];simp only[scan,hx] at hnm;simp only[dP,scan,TS.cell] at hnm ⊢;refine ak rfl rfl Tryz.func95 rfl Tryz.ntmps95 ⟨by simp,by simp[LK]⟩ ?_
  simp only[go_sem,reduceLT,reduceCtorEq,reduceEqDiff,Nat.reduceBEq,reduceAdd,ai ae,hr,t1,a0,n0,n1,hpre,hbl,ebl,hqu,equ,e35,e64,hdc,hnm]
 have kd:Tk.digit c=false:=by simpa using h6
 rw[kd] at hdc;by_cases h7:c=45∧Tk.digit (Tk.at0 r)=true
 ·have e:Tk.step c r=(some (Tk.number true r).1,(Tk.number true r).2+1):=by rw[h7.1];exact Tk.nV h7.2
  have k45:(Tk.at0 s==45)=true:=by rw[hsr,Tk.gz,h7.1];rfl
  have hnm:=ol s x true 1 r rfl cr (by omega) k45 hs hxl
  have k45':(c==45)=true:=by rw[h7.1];rfl
  rw[k45'] at e45
  rw[h7.2] at hdr;rw[e,Nat.add_comm _ 1];simp only[scan,hx] at hnm;simp only[dP,scan,TS.cell] at hnm ⊢;refine ak rfl rfl Tryz.func95 rfl Tryz.ntmps95 ⟨by simp,by simp[LK]⟩ ?_
  simp only[go_sem,reduceLT,reduceCtorEq,reduceEqDiff,Nat.reduceBEq,reduceAdd,ai ae,hr,t1,a0,n0,n1,hpre,hbl,ebl,hqu,equ,e35,e64,hdc,e45,a1,hdr,hnm]
 have e0:Tk.step c r=if 0<Tk.name s then if Tk.at0 (s.drop (Tk.name s))=40 then(some ⟨2,s.take (Tk.name s),0⟩,Tk.name s+1) else(some ⟨1,s.take (Tk.name s),0⟩,Tk.name s) else(some ⟨7,[c],0⟩,1):=by
  unfold Tk.step;rw[if_neg h1,if_neg h2,if_neg h3,if_neg (fun x=>h4 x.1),if_neg (fun x=>h5 x.1),if_neg h6,if_neg h7,←hsr]
 have hnle:=Tk.kc s
 have an:=kO s (Tk.name s) (by omega)
 have e40:(((Tk.at0 (s.drop (Tk.name s))).toNat:Int)==40)=(Tk.at0 (s.drop (Tk.name s))==40):=iL _ 40
 by_cases hpos:0<Tk.name s
 ·rw[if_pos hpos] at e0
  have hg:decide ((0:Int)<((Tk.name s:Nat):Int))=true:=decide_eq_true (by omega)
  have hsl:(s.take (Tk.name s)).drop 0=s.take (Tk.name s):=rfl
  have b2:((0:Int)≤((Tk.name s:Nat):Int)∧((Tk.name s:Nat):Int)≤(s.length:Int))=True:=eq_true (by omega)
  by_cases h40:Tk.at0 (s.drop (Tk.name s))=40
  ·have k40:(Tk.at0 (s.drop (Tk.name s))==40)=true:=by simpa using h40
   have hlt:Tk.name s≠s.length:=fun x=>by rw[x,List.drop_length] at h40;exact absurd h40 (by decide)
   rw[if_pos h40] at e0
   have hp:=hput (Tk.name s+1) 2 (s.take (Tk.name s)) 0 (by omega)
   rw[k40] at e40
   rw[e0];generalize Tk.name s=n at n0 an e40 hg b2 hp hnle hlt
   have w1:IntKind.i64.wrap ((n:Int)+1)=((n+1:Nat):Int):=fN n (by omega)
   simp only[scan,TS.cell] at hp;simp only[dP,scan,TS.cell];cases k45:(c==45)
   ·rw[k45] at e45
    refine ak rfl rfl Tryz.func95 rfl Tryz.ntmps95 ⟨by simp,by simp[LK]⟩ ?_
    simp only[go_sem,reduceLT,reduceCtorEq,reduceEqDiff,Nat.reduceBEq,reduceAdd,ai ae,hr,t1,Int.toNat_natCast,a0,n0,n1,hpre,hbl,ebl,hqu,equ,e35,e64,hdc,e45,hg,an,e40,b2,w1,hp]
   ·rw[k45] at e45
    have kr:Tk.digit (Tk.at0 r)=false:=by
     cases hh:Tk.digit (Tk.at0 r)
     ·rfl
     ·exact absurd ⟨by simpa using k45,hh⟩ h7
    rw[kr] at hdr;refine ak rfl rfl Tryz.func95 rfl Tryz.ntmps95 ⟨by simp,by simp[LK]⟩ ?_
    simp only[go_sem,reduceLT,reduceCtorEq,reduceEqDiff,Nat.reduceBEq,reduceAdd,ai ae,hr,t1,Int.toNat_natCast,a0,n0,n1,hpre,hbl,ebl,hqu,equ,e35,e64,hdc,e45,a1,hdr,hg,an,e40,b2,w1,hp]
  ·have k40:(Tk.at0 (s.drop (Tk.name s))==40)=false:=by simpa using h40
   rw[if_neg h40] at e0
   have hp:=hput (Tk.name s) 1 (s.take (Tk.name s)) 0 (by omega)
   rw[k40] at e40
   rw[e0];generalize Tk.name s=n at n0 an e40 hg b2 hp hnle
   simp only[scan,TS.cell] at hp;simp only[dP,scan,TS.cell];cases k45:(c==45)
   ·rw[k45] at e45
    refine ak rfl rfl Tryz.func95 rfl Tryz.ntmps95 ⟨by simp,by simp[LK]⟩ ?_
    simp only[go_sem,reduceLT,reduceCtorEq,reduceEqDiff,Nat.reduceBEq,reduceAdd,ai ae,hr,t1,Int.toNat_natCast,a0,n0,n1,hpre,hbl,ebl,hqu,equ,e35,e64,hdc,e45,hg,an,e40,b2,hp]
   ·rw[k45] at e45
    have kr:Tk.digit (Tk.at0 r)=false:=by
     cases hh:Tk.digit (Tk.at0 r)
     ·rfl
     ·exact absurd ⟨by simpa using k45,hh⟩ h7
    rw[kr] at hdr;refine ak rfl rfl Tryz.func95 rfl Tryz.ntmps95 ⟨by simp,by simp[LK]⟩ ?_
    simp only[go_sem,reduceLT,reduceCtorEq,reduceEqDiff,Nat.reduceBEq,reduceAdd,ai ae,hr,t1,Int.toNat_natCast,a0,n0,n1,hpre,hbl,ebl,hqu,equ,e35,e64,hdc,e45,a1,hdr,hg,an,e40,b2,hp]
 ·rw[if_neg hpos] at e0
  have hr0:Tk.name s=0:=by omega
  rw[hr0,z0] at n0
  rw[e0];simp only[dP,scan,TS.cell];cases k45:(c==45)
  ·rw[k45] at e45
   refine ak rfl rfl Tryz.func95 rfl Tryz.ntmps95 ⟨by simp,by simp[LK]⟩ ?_
   simp only[go_sem,reduceLT,reduceCtorEq,reduceEqDiff,Nat.reduceBEq,reduceAdd,ai ae,hr,Int.le_refl,t0,t1,a0,n0,n1,hpre,hbl,ebl,hqu,equ,e35,e64,hdc,e45,hs1,b1,hp1]
  ·rw[k45] at e45
   have kr:Tk.digit (Tk.at0 r)=false:=by
    cases hh:Tk.digit (Tk.at0 r)
    ·rfl
    ·exact absurd ⟨by simpa using k45,hh⟩ h7
   rw[kr] at hdr;refine ak rfl rfl Tryz.func95 rfl Tryz.ntmps95 ⟨by simp,by simp[LK]⟩ ?_
   simp only[go_sem,reduceLT,reduceCtorEq,reduceEqDiff,Nat.reduceBEq,reduceAdd,ai ae,hr,Int.le_refl,t0,t1,a0,n0,n1,hpre,hbl,ebl,hqu,equ,e35,e64,hdc,e45,a1,hdr,hs1,b1,hp1]
attribute [local go_sem] wA BD gD cM cm
theorem yy {x:TS} {et:Nat} {ct:List (List PV)} (hx:x.cell=.own et ct) (o:Option Tok):∃ et' ct',(dP x o).cell=.own et' ct'∧(dP x o).toks=x.toks++o.toList:=by
 cases o with
 | none=>exact⟨et,ct,hx,by simp[dP]⟩
 | some t=>exact⟨_,_,rfl,rfl⟩
theorem AJ {x:TS} {et:Nat} {ct:List (List PV)} (hx:x.cell=.own et ct):ct=x.toks.map Tok.enc:=by
 cases x with
 | nils=>cases hx
 | live=>cases hx;rfl
 | wr l=>cases hx;rfl
abbrev allH (s:List UInt8) (et:Nat) (ct:List (List PV)):St := { sl:=upd bot 3 (.c (.loc 6 0)),bx:=upd nobox 6 (some [.pv (.str s),.own et ct]),nt:=19 }
theorem yw:∀ (s:List UInt8),s.length<4000000000→∀ (x:TS) (et:Nat) (ct:List (List PV)),x.cell=.own et ct→x.toks.length+s.length<4000000000 →
  Ends (exL K 49 (.loop (aO Tryz.f49 2)) (allH s et ct)) fun o S=>o=.exit 0∧S.nt=19∧S.sl 3=.c (.loc 6 0)∧∃ et',S.bx 6=some [.pv (.str []),.own et' ((x.toks++Tk.all s).map Tok.enc)]:=by
 refine Tk.wc (Q:=fun s=>s.length<4000000000→∀ (x:TS) (et:Nat) (ct:List (List PV)),x.cell=.own et ct→x.toks.length+s.length<4000000000 →
  Ends (exL K 49 (.loop (aO Tryz.f49 2)) (allH s et ct)) fun o S=>o=.exit 0∧S.nt=19∧S.sl 3=.c (.loc 6 0)∧∃ et',S.bx 6=some [.pv (.str []),.own et' ((x.toks++Tk.all s).map Tok.enc)]) ?_ ?_
 ·intro _ x et ct hx _;have hct:=AJ hx
  have hlt:decide ((0:Int)<((0:Nat):Int))=false:=by decide
  rw[Tk.all_nil,List.append_nil,←hct]
  conv in aO _ _=>whnf
  rw[aB];simp only[go_sem,reduceLT,reduceEqDiff,Nat.reduceBEq,reduceAdd,cy ae,aX,hlt];exact⟨_,rfl⟩
 ·intro c r ih hs x et ct hx hl;have hp:=Tk.jz c r
  have hle:=Tk.vR c r
  have hn:=zO (c::r) c r x et ct hx rfl hs (by omega)
  obtain⟨et2,ct2,h2,h3⟩:=yy hx (Tk.step c r).1;have ho:((Tk.step c r).1.toList).length≤1:=by cases (Tk.step c r).1<;>simp
  have ih':=ih (by rw[List.length_drop];omega) (dP x (Tk.step c r).1) et2 ct2 h2 (by rw[h3,List.length_append,List.length_drop];omega)
  rw[h3,List.append_assoc,←Tk.all_cons] at ih';have hlt:decide ((0:Int)<((c::r).length:Int))=true:=decide_eq_true (by simp only[List.length_cons];omega)
  simp only[scan,h2] at hn;generalize c::r=s at hn ih' hlt
  conv at ih' in aO _ _=>whnf
  conv in aO _ _=>whnf
  rw[aB];simp only[go_sem,reduceLT,reduceEqDiff,Nat.reduceBEq,reduceAdd,cy ae,hlt,hn];rw[bN];simp only[go_sem,reduceEqDiff];exact ih'
theorem BI (s:List UInt8) (hs:s.length<4000000000):den K 49 [T s] []=some (.ret (L ((Tk.all s).map Tok.enc)) []):=by
 refine ak rfl rfl Tryz.func49 rfl Tryz.ntmps49 ⟨by simp,by simp[LK]⟩ ?_
 have hr:Tryz.f49.results=#[.tmp 2]:=rfl
 have hl:=yw s hs .live 0 [] rfl (by simp[TS.toks];omega)
 conv at hl in aO _ _=>whnf
 obtain⟨o,S',e2,rfl,hn,h3,et',hb⟩:=hl;simp only[TS.toks,List.nil_append] at hb;simp only[go_sem,reduceLT,reduceCtorEq,reduceEqDiff,Nat.reduceBEq,reduceAdd,reduceSub,reduceLeDiff,bh mu mY];rw[bN];simp only[go_sem,reduceEqDiff,reduceSub,reduceLeDiff];erw [e2];simp only[go_sem,reduceLT,reduceEqDiff,Nat.reduceBEq,reduceAdd,hr,hn,h3,hb]
attribute [local go_sem] Bg Bq ng
def ro (s:List UInt8):AV:=match Sl.kT s with
 | some a=>.tup [.c (.pv (.sl (encL a))),.c (.pv (.int .i64 0))]
 | none=>.tup [.c (.pv (.sl [])),.c (.pv (.int .i64 20))]
theorem pN (s:List UInt8) (hs:s.length<4000000000) (hal:(Tk.all s).length≤1000000):den K 25 [T s] []=some (.ret (ro s) []):=by
 have h1:=BI s hs
 have h2:=wP (Tk.all s) (by omega) 60
 unfold ro Sl.kT;refine ak rfl rfl Tryz.func25 rfl Tryz.ntmps25 ⟨by simp,by simp[LK]⟩ ?_
 have hr:Tryz.f25.results=#[.tmp 2,.tmp 3]:=rfl
 cases hp:Ne.parse 60 (Tk.all s) with
 | none =>
  rw[ub (deep:=60) (by decide) (by decide) hp] at h2
  have h3:=gb [] (by simp)
  have e0:encL []=[]:=rfl
  have e1:Sl.trim []=[]:=rfl
  rw[e1,e0] at h3;simp only[go_sem,reduceLT,reduceCtorEq,reduceEqDiff,Nat.reduceBEq,reduceAdd,hr,h1,h2,h3,Option.map_none,TV.flat]
 | some vs =>
  rw[uo (deep:=60) (by decide) (by decide) hp] at h2
  obtain⟨_,_,hsz,_⟩:=Ne.uN hp;have hl:=Ne.ed vs
  have h3:=gb vs (by omega)
  simp only[go_sem,reduceLT,reduceCtorEq,reduceEqDiff,Nat.reduceBEq,reduceAdd,hr,h1,h2,h3,Option.map_some,TV.flat]
end Go.Abs
