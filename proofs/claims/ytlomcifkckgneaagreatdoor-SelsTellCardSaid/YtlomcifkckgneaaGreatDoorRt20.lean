/-
  WHAT THE DOCUMENT'S ANSWER COMPUTES, layer 1: the token at a place.
-/
import Derived.Test.YtlomcifkckgneaaGreatDoorRt14
open Nat (reduceEqDiff reduceAdd reduceLT reduceLeDiff reduceSub)
set_option linter.unusedSimpArgs false
set_option linter.unusedVariables false
namespace Go.Abs
open Go Go.Proofs
set_option maxRecDepth 10000
attribute [local go_sem] c7 bF cD bW bZ db cJ cE a7 ck ce cF c8 bS opd avOf cvOf St.degAt St.put okPV d6 okAV du dv dt cU aM if_true Bool.false_eq_true if_false Option.map_some Option.map_none Option.bind_some Option.bind_none dY dV upd List.toList_toArray cR steal bz mvB dE cV cT AV.deg CV.deg AV.gv AV.isIter cN cI bU List.length_nil List.length_cons List.filterMap_cons List.filterMap_nil beq_iff_eq List.getElem?_cons_zero List.getElem?_cons_succ Option.getD_some d8 eV Bool.false_and Bool.and_false Bool.and_self K_P fq co cO bw lend back idx dedup AV.ren CV.ren TV.ren AV.ptrs CV.ptrs cX AV.flat CV.flat cz cg bc c9 dk eo cj aY cm bt bH cf br eF CV.pv? content bA ownT bd reps pvs chunks cd leave eB cK dr bT bv TV.deg TV.av LK CV.plain CV.noBld c5 eA bound List.map_cons List.map_nil List.all_cons List.all_nil List.any_cons List.any_nil List.contains_cons List.contains_nil List.elem_cons List.elem_nil List.cons_append List.nil_append List.append_nil List.flatMap_cons List.flatMap_nil List.zip_cons_cons List.zip_nil_left List.zip_nil_right List.take_succ_cons List.take_zero List.take_nil List.drop_succ_cons List.drop_zero List.drop_nil List.isEmpty_nil List.isEmpty_cons Bool.and_true Bool.true_and Bool.or_true Bool.true_or Bool.or_false Bool.false_or Bool.not_true Bool.not_false Nat.add_zero Nat.zero_add Option.isNone_none Option.isNone_some Option.getD_none true_and and_true not_true_eq_false not_false_eq_true decide_true decide_false Nat.le_refl and_self Bool.not_eq_true Nat.sub_self or_true true_or Option.some.injEq List.length_map List.nil_eq and_false false_and AV.live CV.live CV.liveIn dU bg Option.orElse_some Option.orElse_none head bm bh Int.lt_irrefl List.length_append ite_self dZ cA dc bC Key.clash Key.sees Key.writes Nat.lt_irrefl gt_iff_lt cH dH false_or or_false beq_self_eq_true Bool.true_beq Bool.false_beq xV DS bo ai HJ aZ G8 xP y8 G4
abbrev blH (s:List UInt8) (k:Nat):St := { sl:=upd (upd (upd bot 6 (I k)) 4 (.c (.loc 4 0))) 0 (T s),bx:=upd nobox 4 (some [.pv (.int .i64 0),.pv (.str []),.pv (.int .i64 0)]),nt:=181 }
theorem Kr (s:List UInt8) (hs:s.length<4000000000):∀ (rest:List UInt8) (k:Nat),s.drop k=rest→k≤s.length →
  Ends (exL K 65 (.loop (ap Tryz.f65 5)) (blH s k)) fun o S=>o=.exit 0∧S.nt=181∧S.sl 4=.c (.loc 4 0)∧S.sl 6=I (k+Tk.run Tk.blank rest:Nat)∧S.bx=upd nobox 4 (some [.pv (.int .i64 0),.pv (.str []),.pv (.int .i64 0)]):=by
 intro rest
 induction rest with
 | nil =>
  intro k hd hk;have d1:=gW s k hs
  rw[hd] at d1
  have v0:atC [] = -1:=rfl
  rw[v0] at d1
  have e0:((-1:Int)==4)=false:=by decide
  conv in ap _ _=>whnf
  rw[aq];simp only[go_sem,reduceLT,reduceCtorEq,reduceEqDiff,Nat.reduceBEq,reduceAdd,ar,d1,e0,Tk.rj]
 | cons c rest ih =>
  intro k hd hk;obtain⟨g1,g2,g3⟩:=bE hd;have d1:=gW s k hs
  rw[hd] at d1
  have v0:atC (c::rest)=fw c:=rfl
  rw[v0] at d1
  obtain⟨_,_,_,f,_⟩:=jt c
  conv in ap _ _=>whnf
  rw[aq];cases b:(fw c==4)
  ·rw[b] at f
   have hv:Tk.run Tk.blank (c::rest)=0:=by rw[Tk.run,←f];rfl
   simp only[go_sem,reduceLT,reduceCtorEq,reduceEqDiff,Nat.reduceBEq,reduceAdd,ar,d1,b,hv]
  ·rw[b] at f
   have hv:k+1+Tk.run Tk.blank rest=k+Tk.run Tk.blank (c::rest):=by rw[Tk.run,if_pos f.symm];omega
   have ih':=ih (k+1) g2 (by omega)
   rw[hv] at ih'
   conv at ih' in ap _ _=>whnf
   simp only[go_sem,reduceLT,reduceCtorEq,reduceEqDiff,Nat.reduceBEq,reduceAdd,d1,b,bf k (by omega)]
   rw[au];simp only[go_sem,reduceCtorEq,reduceEqDiff];exact ih'
def gi (o:Option Tok):Tok:=o.getD ⟨0,[],0⟩
set_option maxHeartbeats 32000000 in
theorem Di (s:List UInt8) (i:Nat) (c:UInt8) (r:List UInt8) (hs:s.length<4000000000) (hd:s.drop i=c::r) :
  den K 65 [T s,I i] []=some (.ret (eE (gi (Tk.step c r).1) (i+(Tk.step c r).2)) []):=by
 have hr:Tryz.f65.results=#[.cell 4 91,.tmp 5]:=rfl
 obtain⟨g1,g2,g3⟩:=bE hd;have hlen:s.length=i+1+r.length:=by
  have:=congrArg List.length hd
  rw[List.length_drop,List.length_cons] at this
  omega
 have wi:=bf i (by omega)
 have d4:=gW s i hs
 have d5:=gW s (i+1) hs
 rw[hd] at d4
 rw[g2] at d5
 have v0:atC (c::r)=fw c:=rfl
 rw[v0] at d4
 obtain⟨_,f2,_,f4,_⟩:=jt c;obtain⟨_,f5,_,_,_⟩:=pL r;have e47:((c.toNat:Int)==47)=(c==47):=eY c 47
 have e34:((c.toNat:Int)==34)=(c==34):=eY c 34
 have e39:((c.toNat:Int)==39)=(c==39):=eY c 39
 have e35:((c.toNat:Int)==35)=(c==35):=eY c 35
 have e64:((c.toNat:Int)==64)=(c==64):=eY c 64
 have e45:((c.toNat:Int)==45)=(c==45):=eY c 45
 have hB0:=n8 s i hs (by omega)
 have hB1:=n8 s (i+1) hs (by omega)
 have hN0:=p9 s i hs (by omega)
 have hN1:=p9 s (i+1) hs (by omega)
 rw[hd] at hB0 hN0;rw[g2] at hB1 hN1;have hI:=AX s i c r hs hd
 have hsd:(s.take (i+1)).drop i=[c]:=by rw[List.drop_take,hd];rw[show i+1 - i=1 by omega];rfl
 have bd1:(((i+1:Nat):Int)≤(s.length:Int))=True:=eq_true (by omega)
 have bd2:(((i:Nat):Int)≤((i+1:Nat):Int))=True:=eq_true (by omega)
 have nz:∀ d:UInt8,c=d→Tk.within d=false→Tk.gy (c::r)=false:=fun d h hw=>Tk.sV (c:=d) (by rw[Tk.mA];exact h) hw
 have hrl:=Tk.run_le (p:=Tk.within) r
 have hlt1:∀ d r',r=d::r'→decide (((i+1:Nat):Int)<(s.length:Int))=true:=fun d r' h=>decide_eq_true (by rw[hlen,h];simp;omega)
 by_cases h47:c=47
 ·have q47:(c==47)=true:=by simp[h47]
  rw[q47] at e47
  have q34:(c==34)=false:=by simp[h47]
  have q39:(c==39)=false:=by simp[h47]
  have q35:(c==35)=false:=by simp[h47]
  have q64:(c==64)=false:=by simp[h47]
  have q45:(c==45)=false:=by simp[h47]
  have qd:Tk.digit c=false:=by rw[h47];decide
  have qb:Tk.blank c=false:=by rw[h47];decide
  have qn:=nz 47 h47 (by decide)
  rw[q34] at e34
  rw[q39] at e39
  rw[q35] at e35
  rw[q64] at e64
  rw[q45] at e45
  rw[qd] at f2
  rw[qb] at f4
  rw[qn] at hB0;have hdef:¬ (c=47∧Tk.at0 r=42)→Tk.step c r=(some ⟨7,[c],0⟩,1):=fun h1=>by
   unfold Tk.step;rw[if_neg h1,if_neg (by simp[qb]),if_neg (fun x=>by rcases x.1 with x|x<;>(rw[h47] at x;exact absurd x (by decide))),if_neg (fun x=>by rw[h47] at x;exact absurd x.1 (by decide)),if_neg (fun x=>by rw[h47] at x;exact absurd x.1 (by decide)),if_neg (by simp[qd]),if_neg (fun x=>by rw[h47] at x;exact absurd x.1 (by decide)),if_neg (by rw[Tk.iW qn];omega)]
  cases r with
  | nil =>
   have e:=hdef (fun h=>absurd h.2 (by decide))
   have hl0:decide (((i+1:Nat):Int)<(s.length:Int))=false:=decide_eq_false (by rw[hlen];simp)
   rw[e];refine ah rfl rfl Tryz.func65 rfl Tryz.ntmps65 ⟨by simp,by simp[LK]⟩ ?_
   simp only[go_sem,reduceLT,reduceCtorEq,reduceEqDiff,Nat.reduceBEq,reduceAdd,reduceSub,reduceLeDiff,a8 al,aA al,ab ai am,ax al,hr,Int.natCast_nonneg,Int.toNat_natCast,eE,Tok.cells,gi,Option.getD_some,g1,e47,hl0,d4,f4,e34,e39,e35,e64,f2,e45,hB0,wi,hsd,bd1,bd2]
  | cons d r' =>
   have hl0:=hlt1 d r' rfl
   obtain⟨k1,k2,k3⟩:=bE g2;have e42:((d.toNat:Int)==42)=(d==42):=eY d 42
   by_cases h42:d=42
   ·have q42:(d==42)=true:=by simp[h42]
    rw[q42] at e42
    have e:Tk.step c (d::r')=(none,Tk.comment r'):=by unfold Tk.step;rw[if_pos ⟨h47,h42⟩];rfl
    have hC:=wo s i hs (by rw[hlen];simp;omega)
    have g4:s.drop (i+2)=r':=k2
    rw[g4] at hC;rw[e];refine ah rfl rfl Tryz.func65 rfl Tryz.ntmps65 ⟨by simp,by simp[LK]⟩ ?_
    simp only[go_sem,reduceLT,reduceCtorEq,reduceEqDiff,Nat.reduceBEq,reduceAdd,reduceSub,reduceLeDiff,a8 al,aA al,ab ai am,hr,Int.natCast_nonneg,Int.toNat_natCast,eE,Tok.cells,gi,Option.getD_none,g1,k1,wi,e47,hl0,e42,hC]
   ·have q42:(d==42)=false:=by simpa using h42
    rw[q42] at e42
    have e:=hdef (fun h=>h42 h.2)
    rw[e];refine ah rfl rfl Tryz.func65 rfl Tryz.ntmps65 ⟨by simp,by simp[LK]⟩ ?_
    simp only[go_sem,reduceLT,reduceCtorEq,reduceEqDiff,Nat.reduceBEq,reduceAdd,reduceSub,reduceLeDiff,a8 al,aA al,ab ai am,ax al,hr,Int.natCast_nonneg,Int.toNat_natCast,eE,Tok.cells,gi,Option.getD_some,g1,k1,e47,hl0,e42,d4,f4,e34,e39,e35,e64,f2,e45,hB0,wi,hsd,bd1,bd2]
 have q47:(c==47)=false:=by simpa using h47
 rw[q47] at e47
 have h1:¬ (c=47∧Tk.at0 r=42):=fun h=>h47 h.1
 by_cases h2:Tk.blank c=true
 ·have e:Tk.step c r=(some ⟨8,[10],0⟩,Tk.run Tk.blank (c::r)):=by unfold Tk.step;rw[if_neg h1,if_pos h2]
  rw[h2] at f4
  have hl:=Kr s hs (c::r) i hd (by omega)
  conv at hl in ap _ _=>whnf
  obtain⟨o,S',w,rfl,fn,f4',f6,fb⟩:=hl;rw[e];refine ah rfl rfl Tryz.func65 rfl Tryz.ntmps65 ⟨by simp,by simp[LK]⟩ ?_
  simp only[go_sem,reduceLT,reduceCtorEq,reduceEqDiff,Nat.reduceBEq,reduceAdd,reduceSub,reduceLeDiff,a8 al,ab ai am,hr,Int.natCast_nonneg,Int.toNat_natCast,eE,Tok.cells,gi,Option.getD_some,g1,e47,d4,f4];rw[au];simp only[go_sem,reduceCtorEq,reduceEqDiff,reduceSub,reduceLeDiff];erw [w];simp only[go_sem,reduceLT,reduceEqDiff,Nat.reduceBEq,reduceAdd,reduceLeDiff,ab ai am,fn,f4',f6,fb]
 have qb:Tk.blank c=false:=by simpa using h2
 rw[qb] at f4
 by_cases hq:c=34∨c=39
 ·have q35:(c==35)=false:=by rcases hq with rfl|rfl<;>decide
  have q64:(c==64)=false:=by rcases hq with rfl|rfl<;>decide
  have q45:(c==45)=false:=by rcases hq with rfl|rfl<;>decide
  have qd:Tk.digit c=false:=by rcases hq with rfl|rfl<;>decide
  have qn:=nz c rfl (by rcases hq with rfl|rfl<;>decide)
  have q3:(((c.toNat:Int)==34)=true)∨(((c.toNat:Int)==34)=false∧((c.toNat:Int)==39)=true):=by rcases hq with rfl|rfl<;>decide
  rw[q35] at e35
  rw[q64] at e64
  rw[q45] at e45
  rw[qd] at f2
  rw[qn] at hB0;clear e34 e39;unfold BH at hI;cases hi:Tk.inner c r with
  | none =>
   rw[hi] at hI;have en:decide ((0:Int) < -1)=false:=by decide
   have e:Tk.step c r=(some ⟨7,[c],0⟩,1):=by
    unfold Tk.step;rw[if_neg h1,if_neg h2,if_neg (fun x=>by rw[hi] at x;cases x.2),if_neg (fun x=>by simp[x.1] at q35),if_neg (fun x=>by simp[x.1] at q64),if_neg (by simp[qd]),if_neg (fun x=>by simp[x.1] at q45),if_neg (by rw[Tk.iW qn];omega)]
   rcases q3 with e34|⟨e34,e39⟩
   ·
    rw[e];refine ah rfl rfl Tryz.func65 rfl Tryz.ntmps65 ⟨by simp,by simp[LK]⟩ ?_
    simp only[go_sem,reduceLT,reduceCtorEq,reduceEqDiff,Nat.reduceBEq,reduceAdd,reduceSub,reduceLeDiff,a8 al,ab ai am,ax al,dG d9 cQ,hr,Int.natCast_nonneg,Int.toNat_natCast,eE,Tok.cells,gi,Option.getD_some,g1,e47,d4,f4,e34,hI,en,e35,e64,f2,e45,hB0,wi,hsd,bd1,bd2]
   ·
    rw[e];refine ah rfl rfl Tryz.func65 rfl Tryz.ntmps65 ⟨by simp,by simp[LK]⟩ ?_
    simp only[go_sem,reduceLT,reduceCtorEq,reduceEqDiff,Nat.reduceBEq,reduceAdd,reduceSub,reduceLeDiff,a8 al,ab ai am,ax al,dG d9 cQ,hr,Int.natCast_nonneg,Int.toNat_natCast,eE,Tok.cells,gi,Option.getD_some,g1,e47,d4,f4,e34,e39,hI,en,e35,e64,f2,e45,hB0,wi,hsd,bd1,bd2]
  | some n =>
   rw[hi] at hI;have hnl:=Tk.pq hi
   have e:Tk.step c r=(some ⟨6,r.take n,c.toNat⟩,n+2):=by unfold Tk.step;rw[if_neg h1,if_neg h2,if_pos ⟨hq,by rw[hi];rfl⟩,hi];rfl
   have en:decide ((0:Int)<((i+1+n:Nat):Int))=true:=decide_eq_true (by omega)
   have hsl:(s.take (i+1+n)).drop (i+1)=r.take n:=by rw[List.drop_take,g2];congr 1;omega
   have b1:(((i+1+n:Nat):Int)≤(s.length:Int))=True:=eq_true (by omega)
   have b2:(((i+1:Nat):Int)≤((i+1+n:Nat):Int))=True:=eq_true (by omega)
   have w3:IntKind.i64.wrap (c.toNat:Int)=(c.toNat:Int):=IntWalk.i64_in _ (by have:=c.toNat_lt;omega)
   have w4:=bf (i+1+n) (by omega)
   have hend:i+(n+2)=i+1+n+1:=by omega
   rw[e];simp only[hend];rcases q3 with e34|⟨e34,e39⟩
   ·
    refine ah rfl rfl Tryz.func65 rfl Tryz.ntmps65 ⟨by simp,by simp[LK]⟩ ?_
    simp only[go_sem,reduceLT,reduceCtorEq,reduceEqDiff,Nat.reduceBEq,reduceAdd,reduceSub,reduceLeDiff,a8 al,ab ai am,ax al,dG d9 cQ,hr,Int.natCast_nonneg,Int.toNat_natCast,eE,Tok.cells,gi,Option.getD_some,g1,e47,d4,f4,e34,hI,en,wi,hsl,b1,b2,w3,w4]
   ·
    refine ah rfl rfl Tryz.func65 rfl Tryz.ntmps65 ⟨by simp,by simp[LK]⟩ ?_
    simp only[go_sem,reduceLT,reduceCtorEq,reduceEqDiff,Nat.reduceBEq,reduceAdd,reduceSub,reduceLeDiff,a8 al,ab ai am,ax al,dG d9 cQ,hr,Int.natCast_nonneg,Int.toNat_natCast,eE,Tok.cells,gi,Option.getD_some,g1,e47,d4,f4,e34,e39,hI,en,wi,hsl,b1,b2,w3,w4]
 rw[not_or] at hq;have q34:(c==34)=false:=by simpa using hq.1
 have q39:(c==39)=false:=by simpa using hq.2
 rw[q34] at e34
 rw[q39] at e39
 have h3:¬ ((c=34∨c=39)∧(Tk.inner c r).isSome=true):=fun x=>by rcases x.1 with x|x;exact hq.1 x;exact hq.2 x
 clear hI;by_cases h4:c=35
 ·have q35:(c==35)=true:=by simp[h4]
  have q64:(c==64)=false:=by simp[h4]
  have q45:(c==45)=false:=by simp[h4]
  have qd:Tk.digit c=false:=by rw[h4];decide
  have qn:=nz 35 h4 (by decide)
  rw[q35] at e35
  rw[q64] at e64
  rw[q45] at e45
  rw[qd] at f2
  rw[qn] at hB0;by_cases hpos:0<Tk.run Tk.within r
  ·have e:Tk.step c r=(some ⟨4,r.take (Tk.run Tk.within r),0⟩,Tk.run Tk.within r+1):=by unfold Tk.step;rw[if_neg h1,if_neg h2,if_neg h3,if_pos ⟨h4,hpos⟩]
   have hsl:(s.take (i+1+Tk.run Tk.within r)).drop (i+1)=r.take (Tk.run Tk.within r):=by rw[List.drop_take,g2];congr 1;omega
   have hend:i+(Tk.run Tk.within r+1)=i+1+Tk.run Tk.within r:=by omega
   rw[e];simp only[hend];generalize Tk.run Tk.within r=n at hN1 hrl hpos hsl;have en:decide (((i+1:Nat):Int)<((i+1+n:Nat):Int))=true:=decide_eq_true (by omega)
   have b1:(((i+1+n:Nat):Int)≤(s.length:Int))=True:=eq_true (by omega)
   have b2:(((i+1:Nat):Int)≤((i+1+n:Nat):Int))=True:=eq_true (by omega)
   refine ah rfl rfl Tryz.func65 rfl Tryz.ntmps65 ⟨by simp,by simp[LK]⟩ ?_
   simp only[go_sem,reduceLT,reduceCtorEq,reduceEqDiff,Nat.reduceBEq,reduceAdd,reduceSub,reduceLeDiff,a8 al,ab ai am,ax al,hr,Int.natCast_nonneg,Int.toNat_natCast,eE,Tok.cells,gi,Option.getD_some,g1,e47,d4,f4,e34,e39,e35,wi,hN1,en,hsl,b1,b2]
  ·have hr0:Tk.run Tk.within r=0:=by omega
   have e:Tk.step c r=(some ⟨7,[c],0⟩,1):=by
    unfold Tk.step;rw[if_neg h1,if_neg h2,if_neg h3,if_neg (fun x=>hpos x.2),if_neg (fun x=>by simp[x.1] at q64),if_neg (by simp[qd]),if_neg (fun x=>by simp[x.1] at q45),if_neg (by rw[Tk.iW qn];omega)]
   rw[hr0,Nat.add_zero] at hN1;rw[e];refine ah rfl rfl Tryz.func65 rfl Tryz.ntmps65 ⟨by simp,by simp[LK]⟩ ?_
   simp only[go_sem,reduceLT,reduceCtorEq,reduceEqDiff,Nat.reduceBEq,reduceAdd,reduceSub,reduceLeDiff,a8 al,ab ai am,ax al,hr,Int.natCast_nonneg,Int.toNat_natCast,Int.le_refl,eE,Tok.cells,gi,Option.getD_some,g1,e47,d4,f4,e34,e39,e35,hN1,Int.lt_irrefl,e64,f2,e45,hB0,wi,hsd,bd1,bd2]
 have q35:(c==35)=false:=by simpa using h4
 rw[q35] at e35
 by_cases h5:c=64
 ·have q64:(c==64)=true:=by simp[h5]
  have q45:(c==45)=false:=by simp[h5]
  have qd:Tk.digit c=false:=by rw[h5];decide
  have qn:=nz 64 h5 (by decide)
  rw[q64] at e64
  rw[q45] at e45
  rw[qd] at f2
  rw[qn] at hB0;cases hb:Tk.gy r
  ·rw[hb] at hB1;have e:Tk.step c r=(some ⟨7,[c],0⟩,1):=by
    unfold Tk.step;rw[if_neg h1,if_neg h2,if_neg h3,if_neg (fun x=>h4 x.1),if_neg (fun x=>by have:=Tk.iW hb;omega),if_neg (by simp[qd]),if_neg (fun x=>by simp[x.1] at q45),if_neg (by rw[Tk.iW qn];omega)]
   rw[e];refine ah rfl rfl Tryz.func65 rfl Tryz.ntmps65 ⟨by simp,by simp[LK]⟩ ?_
   simp only[go_sem,reduceLT,reduceCtorEq,reduceEqDiff,Nat.reduceBEq,reduceAdd,reduceSub,reduceLeDiff,a8 al,ab ai am,ax al,hr,Int.natCast_nonneg,Int.toNat_natCast,eE,Tok.cells,gi,Option.getD_some,g1,e47,d4,f4,e34,e39,e35,e64,hB1,f2,e45,hB0,wi,hsd,bd1,bd2]
  ·rw[hb] at hB1;have hnm:Tk.name r=Tk.run Tk.within r:=by rw[Tk.name,if_pos hb]
   have hpos:0<Tk.name r:=Tk.lN.2 hb
   have e:Tk.step c r=(some ⟨3,r.take (Tk.run Tk.within r),0⟩,Tk.run Tk.within r+1):=by unfold Tk.step;rw[if_neg h1,if_neg h2,if_neg h3,if_neg (fun x=>h4 x.1),if_pos ⟨h5,hpos⟩,hnm]
   have hsl:(s.take (i+1+Tk.run Tk.within r)).drop (i+1)=r.take (Tk.run Tk.within r):=by rw[List.drop_take,g2];congr 1;omega
   have hend:i+(Tk.run Tk.within r+1)=i+1+Tk.run Tk.within r:=by omega
   rw[e];simp only[hend];generalize Tk.run Tk.within r=n at hN1 hrl hsl;have b1:(((i+1+n:Nat):Int)≤(s.length:Int))=True:=eq_true (by omega)
   have b2:(((i+1:Nat):Int)≤((i+1+n:Nat):Int))=True:=eq_true (by omega)
   refine ah rfl rfl Tryz.func65 rfl Tryz.ntmps65 ⟨by simp,by simp[LK]⟩ ?_
   simp only[go_sem,reduceLT,reduceCtorEq,reduceEqDiff,Nat.reduceBEq,reduceAdd,reduceSub,reduceLeDiff,a8 al,ab ai am,ax al,hr,Int.natCast_nonneg,Int.toNat_natCast,eE,Tok.cells,gi,Option.getD_some,g1,e47,d4,f4,e34,e39,e35,e64,hB1,wi,hN1,hsl,b1,b2]
 have q64:(c==64)=false:=by simpa using h5
 rw[q64] at e64
 by_cases h6:Tk.digit c=true
 ·have q45:(c==45)=false:=by simpa using Tk.r9 h6 (d:=45) (by decide)
  have e:Tk.step c r=(some (Tk.number false (c::r)).1,(Tk.number false (c::r)).2):=Tk.qy h6
  have hnm:=qQ s i c r false (c::r) hs hd q45 rfl
  simp only[Bool.false_eq_true,if_false,Nat.add_zero,eE,Tok.cells] at hnm;rw[h6] at f2
  rw[e];refine ah rfl rfl Tryz.func65 rfl Tryz.ntmps65 ⟨by simp,by simp[LK]⟩ ?_
  simp only[go_sem,reduceLT,reduceCtorEq,reduceEqDiff,Nat.reduceBEq,reduceAdd,reduceSub,reduceLeDiff,a8 al,ab ai am,hr,Int.natCast_nonneg,Int.toNat_natCast,eE,Tok.cells,gi,Option.getD_some,g1,e47,d4,f4,e34,e39,e35,e64,f2,hnm,TV.flat]
 have qd:Tk.digit c=false:=by simpa using h6
 rw[qd] at f2
 by_cases h7:c=45∧Tk.digit (Tk.at0 r)=true
 ·have q45:(c==45)=true:=by simp[h7.1]
  have e:Tk.step c r=(some (Tk.number true r).1,(Tk.number true r).2+1):=by rw[h7.1];exact Tk.tw h7.2
  have hnm:=qQ s i c r true r hs hd q45 rfl
  simp only[if_true,eE,Tok.cells] at hnm;have hend:i+((Tk.number true r).2+1)=i+1+(Tk.number true r).2:=by omega
  rw[q45] at e45
  rw[h7.2] at f5
  rw[e];simp only[hend];refine ah rfl rfl Tryz.func65 rfl Tryz.ntmps65 ⟨by simp,by simp[LK]⟩ ?_
  simp only[go_sem,reduceLT,reduceCtorEq,reduceEqDiff,Nat.reduceBEq,reduceAdd,reduceSub,reduceLeDiff,a8 al,ab ai am,hr,Int.natCast_nonneg,Int.toNat_natCast,eE,Tok.cells,gi,Option.getD_some,g1,e47,d4,f4,e34,e39,e35,e64,f2,e45,wi,d5,f5,hnm,TV.flat]
 have e0:Tk.step c r=if 0<Tk.name (c::r) then if Tk.at0 ((c::r).drop (Tk.name (c::r)))=40 then(some ⟨2,(c::r).take (Tk.name (c::r)),0⟩,Tk.name (c::r)+1) else(some ⟨1,(c::r).take (Tk.name (c::r)),0⟩,Tk.name (c::r)) else(some ⟨7,[c],0⟩,1):=by
  unfold Tk.step;rw[if_neg h1,if_neg h2,if_neg h3,if_neg (fun x=>h4 x.1),if_neg (fun x=>h5 x.1),if_neg h6,if_neg h7]
 have hm:(((c.toNat:Int)==45)=false)∨(((c.toNat:Int)==45)=true∧(atC r==2)=false):=by
  cases q:(c==45)
  ·left;rw[e45,q]
  ·right
   refine⟨by rw[e45,q],?_⟩
   rw[f5];cases hh:Tk.digit (Tk.at0 r)
   ·rfl
   ·exact absurd ⟨by simpa using q,hh⟩ h7
 clear e45 f5;cases hb:Tk.gy (c::r)
 ·rw[hb] at hB0;have e:Tk.step c r=(some ⟨7,[c],0⟩,1):=by rw[e0,if_neg (by rw[Tk.iW hb];omega)]
  rcases hm with m1|⟨m1,m2⟩
  ·
   rw[e];refine ah rfl rfl Tryz.func65 rfl Tryz.ntmps65 ⟨by simp,by simp[LK]⟩ ?_
   simp only[go_sem,reduceLT,reduceCtorEq,reduceEqDiff,Nat.reduceBEq,reduceAdd,reduceSub,reduceLeDiff,a8 al,ab ai am,ax al,hr,Int.natCast_nonneg,Int.toNat_natCast,eE,Tok.cells,gi,Option.getD_some,g1,e47,d4,f4,e34,e39,e35,e64,f2,m1,hB0,wi,hsd,bd1,bd2]
  ·
   rw[e];refine ah rfl rfl Tryz.func65 rfl Tryz.ntmps65 ⟨by simp,by simp[LK]⟩ ?_
   simp only[go_sem,reduceLT,reduceCtorEq,reduceEqDiff,Nat.reduceBEq,reduceAdd,reduceSub,reduceLeDiff,a8 al,ab ai am,ax al,hr,Int.natCast_nonneg,Int.toNat_natCast,eE,Tok.cells,gi,Option.getD_some,g1,e47,d4,f4,e34,e39,e35,e64,f2,m1,d5,m2,hB0,wi,hsd,bd1,bd2]
 ·rw[hb] at hB0;have hnm:Tk.name (c::r)=Tk.run Tk.within (c::r):=by rw[Tk.name,if_pos hb]
  have hpos:0<Tk.name (c::r):=Tk.lN.2 hb
  rw[if_pos hpos,hnm] at e0
  have hle:=Tk.run_le (p:=Tk.within) (c::r)
  rw[List.length_cons] at hle;have hsl:(s.take (i+Tk.run Tk.within (c::r))).drop i=(c::r).take (Tk.run Tk.within (c::r)):=by rw[List.drop_take,hd];congr 1;omega
  have hat:s.drop (i+Tk.run Tk.within (c::r))=(c::r).drop (Tk.run Tk.within (c::r)):=by rw[←List.drop_drop,hd]
  have hcell:=yN s (i+Tk.run Tk.within (c::r))
  rw[hat] at hcell;have e40:(((Tk.at0 ((c::r).drop (Tk.run Tk.within (c::r)))).toNat:Int)==40)=(Tk.at0 ((c::r).drop (Tk.run Tk.within (c::r)))==40):=eY _ 40
  rw[e0];generalize (c::r).drop (Tk.run Tk.within (c::r))=rd at hcell e40;generalize (c::r).take (Tk.run Tk.within (c::r))=tx at hsl;generalize Tk.run Tk.within (c::r)=n at hN0 hle hsl hcell;have b1:(((i+n:Nat):Int)≤(s.length:Int))=True:=eq_true (by omega)
  have b2:(((i:Nat):Int)≤((i+n:Nat):Int))=True:=eq_true (by omega)
  have w4:=bf (i+n) (by omega)
  rcases hcell with⟨_,hz,hge⟩|⟨hlt,hget⟩
  ·have el:decide (((i+n:Nat):Int)<(s.length:Int))=false:=decide_eq_false (by omega)
   rw[if_neg (by rw[hz];decide)]
   rcases hm with m1|⟨m1,m2⟩
   ·
    refine ah rfl rfl Tryz.func65 rfl Tryz.ntmps65 ⟨by simp,by simp[LK]⟩ ?_
    simp only[go_sem,reduceLT,reduceCtorEq,reduceEqDiff,Nat.reduceBEq,reduceAdd,reduceSub,reduceLeDiff,a8 al,aA al,ab ai am,ax al,hr,Int.natCast_nonneg,Int.toNat_natCast,eE,Tok.cells,gi,Option.getD_some,g1,e47,d4,f4,e34,e39,e35,e64,f2,m1,hB0,hN0,el,hsl,b1,b2]
   ·
    refine ah rfl rfl Tryz.func65 rfl Tryz.ntmps65 ⟨by simp,by simp[LK]⟩ ?_
    simp only[go_sem,reduceLT,reduceCtorEq,reduceEqDiff,Nat.reduceBEq,reduceAdd,reduceSub,reduceLeDiff,a8 al,aA al,ab ai am,ax al,hr,Int.natCast_nonneg,Int.toNat_natCast,eE,Tok.cells,gi,Option.getD_some,g1,e47,d4,f4,e34,e39,e35,e64,f2,m1,wi,d5,m2,hB0,hN0,el,hsl,b1,b2]
  ·have el:decide (((i+n:Nat):Int)<(s.length:Int))=true:=decide_eq_true (by omega)
   by_cases h40:Tk.at0 rd=40
   ·have q40:(Tk.at0 rd==40)=true:=by simpa using h40
    rw[q40] at e40
    rw[if_pos h40];simp only[←Nat.add_assoc];rcases hm with m1|⟨m1,m2⟩
    ·
     refine ah rfl rfl Tryz.func65 rfl Tryz.ntmps65 ⟨by simp,by simp[LK]⟩ ?_
     simp only[go_sem,reduceLT,reduceCtorEq,reduceEqDiff,Nat.reduceBEq,reduceAdd,reduceSub,reduceLeDiff,a8 al,aA al,ab ai am,ax al,hr,Int.natCast_nonneg,Int.toNat_natCast,eE,Tok.cells,gi,Option.getD_some,g1,e47,d4,f4,e34,e39,e35,e64,f2,m1,hB0,hN0,el,hget,e40,hsl,b1,b2,w4]
    ·
     refine ah rfl rfl Tryz.func65 rfl Tryz.ntmps65 ⟨by simp,by simp[LK]⟩ ?_
     simp only[go_sem,reduceLT,reduceCtorEq,reduceEqDiff,Nat.reduceBEq,reduceAdd,reduceSub,reduceLeDiff,a8 al,aA al,ab ai am,ax al,hr,Int.natCast_nonneg,Int.toNat_natCast,eE,Tok.cells,gi,Option.getD_some,g1,e47,d4,f4,e34,e39,e35,e64,f2,m1,wi,d5,m2,hB0,hN0,el,hget,e40,hsl,b1,b2,w4]
   ·have q40:(Tk.at0 rd==40)=false:=by simpa using h40
    rw[q40] at e40
    rw[if_neg h40];rcases hm with m1|⟨m1,m2⟩
    ·
     refine ah rfl rfl Tryz.func65 rfl Tryz.ntmps65 ⟨by simp,by simp[LK]⟩ ?_
     simp only[go_sem,reduceLT,reduceCtorEq,reduceEqDiff,Nat.reduceBEq,reduceAdd,reduceSub,reduceLeDiff,a8 al,aA al,ab ai am,ax al,hr,Int.natCast_nonneg,Int.toNat_natCast,eE,Tok.cells,gi,Option.getD_some,g1,e47,d4,f4,e34,e39,e35,e64,f2,m1,hB0,hN0,el,hget,e40,hsl,b1,b2]
    ·
     refine ah rfl rfl Tryz.func65 rfl Tryz.ntmps65 ⟨by simp,by simp[LK]⟩ ?_
     simp only[go_sem,reduceLT,reduceCtorEq,reduceEqDiff,Nat.reduceBEq,reduceAdd,reduceSub,reduceLeDiff,a8 al,aA al,ab ai am,ax al,hr,Int.natCast_nonneg,Int.toNat_natCast,eE,Tok.cells,gi,Option.getD_some,g1,e47,d4,f4,e34,e39,e35,e64,f2,m1,wi,d5,m2,hB0,hN0,el,hget,e40,hsl,b1,b2]
end Go.Abs
