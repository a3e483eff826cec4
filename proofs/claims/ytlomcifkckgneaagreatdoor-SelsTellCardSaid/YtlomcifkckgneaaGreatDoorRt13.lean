/-
  WHAT THE FUNCTIONS COMPUTE, layer 4, the document's reader of selectors: a simple selector.
-/
import Derived.Test.YtlomcifkckgneaaGreatDoorRt12
set_option maxHeartbeats 8000000
open Nat (reduceEqDiff reduceAdd reduceLT reduceLeDiff reduceSub)
set_option linter.unusedSimpArgs false
set_option linter.unusedVariables false
namespace Go.Abs
open Go Go.Proofs
set_option maxRecDepth 10000
attribute [local go_sem] c7 bF cD bW bZ db cJ cE a7 ck ce cF c8 bS opd avOf cvOf St.degAt St.put okPV d6 okAV du dv dt cU aM if_true Bool.false_eq_true if_false Option.map_some Option.map_none Option.bind_some Option.bind_none dY dV upd List.toList_toArray cR steal bz mvB dE cV cT AV.deg CV.deg AV.gv AV.isIter cN cI bU List.length_nil List.length_cons List.filterMap_cons List.filterMap_nil beq_iff_eq List.getElem?_cons_zero List.getElem?_cons_succ Option.getD_some d8 eV Bool.false_and Bool.and_false Bool.and_self K_P fq co cO bw lend back idx dedup AV.ren CV.ren TV.ren AV.ptrs CV.ptrs cX AV.flat CV.flat cz cg bc c9 dk eo cj aY cm bt bH cf br eF CV.pv? content bA ownT bd reps pvs chunks cd leave eB cK dr bT bv TV.deg TV.av LK CV.plain CV.noBld c5 eA bound List.map_cons List.map_nil List.all_cons List.all_nil List.any_cons List.any_nil List.contains_cons List.contains_nil List.elem_cons List.elem_nil List.cons_append List.nil_append List.append_nil List.flatMap_cons List.flatMap_nil List.zip_cons_cons List.zip_nil_left List.zip_nil_right List.take_succ_cons List.take_zero List.take_nil List.drop_succ_cons List.drop_zero List.drop_nil List.isEmpty_nil List.isEmpty_cons Bool.and_true Bool.true_and Bool.or_true Bool.true_or Bool.or_false Bool.false_or Bool.not_true Bool.not_false Nat.add_zero Nat.zero_add Option.isNone_none Option.isNone_some Option.getD_none true_and and_true not_true_eq_false not_false_eq_true decide_true decide_false Nat.le_refl and_self Bool.not_eq_true Nat.sub_self or_true true_or Option.some.injEq List.length_map List.nil_eq and_false false_and AV.live CV.live CV.liveIn dU bg Option.orElse_some Option.orElse_none head bm bh Int.lt_irrefl List.length_append ite_self dZ cA dc bC Key.clash Key.sees Key.writes Nat.lt_irrefl gt_iff_lt cH dH false_or or_false beq_self_eq_true Bool.true_beq Bool.false_beq dL ae se dA bG wM mG dh py ai aZ cB gp dz aL bX Iz yK aF bq eK dP ff GU gu jQ ju dp
def hU (g:List Val→Option (Sim×List Val)) (l:List Val):Option (Sim×List Val) :=
  match Sl.tokK 4 l with
  | some t=>some (.mk 3 t.text [] 0 0 [],l.tail)
  | none =>
  match Sl.sign [46] l with
  | some r=>(Sl.name r).map fun x=>(.mk 4 x.1 [] 0 0 [],x.2)
  | none =>
  match Sl.sign [58] l with
  | some r=>Sl.colon g r
  | none =>
  match Sl.eP 3 l with
  | some x=>(Sl.attr x.1.2).map fun y=>(y,x.2)
  | none=>none
theorem pi (g:List Val→Option (Sim×List Val)) (l:List Val):gm g false l=hU g l:=rfl
theorem qw (g:List Val→Option (Sim×List Val)) (l:List Val) (h1:Sl.tokK 1 l=none) (h2:Sl.sign [42] l=none):gm g true l=hU g l:=by
 unfold gm;simp only[h1,h2,if_true];rfl
def Front (l:List Val) (i:Nat) (first:Bool):Prop:=first=false∨(Sl.tokK 1 (l.drop i)=none∧Sl.sign [42] (l.drop i)=none)
theorem yH (l:List Val) (i:Nat) (first:Bool) (hl:l.length≤100000000) (hf:Front l i first) (t:Tok) (ht:Sl.tokK 4 (l.drop i)=some t) :
  den K 95 [P0,B first] [rb0 l i false]=some (.ret (.agg (eL (.mk 3 t.text [] 0 0 []))) [rb0 l (i+1) false])∧i<l.length:=by
 have hr:Tryz.f95.results=#[.cell 4 52]:=rfl
 obtain⟨h1,h2⟩:=r6 ht;have hi:=CP ht
 refine⟨?_,hi⟩
 have tk:=ee l i false 4 hl
 rw[h1] at tk
 have e4:(t.kind==4)=true:=by rw[h2];rfl
 have hw:IntKind.i64.wrap ((i:Int)+1)=((i+1:Nat):Int):=bf i (by omega)
 simp only[rb0,aU] at tk ⊢
 rcases hf with rfl|⟨hf1,hf2⟩
 ·refine ah rfl rfl Tryz.func95 rfl Tryz.ntmps95 ⟨by simp,by simp[LK]⟩ ?_
  simp only[go_sem,reduceLT,reduceCtorEq,reduceEqDiff,Nat.reduceBEq,reduceAdd,reduceSub,reduceLeDiff,ab ae aj,hr,tk,e4,hw]
 ·cases first
  ·refine ah rfl rfl Tryz.func95 rfl Tryz.ntmps95 ⟨by simp,by simp[LK]⟩ ?_
   simp only[go_sem,reduceLT,reduceCtorEq,reduceEqDiff,Nat.reduceBEq,reduceAdd,reduceSub,reduceLeDiff,ab ae aj,hr,tk,e4,hw]
  ·have ft:=ee l i false 1 hl
   rw[fX hf1] at ft
   have fs:=fl l i false [42] hl hf2
   simp only[rb0,Ne.tok0] at ft fs
   refine ah rfl rfl Tryz.func95 rfl Tryz.ntmps95 ⟨by simp,by simp[LK]⟩ ?_
   simp only[go_sem,reduceLT,reduceCtorEq,reduceEqDiff,Nat.reduceBEq,reduceAdd,reduceSub,reduceLeDiff,ab ae aj,hr,ft,fs,tk,e4,hw,Int.reduceBEq]
theorem Bg (l:List Val) (i:Nat) (first:Bool) (hl:l.length≤100000000) (hf:Front l i first) (h4:Sl.tokK 4 (l.drop i)=none) (r:List Val) (hs:Sl.sign [46] (l.drop i)=some r) (s:List UInt8) (r2:List Val) (hn:Sl.name r=some (s,r2)) :
  den K 95 [P0,B first] [rb0 l i false]=some (.ret (.agg (eL (.mk 4 s [] 0 0 []))) [rb0 l (i+2) false])∧l.drop (i+2)=r2∧i+1<l.length:=by
 have hr:Tryz.f95.results=#[.cell 4 52]:=rfl
 have tk:=ee l i false 4 hl
 rw[fX h4] at tk
 simp only[rb0,Ne.tok0] at tk
 obtain⟨sa,sd,si⟩:=gJ l i false [46] hl r hs;obtain⟨na,nd,ni⟩:=nw l (i+1) false hl s r2 (by rw[sd];exact hn)
 refine⟨?_,nd,ni⟩
 simp only[rb0,aU] at sa na ⊢
 rcases hf with rfl|⟨hf1,hf2⟩
 ·refine ah rfl rfl Tryz.func95 rfl Tryz.ntmps95 ⟨by simp,by simp[LK]⟩ ?_
  simp only[go_sem,reduceLT,reduceCtorEq,reduceEqDiff,Nat.reduceBEq,reduceAdd,reduceSub,reduceLeDiff,ab ae aj,hr,tk,sa,na,Int.reduceBEq]
 ·cases first
  ·refine ah rfl rfl Tryz.func95 rfl Tryz.ntmps95 ⟨by simp,by simp[LK]⟩ ?_
   simp only[go_sem,reduceLT,reduceCtorEq,reduceEqDiff,Nat.reduceBEq,reduceAdd,reduceSub,reduceLeDiff,ab ae aj,hr,tk,sa,na,Int.reduceBEq]
  ·have ft:=ee l i false 1 hl
   rw[fX hf1] at ft
   have fs:=fl l i false [42] hl hf2
   simp only[rb0,Ne.tok0] at ft fs
   refine ah rfl rfl Tryz.func95 rfl Tryz.ntmps95 ⟨by simp,by simp[LK]⟩ ?_
   simp only[go_sem,reduceLT,reduceCtorEq,reduceEqDiff,Nat.reduceBEq,reduceAdd,reduceSub,reduceLeDiff,ab ae aj,hr,ft,fs,tk,sa,na,Int.reduceBEq]
theorem yk (l:List Val) (i:Nat) (first:Bool) (hl:l.length≤100000000) (hf:Front l i first) (h4:Sl.tokK 4 (l.drop i)=none) (r:List Val) (hs:Sl.sign [46] (l.drop i)=some r) (hn:Sl.name r=none) :
  den K 95 [P0,B first] [rb0 l i false]=some (.ret (.agg (eL (.mk 4 [] [] 0 0 []))) [rb0 l (i+1) true]):=by
 have hr:Tryz.f95.results=#[.cell 4 52]:=rfl
 have tk:=ee l i false 4 hl
 rw[fX h4] at tk
 simp only[rb0,Ne.tok0] at tk
 obtain⟨sa,sd,si⟩:=gJ l i false [46] hl r hs;have na:=sJ l (i+1) false hl (by rw[sd];exact hn)
 simp only[rb0,aU] at sa na ⊢
 rcases hf with rfl|⟨hf1,hf2⟩
 ·refine ah rfl rfl Tryz.func95 rfl Tryz.ntmps95 ⟨by simp,by simp[LK]⟩ ?_
  simp only[go_sem,reduceLT,reduceCtorEq,reduceEqDiff,Nat.reduceBEq,reduceAdd,reduceSub,reduceLeDiff,ab ae aj,hr,tk,sa,na,Int.reduceBEq]
 ·cases first
  ·refine ah rfl rfl Tryz.func95 rfl Tryz.ntmps95 ⟨by simp,by simp[LK]⟩ ?_
   simp only[go_sem,reduceLT,reduceCtorEq,reduceEqDiff,Nat.reduceBEq,reduceAdd,reduceSub,reduceLeDiff,ab ae aj,hr,tk,sa,na,Int.reduceBEq]
  ·have ft:=ee l i false 1 hl
   rw[fX hf1] at ft
   have fs:=fl l i false [42] hl hf2
   simp only[rb0,Ne.tok0] at ft fs
   refine ah rfl rfl Tryz.func95 rfl Tryz.ntmps95 ⟨by simp,by simp[LK]⟩ ?_
   simp only[go_sem,reduceLT,reduceCtorEq,reduceEqDiff,Nat.reduceBEq,reduceAdd,reduceSub,reduceLeDiff,ab ae aj,hr,ft,fs,tk,sa,na,Int.reduceBEq]
theorem o6 (l:List Val) (i:Nat) (first:Bool) (hl:l.length≤100000000) (hf:Front l i first) (h4:Sl.tokK 4 (l.drop i)=none) (h5:Sl.sign [46] (l.drop i)=none) (r:List Val) (hs:Sl.sign [58] (l.drop i)=some r) (x:Sim) (j:Nat) (bad:Bool) (hc:den K 143 [P0] [rb0 l (i+1) false]=some (.ret (.agg (eL x)) [rb0 l j bad])) :
  den K 95 [P0,B first] [rb0 l i false]=some (.ret (.agg (eL x)) [rb0 l j bad]):=by
 have hr:Tryz.f95.results=#[.cell 4 52]:=rfl
 have tk:=ee l i false 4 hl
 rw[fX h4] at tk
 simp only[rb0,Ne.tok0] at tk
 have s1:=fl l i false [46] hl h5
 simp only[rb0] at s1
 obtain⟨sa,sd,si⟩:=gJ l i false [58] hl r hs;obtain⟨k,n,v,a,b,xl⟩:=x;cases xl
 all_goals
  simp only[rb0,aU,dm] at sa hc ⊢
  rcases hf with rfl|⟨hf1,hf2⟩
  ·refine ah rfl rfl Tryz.func95 rfl Tryz.ntmps95 ⟨by simp,by simp[LK]⟩ ?_
   simp only[go_sem,reduceLT,reduceCtorEq,reduceEqDiff,Nat.reduceBEq,reduceAdd,reduceSub,reduceLeDiff,ab ae aj,hr,tk,s1,sa,hc,Int.reduceBEq]
  ·cases first
   ·refine ah rfl rfl Tryz.func95 rfl Tryz.ntmps95 ⟨by simp,by simp[LK]⟩ ?_
    simp only[go_sem,reduceLT,reduceCtorEq,reduceEqDiff,Nat.reduceBEq,reduceAdd,reduceSub,reduceLeDiff,ab ae aj,hr,tk,s1,sa,hc,Int.reduceBEq]
   ·have ft:=ee l i false 1 hl
    rw[fX hf1] at ft
    have fs:=fl l i false [42] hl hf2
    simp only[rb0,Ne.tok0] at ft fs
    refine ah rfl rfl Tryz.func95 rfl Tryz.ntmps95 ⟨by simp,by simp[LK]⟩ ?_
    simp only[go_sem,reduceLT,reduceCtorEq,reduceEqDiff,Nat.reduceBEq,reduceAdd,reduceSub,reduceLeDiff,ab ae aj,hr,ft,fs,tk,s1,sa,hc,Int.reduceBEq]
theorem yg (l:List Val) (i:Nat) (first:Bool) (hl:l.length≤100000000) (hf:Front l i first) (h4:Sl.tokK 4 (l.drop i)=none) (h5:Sl.sign [46] (l.drop i)=none) (h6:Sl.sign [58] (l.drop i)=none) (t:Tok) (c r:List Val) (hv:Sl.eP 3 (l.drop i)=some ((t,c),r)) (x:Sim) (ok:Bool) (ha:den K 145 [L (encL c)] []=some (.ret (.tup [.agg (eL x),.c (.pv (.bool ok))]) [])) :
  den K 95 [P0,B first] [rb0 l i false]=some (.ret (.agg (eL x)) [rb0 l (i+1) (!ok)]):=by
 have hr:Tryz.f95.results=#[.cell 4 52]:=rfl
 have tk:=ee l i false 4 hl
 rw[fX h4] at tk
 simp only[rb0,Ne.tok0] at tk
 have s1:=fl l i false [46] hl h5
 simp only[rb0] at s1
 have s2:=fl l i false [58] hl h6
 simp only[rb0] at s2
 obtain⟨va,vd,vm⟩:=pU l i false 3 hl t c r hv;obtain⟨k,n,v,a,b,xl⟩:=x;cases xl
 all_goals
  cases ok
  all_goals
   simp only[rb0,aU,dm,pp] at va ha ⊢
   rcases hf with rfl|⟨hf1,hf2⟩
   ·refine ah rfl rfl Tryz.func95 rfl Tryz.ntmps95 ⟨by simp,by simp[LK]⟩ ?_
    simp only[go_sem,reduceLT,reduceCtorEq,reduceEqDiff,Nat.reduceBEq,reduceAdd,reduceSub,reduceLeDiff,ab ae aj,hr,tk,s1,s2,va,ha,TV.flat,Int.reduceBEq,Int.reduceBNe]
   ·cases first
    ·refine ah rfl rfl Tryz.func95 rfl Tryz.ntmps95 ⟨by simp,by simp[LK]⟩ ?_
     simp only[go_sem,reduceLT,reduceCtorEq,reduceEqDiff,Nat.reduceBEq,reduceAdd,reduceSub,reduceLeDiff,ab ae aj,hr,tk,s1,s2,va,ha,TV.flat,Int.reduceBEq,Int.reduceBNe]
    ·have ft:=ee l i false 1 hl
     rw[fX hf1] at ft
     have fs:=fl l i false [42] hl hf2
     simp only[rb0,Ne.tok0] at ft fs
     refine ah rfl rfl Tryz.func95 rfl Tryz.ntmps95 ⟨by simp,by simp[LK]⟩ ?_
     simp only[go_sem,reduceLT,reduceCtorEq,reduceEqDiff,Nat.reduceBEq,reduceAdd,reduceSub,reduceLeDiff,ab ae aj,hr,ft,fs,tk,s1,s2,va,ha,TV.flat,Int.reduceBEq,Int.reduceBNe]
theorem Ad (l:List Val) (i:Nat) (first:Bool) (hl:l.length≤100000000) (hf:Front l i first) (h4:Sl.tokK 4 (l.drop i)=none) (h5:Sl.sign [46] (l.drop i)=none) (h6:Sl.sign [58] (l.drop i)=none) (hv:Sl.eP 3 (l.drop i)=none) :
  ∃ x:Sim,den K 95 [P0,B first] [rb0 l i false]=some (.ret (.agg (eL x)) [rb0 l i true]):=by
 have hr:Tryz.f95.results=#[.cell 4 52]:=rfl
 have tk:=ee l i false 4 hl
 rw[fX h4] at tk
 simp only[rb0,Ne.tok0] at tk
 have s1:=fl l i false [46] hl h5
 simp only[rb0] at s1
 have s2:=fl l i false [58] hl h6
 simp only[rb0] at s2
 have va:=zD l i false 3 hl hv
 obtain⟨x,ha⟩:=Fv;refine⟨x,?_⟩
 obtain⟨k,n,v,a,b,xl⟩:=x;cases xl
 all_goals
  simp only[rb0,aU,dm] at va ha ⊢
  rcases hf with rfl|⟨hf1,hf2⟩
  ·refine ah rfl rfl Tryz.func95 rfl Tryz.ntmps95 ⟨by simp,by simp[LK]⟩ ?_
   simp only[go_sem,reduceLT,reduceCtorEq,reduceEqDiff,Nat.reduceBEq,reduceAdd,reduceSub,reduceLeDiff,ab ae aj,hr,tk,s1,s2,va,ha,TV.flat,Int.reduceBEq,Int.reduceBNe]
  ·cases first
   ·refine ah rfl rfl Tryz.func95 rfl Tryz.ntmps95 ⟨by simp,by simp[LK]⟩ ?_
    simp only[go_sem,reduceLT,reduceCtorEq,reduceEqDiff,Nat.reduceBEq,reduceAdd,reduceSub,reduceLeDiff,ab ae aj,hr,tk,s1,s2,va,ha,TV.flat,Int.reduceBEq,Int.reduceBNe]
   ·have ft:=ee l i false 1 hl
    rw[fX hf1] at ft
    have fs:=fl l i false [42] hl hf2
    simp only[rb0,Ne.tok0] at ft fs
    refine ah rfl rfl Tryz.func95 rfl Tryz.ntmps95 ⟨by simp,by simp[LK]⟩ ?_
    simp only[go_sem,reduceLT,reduceCtorEq,reduceEqDiff,Nat.reduceBEq,reduceAdd,reduceSub,reduceLeDiff,ab ae aj,hr,ft,fs,tk,s1,s2,va,ha,TV.flat,Int.reduceBEq,Int.reduceBNe]
theorem Ar (l:List Val) (i:Nat) (hl:l.length≤100000000) (t:Tok) (ht:Sl.tokK 1 (l.drop i)=some t) (hs:t.text.length<1000000000) :
  den K 95 [P0,B true] [rb0 l i false]=some (.ret (.agg (eL (.mk 2 (Sl.low t.text) [] 0 0 []))) [rb0 l (i+1) false])∧l.drop (i+1)=(l.drop i).tail∧i<l.length:=by
 have hr:Tryz.f95.results=#[.cell 4 52]:=rfl
 obtain⟨h1,h2⟩:=r6 ht;have tk:=ee l i false 1 hl
 rw[h1] at tk
 have e1:(t.kind==1)=true:=by rw[h2];rfl
 obtain⟨na,nd,ni⟩:=nw l i false hl t.text (l.drop i).tail (by unfold Sl.name;rw[ht];rfl)
 have lo:=Co t.text hs
 refine⟨?_,nd,ni⟩
 simp only[rb0,aU] at tk na ⊢
 refine ah rfl rfl Tryz.func95 rfl Tryz.ntmps95 ⟨by simp,by simp[LK]⟩ ?_
 simp only[go_sem,reduceLT,reduceCtorEq,reduceEqDiff,Nat.reduceBEq,reduceAdd,reduceSub,reduceLeDiff,ab ae aj,hr,tk,e1,na,lo]
theorem BV (l:List Val) (i:Nat) (hl:l.length≤100000000) (ht:Sl.tokK 1 (l.drop i)=none) (r:List Val) (hs:Sl.sign [42] (l.drop i)=some r) :
  den K 95 [P0,B true] [rb0 l i false]=some (.ret (.agg (eL (.mk 1 [] [] 0 0 []))) [rb0 l (i+1) false])∧l.drop (i+1)=r∧i<l.length:=by
 have hr:Tryz.f95.results=#[.cell 4 52]:=rfl
 have tk:=ee l i false 1 hl
 rw[fX ht] at tk
 obtain⟨sa,sd,si⟩:=gJ l i false [42] hl r hs;refine⟨?_,sd,si⟩
 simp only[rb0,Ne.tok0,aU] at tk sa ⊢
 refine ah rfl rfl Tryz.func95 rfl Tryz.ntmps95 ⟨by simp,by simp[LK]⟩ ?_
 simp only[go_sem,reduceLT,reduceCtorEq,reduceEqDiff,Nat.reduceBEq,reduceAdd,reduceSub,reduceLeDiff,ab ae aj,hr,tk,sa,Int.reduceBEq]
end Go.Abs
