/-
  WHAT THE FUNCTIONS COMPUTE, layer 2: the document's reader of values.
  (And 3 texts more.)
-/
import Derived.Test.YtlomcifkckgneaaGreatDoorRd7
set_option maxHeartbeats 8000000
open Nat (reduceEqDiff reduceAdd reduceLT reduceLeDiff reduceSub reduceMul)
set_option linter.unusedSimpArgs false
set_option linter.unusedVariables false
namespace Go.Abs
open Go Go.Proofs
set_option maxRecDepth 10000
attribute [local go_sem] dP bZ de cB cK dL dh du bo ck ce cE dr ci opd avOf cvOf St.degAt St.put okPV fE okAV eL eP eV dM aP if_true Bool.false_eq_true if_false Option.map_some Option.map_none Option.bind_some Option.bind_none fo fw upd List.toList_toArray cM steal bI mvB fj dK db AV.deg CV.deg AV.gv AV.isIter dG dw cJ List.length_nil List.length_cons List.filterMap_cons List.filterMap_nil beq_iff_eq List.getElem?_cons_zero List.getElem?_cons_succ Option.getD_some fM gJ Bool.false_and Bool.and_false Bool.and_self K_P iJ cI dc bL lend back idx dedup AV.ren CV.ren TV.ren AV.ptrs CV.ptrs dE AV.flat CV.flat cQ cz br dD dY gi cL bf cS bV cu cH bU gS CV.pv? content bT ownT bv reps pvs chunks co leave gj cZ eD cm bB TV.deg TV.av LK CV.plain CV.noBld dR gD bound List.map_cons List.map_nil List.all_cons List.all_nil List.any_cons List.any_nil List.contains_cons List.contains_nil List.elem_cons List.elem_nil List.cons_append List.nil_append List.append_nil List.flatMap_cons List.flatMap_nil List.zip_cons_cons List.zip_nil_left List.zip_nil_right List.take_succ_cons List.take_zero List.take_nil List.drop_succ_cons List.drop_zero List.drop_nil List.isEmpty_nil List.isEmpty_cons Bool.and_true Bool.true_and Bool.or_true Bool.true_or Bool.or_false Bool.false_or Bool.not_true Bool.not_false Nat.add_zero Nat.zero_add Option.isNone_none Option.isNone_some Option.getD_none true_and and_true not_true_eq_false not_false_eq_true decide_true decide_false Nat.le_refl and_self Bool.not_eq_true Nat.sub_self or_true true_or Option.some.injEq List.length_map List.nil_eq and_false false_and AV.live CV.live CV.liveIn gk bu Option.orElse_some Option.orElse_none head bJ bG Int.lt_irrefl List.length_append ite_self fx cF dC cf Key.clash Key.sees Key.writes Nat.lt_irrefl gt_iff_lt dt fB false_or or_false beq_self_eq_true Bool.true_beq Bool.false_beq cV cy bK fR dW aN cj rr Kw yi uA bc bg ag QQ PZ aF bh mv lH mu ee fK dI jo Jg lk bX
abbrev Ud (t:Tok):List CV:=[.pv (.int .i64 t.kind),.pv (.str t.text),.pv (.int .i64 t.n)]
theorem oW (t:Tok)(kind:Int):den K 113 [.agg (Ud t),I kind] []=some (.ret (B (decide (t=Ne.gB kind))) []):=by
 have hv:decide (t=Ne.gB kind)=((t.kind==7)&&((t.text==[Ne.jG kind])&&((t.n==0)&&true))):=(rA t (Ne.gB kind)).symm
 rw[hv];refine ai rfl rfl Tryz.func113 rfl Tryz.ntmps113 ⟨by simp,by simp[LK]⟩ ?_
 have hr:Tryz.f113.results=#[.tmp 4]:=rfl
 cases b1:(t.kind==7)
 ·have e1:(t.kind != 7)=true:=by rw[bne,b1];rfl
  simp only[go_sem,reduceLT,reduceEqDiff,Nat.reduceBEq,reduceAdd,reduceSub,reduceLeDiff,hr,e1]
 ·have e1:(t.kind != 7)=false:=by rw[bne,b1];rfl
  cases b2:(t.n==0)
  ·have e2:(t.n != 0)=true:=by rw[bne,b2];rfl
   simp only[go_sem,reduceLT,reduceEqDiff,Nat.reduceBEq,reduceAdd,reduceSub,reduceLeDiff,hr,e1,e2]
  ·have e2:(t.n != 0)=false:=by rw[bne,b2];rfl
   by_cases h3:kind=3
   ·subst h3;have c3:Ne.jG 3=93:=rfl
    simp only[go_sem,reduceLT,reduceEqDiff,Nat.reduceBEq,reduceAdd,reduceSub,reduceLeDiff,hr,e1,e2,c3]
   ·have e3:(kind==3)=false:=by rw[beq_eq_false_iff_ne];exact h3
    by_cases h4:kind=4
    ·subst h4;have c4:Ne.jG 4=125:=rfl
     have e43:((4:Int)==3)=false:=by decide
     have n43:((4:Int)=3)=False:=by decide
     simp only[go_sem,reduceLT,reduceEqDiff,Nat.reduceBEq,reduceAdd,reduceSub,reduceLeDiff,hr,e1,e2,c4,e43]
    ·have e4:(kind==4)=false:=by rw[beq_eq_false_iff_ne];exact h4
     have c:Ne.jG kind=41:=by simp[Ne.jG,h3,h4]
     simp only[go_sem,reduceLT,reduceEqDiff,Nat.reduceBEq,reduceAdd,reduceSub,reduceLeDiff,hr,e1,e2,e3,e4,c]
theorem sM (t:Tok):den K 114 [.agg (Ud t)] []=some (.ret (I (Ne.opens t)) []):=by
 obtain⟨k,s,n⟩:=t;have hv:Ne.opens ⟨k,s,n⟩=mg k s n:=rfl
 rw[hv];unfold mg;refine ai rfl rfl Tryz.func114 rfl Tryz.ntmps114 ⟨by simp,by simp[LK]⟩ ?_
 have hr:Tryz.f114.results=#[.tmp 2]:=rfl
 by_cases h2:k=2
 ·subst h2;simp only[go_sem,reduceLT,reduceEqDiff,Nat.reduceBEq,reduceAdd,reduceSub,reduceLeDiff,hr]
 ·rw[if_neg h2];have e2:(k==2)=false:=by rw[beq_eq_false_iff_ne];exact h2
  by_cases h7:k=7
  ·subst h7;have e72:((7:Int)==2)=false:=by decide
   have n72:((7:Int)=2)=False:=by decide
   have e77:((7:Int) != 7)=false:=by decide
   by_cases hn:n=0
   ·subst hn;have e0:((0:Int) != 0)=false:=by decide
    rw[if_pos ⟨rfl,rfl⟩];by_cases a1:s=[40]
    ·subst a1;simp only[go_sem,reduceLT,reduceEqDiff,Nat.reduceBEq,reduceAdd,reduceSub,reduceLeDiff,hr,e72,e77,e0]
    ·have b1:(s==[40])=false:=by rw[beq_eq_false_iff_ne];exact a1
     rw[if_neg a1];by_cases a2:s=[91]
     ·subst a2;simp only[go_sem,reduceLT,reduceEqDiff,Nat.reduceBEq,reduceAdd,reduceSub,reduceLeDiff,hr,e72,e77,e0,b1]
     ·have b2:(s==[91])=false:=by rw[beq_eq_false_iff_ne];exact a2
      rw[if_neg a2];by_cases a3:s=[123]
      ·subst a3;simp only[go_sem,reduceLT,reduceEqDiff,Nat.reduceBEq,reduceAdd,reduceSub,reduceLeDiff,hr,e72,e77,e0,b1,b2]
      ·have b3:(s==[123])=false:=by rw[beq_eq_false_iff_ne];exact a3
       rw[if_neg a3];simp only[go_sem,reduceLT,reduceEqDiff,Nat.reduceBEq,reduceAdd,reduceSub,reduceLeDiff,hr,e72,e77,e0,b1,b2,b3]
   ·have e0:(n != 0)=true:=by rw[bne_iff_ne];exact hn
    rw[if_neg (fun h=>hn h.2)]
    simp only[go_sem,reduceLT,reduceEqDiff,Nat.reduceBEq,reduceAdd,reduceSub,reduceLeDiff,hr,e72,e77,e0]
  ·have e7:(k != 7)=true:=by rw[bne_iff_ne];exact h7
   rw[if_neg (fun h=>h7 h.1)]
   simp only[go_sem,reduceLT,reduceEqDiff,Nat.reduceBEq,reduceAdd,reduceSub,reduceLeDiff,hr,e2,e7]
theorem qW {t:Tok}(h:Ne.opens t≠0):0<Ne.opens t:=by
 rcases Ne.kE t with h1|h1|h1|h1|h1<;>omega
abbrev u2H (l:List Tok)(kind left:Int)(i:Nat)(e:Nat)(acc:List Val):St :=
  { sl:=upd (upd (upd (upd (upd bot 9 (.c (.loc 9 0))) 8 (.c (.loc 8 0))) 3 (I left)) 2 (I kind)) 0 (L (l.map Tok.enc)),bx:=upd (upd nobox 9 (some [.own e (encL acc),.pv (.int .i64 i),.pv (.bool false)])) 8 (some [.own 0 [],.pv (.int .i64 0),.pv (.bool false)]),nt:=76 }
noncomputable def ulp2:Code:=.loop (ap Tryz.f64 2)
def Ret2 (x:List (List PV))(j:Int)(bad:Bool)(o:Out)(S:St):Prop:=o=.ret∧S.sl 8=.c (.loc 8 0)∧S.bx 8=some [.pv (.sl x),.pv (.int .i64 j),.pv (.bool bad)]
theorem NJ (l:List Tok)(kind left:Int)(e:Nat)(acc:List Val) :
  Ends (exL K 64 ulp2 (u2H l kind left l.length e acc)) fun o S=>o=.exit 0∧S.nt=76∧S.sl 8=.c (.loc 8 0)∧S.sl 9=.c (.loc 9 0)∧S.bx 8=some [.own 0 [],.pv (.int .i64 0),.pv (.bool false)]∧S.bx 9=some [.own e (encL acc),.pv (.int .i64 l.length),.pv (.bool false)]:=by
 unfold ulp2
 conv in ap _ _=>whnf
 rw[aq];simp only[go_sem,reduceLT,reduceCtorEq,reduceEqDiff,Nat.reduceBEq,reduceAdd,af aG,aw]
theorem xj (l:List Tok)(i:Nat)(t:Tok)(h:l[i]? = some t):(l.map Tok.enc)[(i:Int).toNat]? = some [.int .i64 t.kind,.str t.text,.int .i64 t.n]:=by
 simp[h,Tok.enc]
theorem Rp (l:List Tok)(kind left:Int)(i:Nat)(e:Nat)(acc:List Val)(t:Tok)(hi:l[i]? = some t)(hl:l.length≤100000000)(h:Ne.cY kind t=true) :
  Ends (exL K 64 ulp2 (u2H l kind left i e acc)) (Ret2 (encL acc) ((i+1:Nat):Int) false):=by
 have hil:i<l.length:=(List.getElem?_eq_some_iff.1 hi).1
 have hlt:decide ((i:Int)<(l.length:Int))=true:=decide_eq_true (by omega)
 have hget:=xj l i t hi
 have hw:IntKind.i64.wrap ((i:Int)+1)=((i+1:Nat):Int):=aX i (by omega)
 unfold Ne.cY at h;rw[Bool.and_eq_true] at h;obtain⟨e1,e2⟩:=h;have hld:=oW t kind
 rw[e2] at hld;unfold ulp2 Ret2
 conv in ap _ _=>whnf
 rw[aq];simp only[go_sem,reduceLT,reduceCtorEq,reduceEqDiff,Nat.reduceBEq,reduceAdd,reduceLeDiff,af aG,aj aG,hlt,hget,Int.natCast_nonneg,hw,e1,hld,aw]
theorem Af (acc:List Val)(k:Int)(t:Tok)(vs:List Val):encL acc++[[.int .i64 k,.int .i64 t.kind,.str t.text,.int .i64 t.n,.sl (encL vs)]]=encL (acc++[.mk k t vs]):=by
 rw[lP];rfl
theorem zZ (acc:List Val)(k:Int)(t:Tok):encL acc++[[.int .i64 k,.int .i64 t.kind,.str t.text,.int .i64 t.n,.sl []]]=encL (acc++[.mk k t []]):=by
 rw[lP];rfl
theorem Ag (acc:List Val)(k:Int)(vs:List Val):encL acc++[[.int .i64 k,.int .i64 0,.str [],.int .i64 0,.sl (encL vs)]]=encL (acc++[.mk k Ne.tok0 vs]):=by
 rw[lP];rfl
theorem Vq (l:List Tok)(kind left:Int)(i:Nat)(e:Nat)(acc:List Val)(t:Tok)(hi:l[i]? = some t)(hl:l.length≤100000000)(h:Ne.cY kind t=false)(he:e=93∨acc=[])(hacc:acc.length<100000000)(h0:Ne.opens t=0) :
  exL K 64 ulp2 (u2H l kind left i e acc)=exL K 64 ulp2 (u2H l kind left (i+1) 93 (acc++[.mk 1 t []])):=by
 have hil:i<l.length:=(List.getElem?_eq_some_iff.1 hi).1
 have hlt:decide ((i:Int)<(l.length:Int))=true:=decide_eq_true (by omega)
 have hget:=xj l i t hi
 have hw:IntKind.i64.wrap ((i:Int)+1)=((i+1:Nat):Int):=aX i (by omega)
 have hld:=oW t kind
 have hop:=sM t
 rw[h0] at hop;have hown:e=93∨(encL acc).isEmpty=true:=by
  rcases he with rfl|rfl
  ·exact .inl rfl
  ·exact .inr rfl
 have hlim:acc.length+1<bS:=by unfold bS;omega
 have hlv:=gg acc
 unfold ulp2
 conv in ap _ _=>whnf
 conv in ap _ _=>whnf
 conv in exL _ _ _ (u2H l kind left i e acc)=>rw[aq]
 unfold Ne.cY at h;cases e1:decide (0<kind)
 ·simp only[go_sem,reduceLT,reduceCtorEq,reduceEqDiff,Nat.reduceBEq,reduceAdd,reduceLeDiff,reduceMul,af aG,aj aG,aa aF bC,ao (len:=1) ak bh aF ⟨rfl,by decide,by decide⟩,bq cN,aU ak,hlt,hget,Int.natCast_nonneg,hw,e1,hop,aA,hlim,hlv,jS,hown,zZ]
  rw[au];simp only[go_sem,reduceCtorEq,reduceEqDiff,Nat.reduceBEq]
 ·rw[e1,Bool.true_and] at h;rw[h] at hld;simp only[go_sem,reduceLT,reduceCtorEq,reduceEqDiff,Nat.reduceBEq,reduceAdd,reduceLeDiff,reduceMul,af aG,aj aG,aa aF bC,ao (len:=1) ak bh aF ⟨rfl,by decide,by decide⟩,bq cN,aU ak,hlt,hget,Int.natCast_nonneg,hw,e1,hld,hop,aA,hlim,hlv,jS,hown,zZ]
  rw[au];simp only[go_sem,reduceCtorEq,reduceEqDiff,Nat.reduceBEq]
theorem VE (l:List Tok)(kind:Int)(n:Nat)(i j:Nat)(e:Nat)(acc:List Val)(t:Tok)(vs:List Val)(hi:l[i]? = some t)(hl:l.length≤100000000)(hn:n<1000)(h:Ne.cY kind t=false)(he:e=93∨acc=[])(hacc:acc.length<100000000)(h0:Ne.opens t≠0)
  (hin:den K 64 [L (l.map Tok.enc),I ((i+1:Nat):Int),I (Ne.opens t),I n] []=some (.ret (.agg [.pv (.sl (encL vs)),.pv (.int .i64 j),.pv (.bool false)]) [])) :
  exL K 64 ulp2 (u2H l kind ((n+1:Nat):Int) i e acc)=exL K 64 ulp2 (u2H l kind ((n+1:Nat):Int) j 93 (acc++[.mk (Ne.opens t) (if Ne.opens t=5 then t else Ne.tok0) vs])):=by
 have hil:i<l.length:=(List.getElem?_eq_some_iff.1 hi).1
 have hlt:decide ((i:Int)<(l.length:Int))=true:=decide_eq_true (by omega)
 have hget:=xj l i t hi
 have hw:IntKind.i64.wrap ((i:Int)+1)=((i+1:Nat):Int):=aX i (by omega)
 have hld:=oW t kind
 have hop:=sM t
 have hpos:decide (0<Ne.opens t)=true:=decide_eq_true (qW h0)
 have hown:e=93∨(encL acc).isEmpty=true:=by
  rcases he with rfl|rfl
  ·exact .inl rfl
  ·exact .inr rfl
 have hlim:acc.length+1<bS:=by unfold bS;omega
 have hlv:=gg acc
 have hl0:(((n+1:Nat):Int)==0)=false:=by rw[beq_eq_false_iff_ne];omega
 have hwl:IntKind.i64.wrap (((n+1:Nat):Int) - 1)=(n:Int):=by rw[IntWalk.i64_in _ (by omega)];omega
 unfold ulp2
 conv in ap _ _=>whnf
 conv in ap _ _=>whnf
 conv in exL _ _ _ (u2H l kind _ i e acc)=>rw[aq]
 by_cases h5:Ne.opens t=5
 ·have e5:(Ne.opens t==5)=true:=by rw[beq_iff_eq];exact h5
  rw[if_pos h5];unfold Ne.cY at h;cases e1:decide (0<kind)
  ·simp only[go_sem,reduceLT,reduceCtorEq,reduceEqDiff,Nat.reduceBEq,reduceAdd,reduceLeDiff,reduceMul,af aG,aj aG,aa aF bC,ao (len:=1) ak bh aF ⟨rfl,by decide,by decide⟩,bq cN,aU ak,hlt,hget,Int.natCast_nonneg,hw,e1,hop,hpos,aA,hlim,hlv,jS,hown,hin,hwl,hl0,e5,Af]
   rw[au];simp only[go_sem,reduceCtorEq,reduceEqDiff,Nat.reduceBEq]
  ·rw[e1,Bool.true_and] at h;rw[h] at hld;simp only[go_sem,reduceLT,reduceCtorEq,reduceEqDiff,Nat.reduceBEq,reduceAdd,reduceLeDiff,reduceMul,af aG,aj aG,aa aF bC,ao (len:=1) ak bh aF ⟨rfl,by decide,by decide⟩,bq cN,aU ak,hlt,hget,Int.natCast_nonneg,hw,e1,hld,hop,hpos,aA,hlim,hlv,jS,hown,hin,hwl,hl0,e5,Af]
   rw[au];simp only[go_sem,reduceCtorEq,reduceEqDiff,Nat.reduceBEq]
 ·have e5:(Ne.opens t==5)=false:=by rw[beq_eq_false_iff_ne];exact h5
  rw[if_neg h5];unfold Ne.cY at h;cases e1:decide (0<kind)
  ·simp only[go_sem,reduceLT,reduceCtorEq,reduceEqDiff,Nat.reduceBEq,reduceAdd,reduceLeDiff,reduceMul,af aG,aj aG,aa aF bC,ao (len:=1) ak bh aF ⟨rfl,by decide,by decide⟩,bq cN,aU ak,hlt,hget,Int.natCast_nonneg,hw,e1,hop,hpos,aA,hlim,hlv,jS,hown,hin,hwl,hl0,e5,Ag]
   rw[au];simp only[go_sem,reduceCtorEq,reduceEqDiff,Nat.reduceBEq]
  ·rw[e1,Bool.true_and] at h;rw[h] at hld;simp only[go_sem,reduceLT,reduceCtorEq,reduceEqDiff,Nat.reduceBEq,reduceAdd,reduceLeDiff,reduceMul,af aG,aj aG,aa aF bC,ao (len:=1) ak bh aF ⟨rfl,by decide,by decide⟩,bq cN,aU ak,hlt,hget,Int.natCast_nonneg,hw,e1,hld,hop,hpos,aA,hlim,hlv,jS,hown,hin,hwl,hl0,e5,Ag]
   rw[au];simp only[go_sem,reduceCtorEq,reduceEqDiff,Nat.reduceBEq]
theorem Tg (l:List Tok)(kind:Int)(i:Nat)(e:Nat)(acc:List Val)(t:Tok)(hi:l[i]? = some t)(hl:l.length≤100000000)(h:Ne.cY kind t=false)(h0:Ne.opens t≠0) :
  Ends (exL K 64 ulp2 (u2H l kind ((0:Nat):Int) i e acc)) fun o S=>∃ a b,Ret2 a b true o S:=by
 have hil:i<l.length:=(List.getElem?_eq_some_iff.1 hi).1
 have hlt:decide ((i:Int)<(l.length:Int))=true:=decide_eq_true (by omega)
 have hget:=xj l i t hi
 have hw:IntKind.i64.wrap ((i:Int)+1)=((i+1:Nat):Int):=aX i (by omega)
 have hld:=oW t kind
 have hop:=sM t
 have hpos:decide (0<Ne.opens t)=true:=decide_eq_true (qW h0)
 have hl0:(((0:Nat):Int)==0)=true:=by decide
 unfold ulp2 Ret2
 conv in ap _ _=>whnf
 rw[aq];unfold Ne.cY at h;cases e1:decide (0<kind)
 ·simp only[go_sem,reduceLT,reduceCtorEq,reduceEqDiff,Nat.reduceBEq,reduceAdd,reduceLeDiff,af aG,aj aG,aa aF bC,hlt,hget,Int.natCast_nonneg,hw,e1,hop,hpos,hl0,aw];exact⟨_,_,rfl⟩
 ·rw[e1,Bool.true_and] at h;rw[h] at hld;simp only[go_sem,reduceLT,reduceCtorEq,reduceEqDiff,Nat.reduceBEq,reduceAdd,reduceLeDiff,af aG,aj aG,aa aF bC,hlt,hget,Int.natCast_nonneg,hw,e1,hld,hop,hpos,hl0,aw];exact⟨_,_,rfl⟩
theorem Un (l:List Tok)(kind:Int)(n:Nat)(i:Nat)(e:Nat)(acc:List Val)(t:Tok)(hi:l[i]? = some t)(hl:l.length≤100000000)(hn:n<1000)(h:Ne.cY kind t=false)(h0:Ne.opens t≠0)(x:List (List PV))(j:Int)
  (hin:den K 64 [L (l.map Tok.enc),I ((i+1:Nat):Int),I (Ne.opens t),I n] []=some (.ret (.agg [.pv (.sl x),.pv (.int .i64 j),.pv (.bool true)]) [])) :
  Ends (exL K 64 ulp2 (u2H l kind ((n+1:Nat):Int) i e acc)) fun o S=>∃ a b,Ret2 a b true o S:=by
 have hil:i<l.length:=(List.getElem?_eq_some_iff.1 hi).1
 have hlt:decide ((i:Int)<(l.length:Int))=true:=decide_eq_true (by omega)
 have hget:=xj l i t hi
 have hw:IntKind.i64.wrap ((i:Int)+1)=((i+1:Nat):Int):=aX i (by omega)
 have hld:=oW t kind
 have hop:=sM t
 have hpos:decide (0<Ne.opens t)=true:=decide_eq_true (qW h0)
 have hl0:(((n+1:Nat):Int)==0)=false:=by rw[beq_eq_false_iff_ne];omega
 have hwl:IntKind.i64.wrap (((n+1:Nat):Int) - 1)=(n:Int):=by rw[IntWalk.i64_in _ (by omega)];omega
 unfold ulp2 Ret2
 conv in ap _ _=>whnf
 rw[aq];unfold Ne.cY at h;cases e1:decide (0<kind)
 ·simp only[go_sem,reduceLT,reduceCtorEq,reduceEqDiff,Nat.reduceBEq,reduceAdd,reduceLeDiff,af aG,aj aG,aa aF bC,hlt,hget,Int.natCast_nonneg,hw,e1,hop,hpos,hl0,hwl,hin,aw];exact⟨_,_,rfl⟩
 ·rw[e1,Bool.true_and] at h;rw[h] at hld;simp only[go_sem,reduceLT,reduceCtorEq,reduceEqDiff,Nat.reduceBEq,reduceAdd,reduceLeDiff,af aG,aj aG,aa aF bC,hlt,hget,Int.natCast_nonneg,hw,e1,hld,hop,hpos,hl0,hwl,hin,aw];exact⟨_,_,rfl⟩
def ULoop2 (l:List Tok)(kind:Int)(left:Nat)(i:Nat)(acc:List Val)(o:Out)(S:St):Prop :=
 match Ne.dT kind left (l.drop i) with
 | some (vs,rest)=>∃ j:Nat,l.drop j=rest∧j≤l.length∧i≤j∧(Ret2 (encL (acc++vs)) (j:Int) false o S ∨
   (o=.exit 0∧S.nt=76∧S.sl 8=.c (.loc 8 0)∧S.sl 9=.c (.loc 9 0)∧S.bx 8=some [.own 0 [],.pv (.int .i64 0),.pv (.bool false)]∧∃ e,S.bx 9=some [.own e (encL (acc++vs)),.pv (.int .i64 j),.pv (.bool false)]))
 | none=>∃ a b,Ret2 a b true o S
def UDen2 (l:List Tok)(kind:Int)(left:Nat)(i:Nat):Prop :=
 match Ne.dT kind left (l.drop i) with
 | some (vs,rest)=>∃ j:Nat,l.drop j=rest∧j≤l.length∧i≤j∧den K 64 [L (l.map Tok.enc),I (i:Int),I kind,I left] []=some (.ret (.agg [.pv (.sl (encL vs)),.pv (.int .i64 j),.pv (.bool false)]) [])
 | none=>∃ a b,den K 64 [L (l.map Tok.enc),I (i:Int),I kind,I left] []=some (.ret (.agg [.pv (.sl a),.pv (.int .i64 b),.pv (.bool true)]) [])
theorem Qc {l:List Tok}{kind:Int}{left i:Nat}
  (h:Ends (exL K 64 ulp2 (u2H l kind left i 0 [])) (ULoop2 l kind left i [])):UDen2 l kind left i:=by
 have hr:Tryz.f64.results=#[.cell 8 102]:=rfl
 unfold ulp2 at h
 conv at h in ap _ _=>whnf
 obtain⟨o,S',w,hq⟩:=h;unfold ULoop2 at hq;unfold UDen2;cases hu:Ne.dT kind left (l.drop i) with
 | some x =>
  obtain⟨vs,rest⟩:=x;rw[hu] at hq;obtain⟨j,q1,q2,q3,hq⟩:=hq;refine⟨j,q1,q2,q3,?_⟩
  rw[List.nil_append] at hq;refine ai rfl rfl Tryz.func64 rfl Tryz.ntmps64 ⟨by simp,by simp[LK]⟩ ?_
  simp only[go_sem,reduceLT,reduceEqDiff,Nat.reduceBEq,reduceAdd,reduceSub,reduceLeDiff,aa jo oB];rw[au];simp only[go_sem,reduceCtorEq,reduceEqDiff,Nat.reduceBEq,reduceSub,reduceLeDiff];erw [w];rcases hq with⟨rfl,h1,h2⟩|⟨rfl,hn,h8,h9,b8,e,b9⟩
  ·simp only[go_sem,reduceAdd,hr,h1,h2]
  ·simp only[go_sem,reduceLT,reduceEqDiff,Nat.reduceBEq,reduceAdd,hr,hn,h8,h9,b8,b9]
 | none =>
  rw[hu] at hq;obtain⟨a,b,rfl,h1,h2⟩:=hq;refine⟨a,b,?_⟩
  refine ai rfl rfl Tryz.func64 rfl Tryz.ntmps64 ⟨by simp,by simp[LK]⟩ ?_
  simp only[go_sem,reduceLT,reduceEqDiff,Nat.reduceBEq,reduceAdd,reduceSub,reduceLeDiff,aa jo oB];rw[au];simp only[go_sem,reduceCtorEq,reduceEqDiff,Nat.reduceBEq,reduceSub,reduceLeDiff];erw [w];simp only[go_sem,reduceAdd,hr,h1,h2]
attribute [local go_sem] GC ix mH kK vY wn DM Es
def TS.live':TS→TS
 | .nils=>.live
 | x=>x
theorem TS.live_toks (x:TS):x.live'.toks=x.toks:=by cases x<;>rfl
abbrev numH (s:List UInt8)(et:Nat)(ct:List (List PV))(from_ e:Nat)(d:List UInt8)(n:Int)(i:Nat):St :=
  { sl:=upd (upd (upd (upd (upd bot 29 (.c (.iter d i))) 4 (I n)) 3 (I e)) 2 (I from_)) 0 P0,bx:=upd nobox 100000 (some [.pv (.str s),.own et ct]),nt:=72 }
theorem Ja (v:Int):(if (999999999:Int)<v then(999999999:Int) else v)=min v 999999999:=by
 split<;>omega
theorem NA (s:List UInt8)(et:Nat)(ct:List (List PV))(from_ e:Nat)(d:List UInt8)(hd:∀ b∈d,Tk.digit b=true):∀ (rest:List UInt8) (i:Nat) (n:Int),d.drop i=rest→i≤d.length→0≤n→n≤999999999 →
  Ends (exL K 186 (.loop (ap Tryz.f186 6)) (numH s et ct from_ e d n i)) fun o S=>o=.exit 0∧S.sl 0=P0∧S.sl 2=I from_∧S.sl 3=I e∧S.sl 4=I (Tk.num n rest)∧S.nt=72∧S.bx=upd nobox 100000 (some [.pv (.str s),.own et ct]):=by
 intro rest
 induction rest with
 | nil =>
  intro i n hr hi h0 h1;have hin:i=d.length:=by
   have:=List.drop_eq_nil_iff.1 hr
   omega
  subst hin;have hlt:(d.length<d.length)=False:=by simp
  conv in ap _ _=>whnf
  rw[aq];simp only[go_sem,reduceLT,reduceCtorEq,reduceEqDiff,Nat.reduceBEq,reduceAdd,aw,hlt,Tk.num]
 | cons c rest ih =>
  intro i n hr hi h0 h1;obtain⟨g1,g2,g3⟩:=bH hr;have hc:Tk.digit c=true:=hd c (List.mem_of_getElem? g1)
  have hcn:48≤c.toNat∧c.toNat≤57:=by simpa[Tk.digit] using hc
  obtain⟨r,wd,hdec,hw1,hw2,hr2,hcase⟩:=yX d i g3;have hrc:r=c.toNat∧wd=1:=by
   rcases hcase with⟨_,hw,b,hb,hbr⟩|⟨_,hall⟩
   ·rw[g1] at hb;cases hb;exact⟨hbr.symm,hw⟩
   ·have:=hall i c (Nat.le_refl _) (by omega) g1;omega
  obtain⟨rfl,rfl⟩:=hrc;have hit:kU d i=i+1:=by unfold kU;rw[hdec]
  have hlt:(i<d.length)=True:=eq_true g3
  have w1:IntKind.i64.wrap (10*n)=10*n:=IntWalk.i64_in _ (by omega)
  have w2:IntKind.i32.wrap ((c.toNat:Int) - 48)=(c.toNat:Int) - 48:=IntWalk.i32_in _ (by omega)
  have w3:IntKind.i64.wrap ((c.toNat:Int) - 48)=(c.toNat:Int) - 48:=IntWalk.i64_in _ (by omega)
  have w4:IntKind.i64.wrap (10*n+((c.toNat:Int) - 48))=10*n+((c.toNat:Int) - 48):=IntWalk.i64_in _ (by omega)
  have hv:Tk.num n (c::rest)=Tk.num (min (10*n+((c.toNat:Int) - 48)) 999999999) rest:=by rw[Tk.num,if_pos hc]
  rw[hv];have ih':=ih (i+1) (min (10*n+((c.toNat:Int) - 48)) 999999999) g2 (by omega) (by omega) (by omega)
  conv at ih' in ap _ _=>whnf
  conv in ap _ _=>whnf
  rw[aq];simp only[go_sem,reduceLT,reduceCtorEq,reduceEqDiff,Nat.reduceBEq,reduceAdd,dS BO cU,hlt,hdec,hit,w1,w2,w3,w4,xZ,mD,List.foldl_cons,List.foldl_nil,Ja];rw[au];simp only[go_sem,reduceCtorEq,reduceEqDiff];exact ih'
theorem wV (s:List UInt8)(x:TS)(neg:Bool)(from_:Nat)(l:List UInt8)(hf:from_=if neg then 1 else 0)(hl:s.drop from_=l)(hle:from_≤s.length)(h45:(Tk.at0 s==45)=neg)(hs:s.length<4000000000)(hx:x.toks.length<4000000000) :
  den K 186 [P0] [scan s x]=some (.ret (.tup []) [scan (s.drop (from_+(Tk.number neg l).2)) (.wr (x.toks++[(Tk.number neg l).1]))]):=by
 have d0:=qO s 0 (by omega)
 rw[List.drop_zero] at d0
 have e45:(((Tk.at0 s).toNat:Int)==45)=neg:=by rw[←h45];exact fA _ 45
 have hrun:=vr s (by omega) Tk.digit 185 wD rfl pZ from_ hle
 rw[hl] at hrun;have hrl:=Tk.run_le (p:=Tk.digit) l
 have hll:l.length=s.length - from_:=by rw[←hl,List.length_drop]
 have hnum:=Tk.pS (l:=l) (n:=0) (by omega) (by omega)
 have hdig:=Tk.rF (p:=Tk.digit) l
 generalize hk:Tk.run Tk.digit l=k at hrun hrl hdig;have hle2:from_+k≤s.length:=by omega
 have hde:s.drop (from_+k)=l.drop k:=by rw[←List.drop_drop,hl]
 have dn:=wP s (by omega) (from_+k) hle2
 have da:=qO s (from_+k) (by omega)
 rw[hde] at dn da
 have hul:=Tk.Bu (l.drop k)
 rw[List.length_drop] at hul;have e37:(((Tk.at0 (l.drop k)).toNat:Int)==37)=(Tk.at0 (l.drop k)==37):=fA _ 37
 have hnn:Tk.num 0 (l.take k)=Tk.num 0 l:=by
  have:l=l.take k++l.drop k:=(List.take_append_drop k l).symm
  conv=>rhs;rw[this]
  rw[Tk.vu hdig];exact(Tk.Du (n:=Tk.num 0 (l.take k)) (by rw[←hk];exact Tk.EF Tk.xd l)).symm
 have hin:=fun et ct=>NA s et ct from_ (from_+k) (l.take k) hdig (l.take k) 0 0 rfl (Nat.zero_le _) (by omega) (by omega)
 rw[hnn] at hin
 conv at hin in ap _ _=>whnf
 have hsub:(s.take (from_+k)).drop from_=l.take k:=by rw[List.drop_take,hl];congr 1;omega
 unfold Tk.number;simp only[hk];rw[←Nat.add_assoc];generalize hu:Tk.unit (l.drop k)=u at hul;have hput:=fun v=>Jx s x.live' (from_+k+u) 5 ((l.drop k).take u) v (by omega) (by rw[TS.live_toks];exact hx)
 rw[TS.live_toks] at hput;have hsub2:(s.take (from_+k+u)).drop (from_+k)=(l.drop k).take u:=by rw[List.drop_take,hde];congr 1;omega
 have b1:((0:Int)≤((from_+k:Nat):Int)∧((from_+k:Nat):Int)≤(s.length:Int))=True:=eq_true (by omega)
 have b2:((0:Int)≤(from_:Int)∧(from_:Int)≤((from_+k:Nat):Int))=True:=eq_true (by omega)
 have b3:((0:Int)≤((from_+k+u:Nat):Int)∧((from_+k+u:Nat):Int)≤(s.length:Int))=True:=eq_true (by omega)
 have b4:((0:Int)≤((from_+k:Nat):Int)∧((from_+k:Nat):Int)≤((from_+k+u:Nat):Int))=True:=eq_true (by omega)
 have w1:IntKind.i64.wrap ((from_:Int)+(k:Int))=((from_+k:Nat):Int):=by rw[IntWalk.i64_in _ (by omega)];rfl
 have w2:IntKind.i64.wrap (((from_+k:Nat):Int)+(u:Int))=((from_+k+u:Nat):Int):=by rw[IntWalk.i64_in _ (by omega)];rfl
 have w3:IntKind.i64.wrap (0 - Tk.num 0 l) = -Tk.num 0 l:=by rw[IntWalk.i64_in _ (by omega)];omega
 have t0:Int.toNat 0=0:=rfl
 have t1:Int.toNat 1=1:=rfl
 have z01:((0:Int)=1)=False:=by simp
 have z0:((0:Nat):Int)=0:=rfl
 have z1:((1:Nat):Int)=1:=rfl
 have hu37:(Tk.at0 (l.drop k)==37)=false→Tk.name (l.drop k)=u:=fun h=>by
  rw[←hu,Tk.unit,if_neg (by simpa using h)]
 have hu1:(Tk.at0 (l.drop k)==37)=true→u=1:=fun h=>by
  rw[←hu,Tk.unit,if_pos (by simpa using h)]
 refine ai rfl rfl Tryz.func186 rfl Tryz.ntmps186 ⟨by simp,by simp[LK]⟩ ?_
 have hr:Tryz.f186.results=#[]:=rfl
 cases neg
 all_goals (
  simp only[Bool.false_eq_true,if_true,if_false] at hf;subst hf;simp only[z0,z1,Nat.zero_add] at d0 hrun w1 b1 b2 b3 b4 w2 hin hsub hsub2 hput dn da hu37 hu1 e45
  first|(rw[List.drop_zero] at hl;subst hl)|skip
  cases x)
 ·obtain⟨o,S',e,rfl,f0,f2,f3,f4,fn,fb⟩:=hin 0 [];simp only[TS.cell,TS.live',TS.toks,scan,List.map_cons,List.map_nil,Tok.enc,List.nil_append] at hput ⊢;simp only[go_sem,reduceLT,reduceCtorEq,reduceEqDiff,Nat.reduceBEq,reduceAdd,ax aB,lV aB,d0,e45,hrun,w1,b1,b2,Int.toNat_natCast,hsub,t0];rw[au];simp only[go_sem,reduceCtorEq,reduceEqDiff];erw [e];cases h37:(Tk.at0 (s.drop k)==37)
  ·rw[h37] at e37
   rw[hu37 h37] at dn
   simp only[go_sem,reduceLT,reduceCtorEq,reduceEqDiff,Nat.reduceBEq,reduceAdd,ax aB,hr,z01,f0,f2,f3,f4,fn,fb,dn,da,e37,w2,w3,b3,b4,Int.toNat_natCast,hsub2,hput]
  ·rw[h37] at e37
   rw[hu1 h37] at w2 b3 b4 hput hsub2 ⊢
   simp only[z1] at w2
   simp only[go_sem,reduceLT,reduceCtorEq,reduceEqDiff,Nat.reduceBEq,reduceAdd,ax aB,hr,z01,f0,f2,f3,f4,fn,fb,dn,da,e37,w2,w3,b3,b4,Int.toNat_natCast,hsub2,hput]

 ·obtain⟨o,S',e,rfl,f0,f2,f3,f4,fn,fb⟩:=hin 0 [];simp only[TS.cell,TS.live',TS.toks,scan,List.map_cons,List.map_nil,Tok.enc,List.nil_append] at hput ⊢;simp only[go_sem,reduceLT,reduceCtorEq,reduceEqDiff,Nat.reduceBEq,reduceAdd,ax aB,lV aB,d0,e45,hrun,w1,b1,b2,Int.toNat_natCast,hsub,t0];rw[au];simp only[go_sem,reduceCtorEq,reduceEqDiff];erw [e];cases h37:(Tk.at0 (s.drop k)==37)
  ·rw[h37] at e37
   rw[hu37 h37] at dn
   simp only[go_sem,reduceLT,reduceCtorEq,reduceEqDiff,Nat.reduceBEq,reduceAdd,ax aB,hr,z01,f0,f2,f3,f4,fn,fb,dn,da,e37,w2,w3,b3,b4,Int.toNat_natCast,hsub2,hput]
  ·rw[h37] at e37
   rw[hu1 h37] at w2 b3 b4 hput hsub2 ⊢
   simp only[z1] at w2
   simp only[go_sem,reduceLT,reduceCtorEq,reduceEqDiff,Nat.reduceBEq,reduceAdd,ax aB,hr,z01,f0,f2,f3,f4,fn,fb,dn,da,e37,w2,w3,b3,b4,Int.toNat_natCast,hsub2,hput]

 ·rename_i lt;obtain⟨o,S',e,rfl,f0,f2,f3,f4,fn,fb⟩:=hin 91 (lt.map Tok.enc);simp only[TS.cell,TS.live',TS.toks,scan,List.map_append,List.map_cons,List.map_nil,Tok.enc] at hput ⊢;simp only[go_sem,reduceLT,reduceCtorEq,reduceEqDiff,Nat.reduceBEq,reduceAdd,ax aB,lV aB,d0,e45,hrun,w1,b1,b2,Int.toNat_natCast,hsub,t0];rw[au];simp only[go_sem,reduceCtorEq,reduceEqDiff];erw [e];cases h37:(Tk.at0 (s.drop k)==37)
  ·rw[h37] at e37
   rw[hu37 h37] at dn
   simp only[go_sem,reduceLT,reduceCtorEq,reduceEqDiff,Nat.reduceBEq,reduceAdd,ax aB,hr,z01,f0,f2,f3,f4,fn,fb,dn,da,e37,w2,w3,b3,b4,Int.toNat_natCast,hsub2,hput]
  ·rw[h37] at e37
   rw[hu1 h37] at w2 b3 b4 hput hsub2 ⊢
   simp only[z1] at w2
   simp only[go_sem,reduceLT,reduceCtorEq,reduceEqDiff,Nat.reduceBEq,reduceAdd,ax aB,hr,z01,f0,f2,f3,f4,fn,fb,dn,da,e37,w2,w3,b3,b4,Int.toNat_natCast,hsub2,hput]

 ·obtain⟨o,S',e,rfl,f0,f2,f3,f4,fn,fb⟩:=hin 0 [];simp only[TS.cell,TS.live',TS.toks,scan,List.map_cons,List.map_nil,Tok.enc,List.nil_append] at hput ⊢;simp only[go_sem,reduceLT,reduceCtorEq,reduceEqDiff,Nat.reduceBEq,reduceAdd,ax aB,lV aB,d0,e45,hrun,w1,b1,b2,Int.toNat_natCast,hsub,t1];rw[au];simp only[go_sem,reduceCtorEq,reduceEqDiff];erw [e];cases h37:(Tk.at0 (l.drop k)==37)
  ·rw[h37] at e37
   rw[hu37 h37] at dn
   simp only[go_sem,reduceLT,reduceCtorEq,reduceEqDiff,Nat.reduceBEq,reduceAdd,ax aB,hr,f0,f2,f3,f4,fn,fb,dn,da,e37,w2,w3,b3,b4,Int.toNat_natCast,hsub2,hput]
  ·rw[h37] at e37
   rw[hu1 h37] at w2 b3 b4 hput hsub2 ⊢
   simp only[z1] at w2
   simp only[go_sem,reduceLT,reduceCtorEq,reduceEqDiff,Nat.reduceBEq,reduceAdd,ax aB,hr,f0,f2,f3,f4,fn,fb,dn,da,e37,w2,w3,b3,b4,Int.toNat_natCast,hsub2,hput]

 ·obtain⟨o,S',e,rfl,f0,f2,f3,f4,fn,fb⟩:=hin 0 [];simp only[TS.cell,TS.live',TS.toks,scan,List.map_cons,List.map_nil,Tok.enc,List.nil_append] at hput ⊢;simp only[go_sem,reduceLT,reduceCtorEq,reduceEqDiff,Nat.reduceBEq,reduceAdd,ax aB,lV aB,d0,e45,hrun,w1,b1,b2,Int.toNat_natCast,hsub,t1];rw[au];simp only[go_sem,reduceCtorEq,reduceEqDiff];erw [e];cases h37:(Tk.at0 (l.drop k)==37)
  ·rw[h37] at e37
   rw[hu37 h37] at dn
   simp only[go_sem,reduceLT,reduceCtorEq,reduceEqDiff,Nat.reduceBEq,reduceAdd,ax aB,hr,f0,f2,f3,f4,fn,fb,dn,da,e37,w2,w3,b3,b4,Int.toNat_natCast,hsub2,hput]
  ·rw[h37] at e37
   rw[hu1 h37] at w2 b3 b4 hput hsub2 ⊢
   simp only[z1] at w2
   simp only[go_sem,reduceLT,reduceCtorEq,reduceEqDiff,Nat.reduceBEq,reduceAdd,ax aB,hr,f0,f2,f3,f4,fn,fb,dn,da,e37,w2,w3,b3,b4,Int.toNat_natCast,hsub2,hput]

 ·rename_i lt;obtain⟨o,S',e,rfl,f0,f2,f3,f4,fn,fb⟩:=hin 91 (lt.map Tok.enc);simp only[TS.cell,TS.live',TS.toks,scan,List.map_append,List.map_cons,List.map_nil,Tok.enc] at hput ⊢;simp only[go_sem,reduceLT,reduceCtorEq,reduceEqDiff,Nat.reduceBEq,reduceAdd,ax aB,lV aB,d0,e45,hrun,w1,b1,b2,Int.toNat_natCast,hsub,t1];rw[au];simp only[go_sem,reduceCtorEq,reduceEqDiff];erw [e];cases h37:(Tk.at0 (l.drop k)==37)
  ·rw[h37] at e37
   rw[hu37 h37] at dn
   simp only[go_sem,reduceLT,reduceCtorEq,reduceEqDiff,Nat.reduceBEq,reduceAdd,ax aB,hr,f0,f2,f3,f4,fn,fb,dn,da,e37,w2,w3,b3,b4,Int.toNat_natCast,hsub2,hput]
  ·rw[h37] at e37
   rw[hu1 h37] at w2 b3 b4 hput hsub2 ⊢
   simp only[z1] at w2
   simp only[go_sem,reduceLT,reduceCtorEq,reduceEqDiff,Nat.reduceBEq,reduceAdd,ax aB,hr,f0,f2,f3,f4,fn,fb,dn,da,e37,w2,w3,b3,b4,Int.toNat_natCast,hsub2,hput]
attribute [local go_sem] Oj wG GA Gx
def fY (c:UInt8):Int:=if Tk.begins c then 1 else if Tk.digit c then 2 else if c==45 then 3 else if Tk.blank c then 4 else 0
def isI (v:Int):Option Res→Bool
 | some (.ret (.c (.pv (.int .i64 n))) [])=>n==v
 | _=>false
theorem RG {v:Int}{r:Option Res}(h:isI v r=true):r=some (.ret (I v) []):=by
 unfold isI at h;split at h
 ·rename_i n;have:n=v:=by simpa using h
  rw[this]
 ·cases h
theorem LA:(List.range 256).all (fun n=>isI (fY (UInt8.ofNat n)) (eU K 5 157 [.c (.pv (.int .u8 (n:Nat)))] []))=true:=by kernel_rfl
theorem Kx (c:UInt8):den K 157 [U c] []=some (.ret (I (fY c)) []):=by
 have h:=List.all_eq_true.1 LA c.toNat (List.mem_range.2 c.toNat_lt)
 have h2:=RG h
 rw[UInt8.ofNat_toNat] at h2;exact rZ.2 ⟨5,h2⟩
theorem uQ:(List.range 256).all (fun n=>let c:=UInt8.ofNat n;((fY c==1)==Tk.begins c)&&((fY c==2)==Tk.digit c)&&((fY c==3)==(c==45))&&((fY c==4)==Tk.blank c)&&((decide (1≤fY c)&&decide (fY c≤3))==Tk.within c))=true:=by kernel_rfl
theorem kT (c:UInt8):(fY c==1)=Tk.begins c∧(fY c==2)=Tk.digit c∧(fY c==3)=(c==45)∧(fY c==4)=Tk.blank c∧(decide (1≤fY c)&&decide (fY c≤3))=Tk.within c:=by
 have h:=List.all_eq_true.1 uQ c.toNat (List.mem_range.2 c.toNat_lt)
 simp only[UInt8.ofNat_toNat,Bool.and_eq_true,beq_iff_eq] at h;obtain⟨⟨⟨⟨h1,h2⟩,h3⟩,h4⟩,h5⟩:=h;exact⟨h1,h2,h3,h4,h5⟩
def atC:List UInt8→Int
 | [] => -1
 | c::_=>fY c
theorem tS (l:List UInt8):(atC l==1)=Tk.begins (Tk.at0 l)∧(atC l==2)=Tk.digit (Tk.at0 l)∧(atC l==3)=(Tk.at0 l==45)∧(atC l==4)=Tk.blank (Tk.at0 l)∧(decide (1≤atC l)&&decide (atC l≤3))=Tk.within (Tk.at0 l):=by
 cases l with
 | nil=>decide
 | cons c r=>exact kT c
theorem je (s:List UInt8)(i:Nat)(hs:s.length<4000000000):den K 116 [T s,I i] []=some (.ret (I (atC (s.drop i))) []):=by
 refine ai rfl rfl Tryz.func116 rfl Tryz.ntmps116 ⟨by simp,by simp[LK]⟩ ?_
 have hr:Tryz.f116.results=#[.tmp 4]:=rfl
 by_cases h:i<s.length
 ·have hlt:decide ((i:Int)<(s.length:Int))=true:=decide_eq_true (by omega)
  have hd:=List.drop_eq_getElem_cons h
  have hg:s[i]? = some (s[i]'h):=List.getElem?_eq_getElem h
  generalize s[i]'h=c at hd hg;rw[hd,atC];have hc:=Kx c
  simp only[go_sem,reduceLT,reduceCtorEq,reduceEqDiff,Nat.reduceBEq,reduceAdd,aE am,bd am,hr,hlt,Int.natCast_nonneg,Int.toNat_natCast,hg,hc]
 ·have hlt:decide ((i:Int)<(s.length:Int))=false:=decide_eq_false (by omega)
  rw[List.drop_eq_nil_of_le (by omega),atC]
  simp only[go_sem,reduceLT,reduceCtorEq,reduceEqDiff,Nat.reduceBEq,reduceAdd,aE am,bd am,hr,hlt]
theorem qU (s:List UInt8)(i:Nat)(hs:s.length<4000000000)(hi:i≤s.length):den K 119 [T s,I i] []=some (.ret (B (Tk.eS (s.drop i))) []):=by
 have d1:=je s i hs
 have d2:=je s (i+1) hs
 obtain⟨f1,_,f3,_,_⟩:=tS (s.drop i);obtain⟨g1,_,g3,_,_⟩:=tS (s.drop (i+1));have ht:(s.drop i).tail=s.drop (i+1):=List.tail_drop
 unfold Tk.eS;rw[ht,←f1,←f3,←g1,←g3];generalize atC (s.drop i)=v at d1
 generalize atC (s.drop (i+1))=w at d2
 clear f1 f3 g1 g3 ht;refine ai rfl rfl Tryz.func119 rfl Tryz.ntmps119 ⟨by simp,by simp[LK]⟩ ?_
 have hr:Tryz.f119.results=#[.tmp 4]:=rfl
 cases b1:(v==1)
 ·cases b3:(v==3)
  ·simp only[go_sem,reduceLT,reduceCtorEq,reduceEqDiff,Nat.reduceBEq,reduceAdd,hr,d1,b1,b3]
  ·cases c1:(w==1)
   ·cases c3:(w==3)<;>simp only[go_sem,reduceLT,reduceCtorEq,reduceEqDiff,Nat.reduceBEq,reduceAdd,hr,d1,d2,b1,b3,c1,c3,aX i (by omega)]
   ·simp only[go_sem,reduceLT,reduceCtorEq,reduceEqDiff,Nat.reduceBEq,reduceAdd,hr,d1,d2,b1,b3,c1,aX i (by omega)]
 ·simp only[go_sem,reduceLT,reduceCtorEq,reduceEqDiff,Nat.reduceBEq,reduceAdd,hr,d1,b1]
abbrev Vt (s:List UInt8)(i:Nat):St := { sl:=upd (upd bot 1 (I i)) 0 (T s),bx:=nobox,nt:=18 }
theorem Gy (s:List UInt8)(hs:s.length<4000000000):∀ (rest:List UInt8) (i:Nat),s.drop i=rest→i≤s.length →
  Ends (exL K 118 (.loop (ap Tryz.f118 1)) (Vt s i)) fun o S=>o=.exit 0∧S.nt=18∧S.sl 1=I (i+Tk.run Tk.within rest:Nat):=by
 intro rest
 induction rest with
 | nil =>
  intro i hd hi;have d1:=je s i hs
  rw[hd] at d1
  have v0:atC [] = -1:=rfl
  rw[v0] at d1
  have e0:decide ((1:Int) ≤ -1)=false:=by decide
  conv in ap _ _=>whnf
  rw[aq];simp only[go_sem,reduceLT,reduceCtorEq,reduceEqDiff,Nat.reduceBEq,reduceAdd,aw,d1,e0,Tk.vv]
 | cons c rest ih =>
  intro i hd hi;obtain⟨g1,g2,g3⟩:=bH hd;have d1:=je s i hs
  rw[hd] at d1
  have v0:atC (c::rest)=fY c:=rfl
  rw[v0] at d1
  obtain⟨_,_,_,_,f⟩:=kT c;have ih':=ih (i+1) g2 (by omega)
  conv at ih' in ap _ _=>whnf
  conv in ap _ _=>whnf
  rw[aq];cases b1:decide (1≤fY c)
  ·rw[b1,Bool.false_and] at f
   have hv:Tk.run Tk.within (c::rest)=0:=by rw[Tk.run,←f];rfl
   simp only[go_sem,reduceLT,reduceCtorEq,reduceEqDiff,Nat.reduceBEq,reduceAdd,aw,d1,b1,hv]
  ·rw[b1,Bool.true_and] at f
   cases b2:decide (fY c≤3)
   ·rw[b2] at f
    have hv:Tk.run Tk.within (c::rest)=0:=by rw[Tk.run,←f];rfl
    simp only[go_sem,reduceLT,reduceCtorEq,reduceEqDiff,Nat.reduceBEq,reduceAdd,aw,d1,b1,b2,hv]
   ·rw[b2] at f
    have hv:i+1+Tk.run Tk.within rest=i+Tk.run Tk.within (c::rest):=by rw[Tk.run,if_pos f.symm];omega
    rw[hv] at ih';simp only[go_sem,reduceLT,reduceCtorEq,reduceEqDiff,Nat.reduceBEq,reduceAdd,d1,b1,b2,aX i (by omega)]
    rw[au];simp only[go_sem,reduceCtorEq,reduceEqDiff];exact ih'
theorem tM (s:List UInt8)(i:Nat)(hs:s.length<4000000000)(hi:i≤s.length):den K 118 [T s,I i] []=some (.ret (I (i+Tk.run Tk.within (s.drop i):Nat)) []):=by
 refine ai rfl rfl Tryz.func118 rfl Tryz.ntmps118 ⟨by simp,by simp[LK]⟩ ?_
 have hr:Tryz.f118.results=#[.tmp 4]:=rfl
 have hl:=Gy s hs (s.drop i) i rfl hi
 conv at hl in ap _ _=>whnf
 obtain⟨o,S',w,rfl,hn,h1⟩:=hl;simp only[go_sem,reduceLT,Nat.reduceBEq];rw[au];simp only[go_sem,reduceCtorEq,reduceEqDiff];erw [w];simp only[go_sem,reduceLT,reduceEqDiff,Nat.reduceBEq,reduceAdd,hr,hn,h1]
abbrev comH (s:List UInt8)(k:Nat):St := { sl:=upd (upd bot 5 (I k)) 0 (T s),bx:=nobox,nt:=30 }
theorem Nr (s:List UInt8)(hs:s.length<4000000000):∀ (rest:List UInt8) (k:Nat),s.drop k=rest→k≤s.length →
  Ends (exL K 115 (.loop (ap Tryz.f115 2)) (comH s k)) fun o S=>(∃ n,Tk.shut rest=some n∧o=.ret∧S.sl 4=I (k+n:Nat))∨(Tk.shut rest=none∧o=.exit 0∧S.nt=30∧S.sl 0=T s):=by
 intro rest
 induction rest with
 | nil =>
  intro k hd hk;have hin:k=s.length:=by
   have:=List.drop_eq_nil_iff.1 hd
   omega
  subst hin;have w1:=aX s.length (by omega)
  have e0:decide (((s.length+1:Nat):Int)<(s.length:Int))=false:=decide_eq_false (by omega)
  have hv:Tk.shut []=none:=rfl
  conv in ap _ _=>whnf
  rw[aq];simp only[go_sem,reduceLT,reduceCtorEq,reduceEqDiff,Nat.reduceBEq,reduceAdd,aE am,aw,w1,e0,hv]
 | cons c rest ih =>
  intro k hd hk;obtain⟨g1,g2,g3⟩:=bH hd;have w1:=aX k (by omega)
  have e42:((c.toNat:Int)==42)=(c==42):=fA c 42
  cases rest with
  | nil =>
   have hl:k+1=s.length:=by
    have:=List.drop_eq_nil_iff.1 g2
    omega
   have e0:decide (((k+1:Nat):Int)<(s.length:Int))=false:=decide_eq_false (by omega)
   have hv:Tk.shut [c]=none:=by
    rw[Tk.shut,if_neg (fun h=>absurd h.2 (by decide))];rfl
   conv in ap _ _=>whnf
   rw[aq];simp only[go_sem,reduceLT,reduceCtorEq,reduceEqDiff,Nat.reduceBEq,reduceAdd,aE am,aw,w1,e0,hv]
  | cons d rest =>
   obtain⟨k1,k2,k3⟩:=bH g2;have e0:decide (((k+1:Nat):Int)<(s.length:Int))=true:=decide_eq_true (by omega)
   have e47:((d.toNat:Int)==47)=(d==47):=fA d 47
   have w2:IntKind.i64.wrap ((k:Int)+2)=((k+2:Nat):Int):=by rw[IntWalk.i64_in _ (by omega)];rfl
   have ih':=ih (k+1) g2 (by omega)
   conv at ih' in ap _ _=>whnf
   conv in ap _ _=>whnf
   rw[aq];by_cases hc:c=42∧d=47
   ·have hv:Tk.shut (c::d::rest)=some 2:=by rw[Tk.shut,if_pos ⟨hc.1,hc.2⟩]
    have q1:(c==42)=true:=by simp[hc.1]
    have q2:(d==47)=true:=by simp[hc.2]
    rw[q1] at e42
    rw[q2] at e47
    simp only[go_sem,reduceLT,reduceCtorEq,reduceEqDiff,Nat.reduceBEq,reduceAdd,aE am,bd am,aw,w1,w2,e0,hv,g1,k1,e42,e47,Int.natCast_nonneg,Int.toNat_natCast];simp
   ·have hv:Tk.shut (c::d::rest)=(Tk.shut (d::rest)).map (· + 1):=by rw[Tk.shut,if_neg (show ¬ (c=42∧Tk.at0 (d::rest)=47) from hc)]
    rw[hv];have fin:∀ {r:Option (Out×St)},Ends r (fun o S=>(∃ n,Tk.shut (d::rest)=some n∧o=.ret∧S.sl 4=I (k+1+n:Nat))∨(Tk.shut (d::rest)=none∧o=.exit 0∧S.nt=30∧S.sl 0=T s))→Ends r (fun o S=>(∃ n,(Tk.shut (d::rest)).map (· + 1)=some n∧o=.ret∧S.sl 4=I (k+n:Nat))∨((Tk.shut (d::rest)).map (· + 1)=none∧o=.exit 0∧S.nt=30∧S.sl 0=T s)):=by
     rintro r ⟨o,S,e,h⟩
     refine⟨o,S,e,?_⟩
     rcases h with⟨n,h1,h2,h3⟩|⟨h1,h2⟩
     ·left;exact⟨n+1,by rw[h1];rfl,h2,by rw[h3,show k+1+n=k+(n+1) by omega]⟩
     ·right;exact⟨by rw[h1];rfl,h2⟩
    refine fin ?_
    cases q1:(c==42)
    ·rw[q1] at e42
     simp only[go_sem,reduceLT,reduceCtorEq,reduceEqDiff,Nat.reduceBEq,reduceAdd,aE am,bd am,w1,e0,g1,e42,Int.natCast_nonneg,Int.toNat_natCast];rw[au];simp only[go_sem,reduceCtorEq,reduceEqDiff];exact ih'
    ·rw[q1] at e42
     have q2:(d==47)=false:=by
      rw[beq_eq_false_iff_ne];intro h;exact hc ⟨by simpa using q1,h⟩
     rw[q2] at e47
     simp only[go_sem,reduceLT,reduceCtorEq,reduceEqDiff,Nat.reduceBEq,reduceAdd,aE am,bd am,w1,e0,g1,k1,e42,e47,Int.natCast_nonneg,Int.toNat_natCast];rw[au];simp only[go_sem,reduceCtorEq,reduceEqDiff];exact ih'
theorem AO (s:List UInt8)(i:Nat)(hs:s.length<4000000000)(hi:i+2≤s.length):den K 115 [T s,I i] []=some (.ret (I (i+Tk.comment (s.drop (i+2)):Nat)) []):=by
 refine ai rfl rfl Tryz.func115 rfl Tryz.ntmps115 ⟨by simp,by simp[LK]⟩ ?_
 have hr:Tryz.f115.results=#[.tmp 4]:=rfl
 have w2:IntKind.i64.wrap ((i:Int)+2)=((i+2:Nat):Int):=by rw[IntWalk.i64_in _ (by omega)];rfl
 have hl:=Nr s hs (s.drop (i+2)) (i+2) rfl hi
 conv at hl in ap _ _=>whnf
 obtain⟨o,S',w,h⟩:=hl;simp only[go_sem,reduceLT,reduceEqDiff,Nat.reduceBEq,reduceAdd,w2];rw[au];simp only[go_sem,reduceCtorEq,reduceEqDiff];erw [w];unfold Tk.comment;rcases h with⟨n,h1,rfl,h2⟩|⟨h1,rfl,h2,h3⟩
 ·rw[h1];have e:i+2+n=i+(n+2):=by omega
  rw[e] at h2;simp only[go_sem,hr,h2]
 ·rw[h1];have e:i+((s.drop (i+2)).length+2)=s.length:=by rw[List.length_drop];omega
  simp only[e];simp only[go_sem,reduceLT,reduceEqDiff,Nat.reduceBEq,reduceAdd,aE am,hr,h2,h3]
attribute [local go_sem] Sm
theorem ll {u:Nat}(h:u<10):Lib.decDigits u=[UInt8.ofNat (48+u)]:=by rw[Lib.decDigits,dif_pos h]
theorem qv {u:Nat}(h:¬ u<10):Lib.decDigits u=Lib.decDigits (u / 10)++[UInt8.ofNat (48+u % 10)]:=by rw[Lib.decDigits,dif_neg h]
theorem Cs (u:Nat):(u:Int).tdiv 10=((u / 10:Nat):Int):=rfl
theorem Pv (u:Nat):(u:Int).tmod 10=((u % 10:Nat):Int):=rfl
theorem wH:((10:Int)=0)=False:=by simp
theorem sl0:(0+1<bN)=True:=by simp[bN]
theorem sl1:(1+1<bN)=True:=by simp[bN]
theorem OJ {n:Int}(h:n<0):Lib.itoa n=45::Lib.decDigits n.natAbs:=by unfold Lib.itoa;rw[if_pos h]
theorem sb {n:Int}(h:0≤n):Lib.itoa n=Lib.decDigits n.toNat:=by unfold Lib.itoa;rw[if_neg (by omega)]
theorem GN:∀ (k:Nat) (n:Int),n.natAbs≤k→I64 n→den K 27 [I n] []=some (.ret (T (Lib.itoa n)) []):=by
 intro k
 induction k with
 | zero =>
  intro n hk hn;have:n=0:=by omega
  subst this;refine ai rfl rfl Tryz.func27 rfl Tryz.ntmps27 ⟨by simp,by simp[LK]⟩ ?_
  have hr:Tryz.f27.results=#[.tmp 2]:=rfl
  have e:Lib.itoa 0=[48]:=by rw[sb (by omega)];exact ll (by omega)
  rw[e];have w1:IntKind.i64.wrap 48=48:=by decide
  have w2:IntKind.u8.wrap 48=48:=by decide
  simp[go_sem,reduceLT,reduceCtorEq,reduceEqDiff,Nat.reduceBEq,dS cU eE,ao (len:=1) fi nf iT ⟨rfl,by decide,by decide⟩,iQ fi am,bytesOf,wH,w1,w2]
 | succ k ih =>
  intro n hk hn;have hr:Tryz.f27.results=#[.tmp 2]:=rfl
  have hlen:=kV hn
  by_cases hneg:n<0
  ·have hl:decide (n<0)=true:=decide_eq_true hneg
   have hq:n.tdiv 10 = -(((n.natAbs / 10:Nat)):Int):=by
    obtain⟨u,rfl⟩:∃ u:Nat,n = -(u:Int):=⟨n.natAbs,by omega⟩
    rw[Int.neg_tdiv,Cs];simp only[Int.natAbs_neg,Int.natAbs_natCast]
   have hm:n.tmod 10 = -(((n.natAbs % 10:Nat)):Int):=by
    obtain⟨u,rfl⟩:∃ u:Nat,n = -(u:Int):=⟨n.natAbs,by omega⟩
    rw[Int.neg_tmod,Pv];simp only[Int.natAbs_neg,Int.natAbs_natCast]
   have w1:IntKind.i64.wrap (n.tdiv 10)=n.tdiv 10:=IntWalk.i64_in _ (by have:=hn.1;have:=hn.2;omega)
   have w3:IntKind.i64.wrap (48 - n.tmod 10)=((48+n.natAbs % 10:Nat):Int):=by rw[IntWalk.i64_in _ (by omega),hm];omega
   have w4:IntKind.u8.wrap ((48+n.natAbs % 10:Nat):Int)=((48+n.natAbs % 10:Nat):Int):=IntWalk.u8_in _ (by omega)
   rw[OJ hneg] at hlen ⊢;by_cases hs:n.natAbs<10
   ·have hq0:decide (n.tdiv 10<0)=false:=decide_eq_false (by omega)
    rw[ll hs];have hmm:n.natAbs % 10=n.natAbs:=Nat.mod_eq_of_lt hs
    rw[hmm] at w3 w4
    refine ai rfl rfl Tryz.func27 rfl Tryz.ntmps27 ⟨by simp,by simp[LK]⟩ ?_
    simp only[go_sem,reduceLT,reduceCtorEq,reduceEqDiff,Nat.reduceBEq,reduceAdd,reduceMul,dS cU eE,ao (len:=1) fi nf iT ⟨rfl,by decide,by decide⟩,iQ fi am,hr,bytesOf,wH,Int.toNat_natCast,sl0,sl1,hl,hq0,w1,w3,w4]
   ·have hq1:decide (n.tdiv 10<0)=true:=decide_eq_true (by omega)
    have w2:IntKind.i64.wrap (0 - n.tdiv 10)=((n.natAbs / 10:Nat):Int):=by rw[IntWalk.i64_in _ (by have:=hn.1;have:=hn.2;omega)];omega
    have hc:=ih ((n.natAbs / 10:Nat):Int) (by omega) ⟨by omega,by have:=hn.1;have:=hn.2;omega⟩
    rw[sb (by omega),Int.toNat_natCast] at hc
    rw[qv hs] at hlen ⊢;have s1:1+(Lib.decDigits (n.natAbs / 10)).length<bN:=by simp at hlen;simp[bN];omega
    have s2:(Lib.decDigits (n.natAbs / 10)).length+1+1<bN:=by simp at hlen;simp[bN];omega
    refine ai rfl rfl Tryz.func27 rfl Tryz.ntmps27 ⟨by simp,by simp[LK]⟩ ?_
    simp only[go_sem,reduceLT,reduceCtorEq,reduceEqDiff,Nat.reduceBEq,reduceAdd,reduceMul,dS cU eE,ao (len:=1) fi nf iT ⟨rfl,by decide,by decide⟩,iQ fi am,hr,bytesOf,wH,Int.toNat_natCast,hl,hq1,w1,w2,w3,w4,hc,s1,s2]
  ·have hl:decide (n<0)=false:=decide_eq_false hneg
   obtain⟨u,rfl⟩:∃ u:Nat,n=u:=⟨n.toNat,by omega⟩
   have hm:(u:Int).tmod 10=((u % 10:Nat):Int):=rfl
   have w3:IntKind.i64.wrap (48+(u:Int).tmod 10)=((48+u % 10:Nat):Int):=by rw[hm,IntWalk.i64_in _ (by omega)];omega
   have w4:IntKind.u8.wrap ((48+u % 10:Nat):Int)=((48+u % 10:Nat):Int):=IntWalk.u8_in _ (by omega)
   rw[sb (by omega),Int.toNat_natCast] at hlen ⊢
   by_cases hs:u<10
   ·have hg:decide ((10:Int)≤(u:Int))=false:=decide_eq_false (by omega)
    rw[ll hs];have hmm:u % 10=u:=Nat.mod_eq_of_lt hs
    rw[hmm] at w3 w4
    refine ai rfl rfl Tryz.func27 rfl Tryz.ntmps27 ⟨by simp,by simp[LK]⟩ ?_
    simp only[go_sem,reduceLT,reduceCtorEq,reduceEqDiff,Nat.reduceBEq,reduceAdd,reduceMul,dS cU eE,ao (len:=1) fi nf iT ⟨rfl,by decide,by decide⟩,iQ fi am,hr,bytesOf,wH,Int.toNat_natCast,hl,hg,w3,w4]
   ·have hg:decide ((10:Int)≤(u:Int))=true:=decide_eq_true (by omega)
    have w1:IntKind.i64.wrap ((u:Int).tdiv 10)=((u / 10:Nat):Int):=by rw[Cs,IntWalk.i64_in _ (by have:=hn.2;omega)]
    have hc:=ih ((u / 10:Nat):Int) (by omega) ⟨by omega,by have:=hn.2;omega⟩
    rw[sb (by omega),Int.toNat_natCast] at hc
    rw[qv hs] at hlen ⊢;have s1:(Lib.decDigits (u / 10)).length+1<bN:=by simp at hlen;simp[bN];omega
    refine ai rfl rfl Tryz.func27 rfl Tryz.ntmps27 ⟨by simp,by simp[LK]⟩ ?_
    simp only[go_sem,reduceLT,reduceCtorEq,reduceEqDiff,Nat.reduceBEq,reduceAdd,reduceMul,dS cU eE,ao (len:=1) fi nf iT ⟨rfl,by decide,by decide⟩,iQ fi am,hr,bytesOf,wH,Int.toNat_natCast,hl,hg,w1,w3,w4,hc,s1]
theorem MF (n:Int)(h:I64 n):den K 27 [I n] []=some (.ret (T (Lib.itoa n)) []):=GN n.natAbs n (Nat.le_refl _) h
theorem Nw (t:Tok)(hn:I64 t.n)(hl:t.text.length<1000000000000):den K 109 [.agg t.cells] []=some (.ret (T (oneS t)) []):=by
 obtain⟨k,s,n⟩:=t;refine ai rfl rfl Tryz.func109 rfl Tryz.ntmps109 ⟨by simp,by simp[LK]⟩ ?_
 have hr:Tryz.f109.results=#[.tmp 2]:=rfl
 have hit:=MF n hn
 have hi:=kV hn
 simp only at hl hi;have l1:s.length+1<bN:=by simp[bN];omega
 have l1':1+s.length<bN:=by simp[bN];omega
 have l2:(Lib.itoa n).length+s.length<bN:=by simp[bN];omega
 have l3:1+s.length+1<bN:=by simp[bN];omega
 have l4:s.length+5<bN:=by simp[bN];omega
 have l7:s.length+1+1<bN:=by simp[bN];omega
 have hk:k=1∨k=2∨k=3∨k=4∨k=5∨k=6∨k=7∨k=8∨(k≠1∧k≠2∧k≠3∧k≠4∧k≠5∧k≠6∧k≠7∧k≠8):=by omega
 rcases hk with rfl|rfl|rfl|rfl|rfl|rfl|rfl|rfl|⟨h1,h2,h3,h4,h5,h6,h7,h8⟩
 ·simp[go_sem,reduceLT,reduceEqDiff,Nat.reduceBEq,reduceAdd,Tok.cells,oneS]
 ·simp[go_sem,reduceLT,reduceEqDiff,Nat.reduceBEq,reduceAdd,Tok.cells,oneS,l1]
 ·simp[go_sem,reduceLT,reduceEqDiff,Nat.reduceBEq,reduceAdd,Tok.cells,oneS,l1']
 ·simp[go_sem,reduceLT,reduceEqDiff,Nat.reduceBEq,reduceAdd,Tok.cells,oneS,l1']
 ·simp[go_sem,reduceLT,reduceCtorEq,reduceEqDiff,Nat.reduceBEq,reduceAdd,Tok.cells,oneS,hit,l2]
 ·by_cases h:n=39<;>simp[go_sem,reduceLT,reduceEqDiff,Nat.reduceBEq,reduceAdd,Tok.cells,oneS,h,l1',l7]
 ·by_cases h:s=[34]
  ·simp[go_sem,reduceLT,reduceEqDiff,Nat.reduceBEq,reduceAdd,Tok.cells,oneS,h,bN]
  ·have e:(s==[34])=false:=by simp[h]
   by_cases h':s=[39]
   ·simp[go_sem,reduceLT,reduceEqDiff,Nat.reduceBEq,reduceAdd,Tok.cells,oneS,h',bN]
   ·have e':(s==[39])=false:=by simp[h']
    simp[go_sem,reduceLT,reduceEqDiff,Nat.reduceBEq,reduceAdd,Tok.cells,oneS,e,e',h,h']
 ·simp[go_sem,reduceLT,reduceEqDiff,Nat.reduceBEq,reduceAdd,Tok.cells,oneS]
 ·simp[go_sem,reduceLT,reduceEqDiff,Nat.reduceBEq,reduceAdd,Tok.cells,oneS,h1,h2,h3,h4,h5,h6,h7,h8]
end Go.Abs
