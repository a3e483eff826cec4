/-
  WHAT THE FUNCTIONS COMPUTE, layer 4: whether a simple selector may be, as the program tells, all kinds. (Printed by gens9.py.)
  (And 1 texts more.)
-/
import Derived.Test.YtlomcifkckgneaaGreatDoorRt17
import Derived.Test.YtlomcifkckgneaaGreatDoorRt22
set_option maxHeartbeats 16000000
open Nat (reduceEqDiff reduceAdd reduceLT reduceLeDiff reduceSub reduceMul)
set_option linter.unusedSimpArgs false
set_option linter.unusedVariables false
namespace Go.Abs
open Go Go.Proofs
set_option maxRecDepth 10000
attribute [local go_sem] c7 bF cD bW bZ db cJ cE a7 ck ce cF c8 bS opd avOf cvOf St.degAt St.put okPV d6 okAV du dv dt cU aM if_true Bool.false_eq_true if_false Option.map_some Option.map_none Option.bind_some Option.bind_none dY dV upd List.toList_toArray cR steal bz mvB dE cV cT AV.deg CV.deg AV.gv AV.isIter cN cI bU List.length_nil List.length_cons List.filterMap_cons List.filterMap_nil beq_iff_eq List.getElem?_cons_zero List.getElem?_cons_succ Option.getD_some d8 eV Bool.false_and Bool.and_false Bool.and_self K_P fq co cO bw lend back idx dedup AV.ren CV.ren TV.ren AV.ptrs CV.ptrs cX AV.flat CV.flat cz cg bc c9 dk eo cj aY cm bt bH cf br eF CV.pv? content bA ownT bd reps pvs chunks cd leave eB cK dr bT bv TV.deg TV.av LK CV.plain CV.noBld c5 eA bound List.map_cons List.map_nil List.all_cons List.all_nil List.any_cons List.any_nil List.contains_cons List.contains_nil List.elem_cons List.elem_nil List.cons_append List.nil_append List.append_nil List.flatMap_cons List.flatMap_nil List.zip_cons_cons List.zip_nil_left List.zip_nil_right List.take_succ_cons List.take_zero List.take_nil List.drop_succ_cons List.drop_zero List.drop_nil List.isEmpty_nil List.isEmpty_cons Bool.and_true Bool.true_and Bool.or_true Bool.true_or Bool.or_false Bool.false_or Bool.not_true Bool.not_false Nat.add_zero Nat.zero_add Option.isNone_none Option.isNone_some Option.getD_none true_and and_true not_true_eq_false not_false_eq_true decide_true decide_false Nat.le_refl and_self Bool.not_eq_true Nat.sub_self or_true true_or Option.some.injEq List.length_map List.nil_eq and_false false_and AV.live CV.live CV.liveIn dU bg Option.orElse_some Option.orElse_none head bm bh Int.lt_irrefl List.length_append ite_self dZ cA dc bC Key.clash Key.sees Key.writes Nat.lt_irrefl gt_iff_lt cH dH false_or or_false beq_self_eq_true Bool.true_beq Bool.false_beq
theorem I4 {k:Int} {n v:List UInt8} {a b:Int} {l:List Sim} (h:¬ PreM k n v a b (l.map Sim.enc)):Sl.oneB (.mk k n v a b l)=false:=by
 rw[Sl.oneB];cases hh:Sl.oneK k n v a b&&(if k=11 then(l.length==1&&Sl.j8 l) else l.isEmpty) with
 | false=>rfl
 | true =>
  exfalso
  apply h
  rw[Bool.and_eq_true] at hh;obtain⟨h1,h2⟩:=hh;unfold Sl.oneK at h1;unfold PreM bN bV bI;by_cases k11:k=11
  ·subst k11;simp at h1;simp[h1]
  ·rw[if_neg k11] at h2;have hl:l=[]:=by simpa using h2
   subst hl
   repeat' split at h1
   all_goals (first|(cases h1;done)|(simp_all;done)|(rename_i hk;rcases hk with hk|hk|hk<;>simp_all)|(rename_i hk;rcases hk with hk|hk<;>simp_all))
theorem yA {x:Sim} (hx:Sl.Sb 100000000 x):den K 150 [.agg (x.enc.map CV.pv)] []=some (.ret (B (Sl.oneB x)) []):=by
 induction hx with
 | @mk k n v a b l hn hv hl ih =>
  have hn':n.length<1000000000:=by omega
  have hv':v.length<1000000000:=by omega
  have e0:(Sim.mk k n v a b l).enc.map CV.pv=[.pv (.int .i64 k),.pv (.str n),.pv (.str v),.pv (.int .i64 a),.pv (.int .i64 b),.pv (.sl (l.map Sim.enc))]:=by rw[Sim.enc_mk];rfl
  rw[e0];by_cases hp:PreM k n v a b (l.map Sim.enc)
  case neg=>rw[I4 hp];exact Kk k n v a b _ hn hv hp
  obtain⟨p1,p2,p3,p4⟩:=hp;rw[List.append_eq_nil_iff] at p1
  obtain⟨p0,p1⟩:=p1;by_cases hk:k<1∨11<k
  ·have e1:bN k n=n:=if_neg (by omega)
   have e2:bV k v=v:=if_neg (by omega)
   have e3:bI k a=a:=if_neg (by omega)
   have e4:bI k b=b:=if_neg (by omega)
   rw[e1] at p0;rw[e2] at p1;rw[e3] at p2;rw[e4] at p3
   have p5:l=[]:=by
    rcases p4 with h|h
    ·omega
    ·simpa using h
   subst p0 p1 p2 p3 p5;have e5:Sl.oneB (.mk k [] [] 0 0 [])=false:=by
    rw[Sl.oneB,Sl.oneK,if_neg (by omega),if_neg (by omega),if_neg (by omega),if_neg (by omega),if_neg (by omega),if_neg (by omega),if_neg (by omega),if_neg (by omega)]
    rfl
   rw[e5];exact Bo k hk
  have hc:k=1∨k=2∨k=3∨k=4∨k=5∨k=6∨k=7∨k=8∨k=9∨k=10∨k=11:=by omega
  rcases hc with rfl|rfl|rfl|rfl|rfl|rfl|rfl|rfl|rfl|rfl|rfl
  ·have p5:l=[]:=by
    rcases p4 with h|h
    ·omega
    ·simpa using h
   have w0:n=[]:=p0
   have w1:v=[]:=p1
   have w2:a=0:=p2
   have w3:b=0:=p3
   subst w0 w1 w2 w3 p5;have hh:=LV
   simpa[Sl.oneB,Sl.oneK,Sl.fewB,Sl.fx,Sl.eW] using hh
  ·have p5:l=[]:=by
    rcases p4 with h|h
    ·omega
    ·simpa using h
   have w1:v=[]:=p1
   have w2:a=0:=p2
   have w3:b=0:=p3
   subst w1 w2 w3 p5;have hh:=Ld n hn'
   simpa[Sl.oneB,Sl.oneK,Sl.fewB,Sl.fx,Sl.eW] using hh
  ·have p5:l=[]:=by
    rcases p4 with h|h
    ·omega
    ·simpa using h
   have w1:v=[]:=p1
   have w2:a=0:=p2
   have w3:b=0:=p3
   subst w1 w2 w3 p5;have hh:=L5 n hn'
   simpa[Sl.oneB,Sl.oneK,Sl.fewB,Sl.fx,Sl.eW] using hh
  ·have p5:l=[]:=by
    rcases p4 with h|h
    ·omega
    ·simpa using h
   have w1:v=[]:=p1
   have w2:a=0:=p2
   have w3:b=0:=p3
   subst w1 w2 w3 p5;have hh:=LL n hn'
   simpa[Sl.oneB,Sl.oneK,Sl.fewB,Sl.fx,Sl.eW] using hh
  ·have p5:l=[]:=by
    rcases p4 with h|h
    ·omega
    ·simpa using h
   have w1:v=[]:=p1
   have w2:a=0:=p2
   have w3:b=0:=p3
   subst w1 w2 w3 p5;have hh:=Lu n hn'
   simpa[Sl.oneB,Sl.oneK,Sl.fewB,Sl.fx,Sl.eW] using hh
  ·have p5:l=[]:=by
    rcases p4 with h|h
    ·omega
    ·simpa using h
   have w2:a=0:=p2
   have w3:b=0:=p3
   subst w2 w3 p5;have hh:=KZ n v hn' hv'
   simpa[Sl.oneB,Sl.oneK,Sl.fewB,Sl.fx,Sl.eW] using hh
  ·have p5:l=[]:=by
    rcases p4 with h|h
    ·omega
    ·simpa using h
   have w1:v=[]:=p1
   have w2:a=0:=p2
   have w3:b=0:=p3
   subst w1 w2 w3 p5;have hh:=Lq n
   have e7:Sl.oneB (.mk 7 n [] 0 0 [])=decide (Sl.eW n):=by
    have h7:Sl.oneB (.mk 7 n [] 0 0 [])=Sl.fx n:=by simp[Sl.oneB,Sl.oneK]
    rw[h7,Bool.eq_iff_iff,Sl.Eh,decide_eq_true_iff]
   rw[e7];exact hh
  ·have p5:l=[]:=by
    rcases p4 with h|h
    ·omega
    ·simpa using h
   have w0:n=[]:=p0
   have w1:v=[]:=p1
   subst w0 w1 p5;have hh:=Mo a b
   simpa[Sl.oneB,Sl.oneK,Sl.fewB,Sl.fx,Sl.eW] using hh
  ·have p5:l=[]:=by
    rcases p4 with h|h
    ·omega
    ·simpa using h
   have w0:n=[]:=p0
   have w1:v=[]:=p1
   have w2:a=0:=p2
   have w3:b=0:=p3
   subst w0 w1 w2 w3 p5;have hh:=LW
   simpa[Sl.oneB,Sl.oneK,Sl.fewB,Sl.fx,Sl.eW] using hh
  ·have p5:l=[]:=by
    rcases p4 with h|h
    ·omega
    ·simpa using h
   have w0:n=[]:=p0
   have w1:v=[]:=p1
   have w2:a=0:=p2
   have w3:b=0:=p3
   subst w0 w1 w2 w3 p5;have hh:=KA
   simpa[Sl.oneB,Sl.oneK,Sl.fewB,Sl.fx,Sl.eW] using hh
  ·have w0:n=[]:=p0
   have w1:v=[]:=p1
   have w2:a=0:=p2
   have w3:b=0:=p3
   subst w0 w1 w2 w3;have e1:Sl.oneB (.mk 11 [] [] 0 0 l)=(l.length==1&&Sl.j8 l):=by simp[Sl.oneB,Sl.oneK]
   rw[e1]
   match l,hl,ih with
   | [],_,_=>exact x8 _ (by simp)
   | [y],_,ih =>
    obtain⟨k2,n2,v2,a2,b2,l2⟩:=y;have e2:([(Sim.mk k2 n2 v2 a2 b2 l2)].length==1&&Sl.j8 [.mk k2 n2 v2 a2 b2 l2])=(k2 != 11&&Sl.oneB (.mk k2 n2 v2 a2 b2 l2)):=by
     show (Sl.j8 [.mk k2 n2 v2 a2 b2 l2])=_
     rw[Sl.j8,Sl.j8,Bool.and_true];rfl
    rw[e2];have h0:=ih (.mk k2 n2 v2 a2 b2 l2) (by simp)
    simp only[List.map_cons,List.map_nil,Sim.enc_mk] at h0 ⊢;exact F0 k2 n2 v2 a2 b2 (l2.map Sim.enc) _ h0
   | y::z::m,_,_ =>
    have e2:((y::z::m).length==1&&Sl.j8 (y::z::m))=false:=by simp
    rw[e2];exact x8 _ (by simp)
attribute [local go_sem] dh dL ae yz BI c6 cB bG dl jF aP iZ En jI fV fH eM Gu fk aL bX fj i7 gS pA gK KG JZ
def gB:Bool→List Sim→Bool
 | _,[]=>true
 | first,x::r=>Sl.oneB x&&((first||decide (3≤x.kind))&&gB false r)
theorem oD:∀ l:List Sim,gB false l=(l.all Sl.oneB&&l.all fun x=>decide (3≤x.kind))
 | []=>rfl
 | x::r=>by
  rw[gB,oD r,List.all_cons,List.all_cons,Bool.false_or];cases Sl.oneB x<;>cases decide (3≤x.kind)<;>cases r.all Sl.oneB<;>rfl
theorem zt (l:List Sim):gB true l=(l.all Sl.oneB&&l.tail.all fun x=>decide (3≤x.kind)):=by
 cases l with
 | nil=>rfl
 | cons x r =>
  rw[gB,oD r,List.all_cons,List.tail_cons,Bool.true_or,Bool.true_and];cases Sl.oneB x<;>cases r.all Sl.oneB<;>rfl
theorem D2 {x:Sim} (h:Sl.oneB x=true):1≤x.kind∧x.kind≤11:=by
 obtain⟨k,n,v,a,b,l⟩:=x
 show 1≤k∧k≤11
 rw[Sl.oneB,Bool.and_eq_true] at h;have h1:=h.1
 unfold Sl.oneK at h1;by_cases hk:1≤k∧k≤11
 ·exact hk
 ·rw[if_neg (by omega),if_neg (by omega),if_neg (by omega),if_neg (by omega),if_neg (by omega),if_neg (by omega),if_neg (by omega),if_neg (by omega)] at h1
  cases h1
abbrev cpmH (l:List Sim) (last:Bool) (i:Nat):St :=
  { sl:=upd (upd (upd (upd (upd bot 9 (I i)) 8 (I l.length)) 7 (L (l.map Sim.enc))) 1 (B last)) 0 (L (l.map Sim.enc)),bx:=nobox,nt:=43 }
noncomputable def cpmlp:Code:=.loop (ap Tryz.f105 2)
theorem GS (l:List Sim) (i:Nat) (k:Int) (n v:List UInt8) (a b:Int) (l2:List Sim) (h:l[i]? = some (.mk k n v a b l2)):(l.map Sim.enc)[(i:Int).toNat]? = some [.int .i64 k,.str n,.str v,.int .i64 a,.int .i64 b,.sl (l2.map Sim.enc)]:=by
 rw[Int.toNat_natCast,List.getElem?_map,h,Option.map_some,Sim.enc_mk]
theorem GX (l:List Sim) (last:Bool) (i:Nat) (hl:l.length≤100000000) (x:Sim) (hi:l[i]? = some x) (hx:Sl.Sb 100000000 x) (h1:Sl.oneB x=true) (h2:i=0∨3≤x.kind) :
  exL K 105 cpmlp (cpmH l last i)=exL K 105 cpmlp (cpmH l last (i+1)):=by
 have hil:i<l.length:=(List.getElem?_eq_some_iff.1 hi).1
 have hlt:decide ((i:Int)<(l.length:Int))=true:=decide_eq_true (by omega)
 have hm:=yA hx
 rw[h1] at hm;have hws:IntKind.i64.wrap ((i:Int)+1)=((i+1:Nat):Int):=bf i (by omega)
 obtain⟨k,n,v,a,b,l2⟩:=x;have hget:=GS l i k n v a b l2 hi
 rw[Sim.enc_mk] at hm;simp only[List.map_cons,List.map_nil] at hm;have h2:i=0∨3≤k:=h2
 unfold cpmlp
 conv in ap _ _=>whnf
 conv in ap _ _=>whnf
 conv in exL _ _ _ (cpmH l last i)=>rw[aq]
 by_cases h0:i=0
 ·have e0:decide ((0:Int)<(i:Int))=false:=decide_eq_false (by omega)
  simp only[go_sem,reduceLT,reduceCtorEq,reduceEqDiff,Nat.reduceBEq,reduceAdd,ag aa,hlt,hget,Int.natCast_nonneg,hm,hws,e0];rw[au];simp only[go_sem,reduceCtorEq,reduceEqDiff]
 ·have e0:decide ((0:Int)<(i:Int))=true:=decide_eq_true (by omega)
  have e1:(k==1)=false:=by rw[beq_eq_false_iff_ne];omega
  have e2:(k==2)=false:=by rw[beq_eq_false_iff_ne];omega
  simp only[go_sem,reduceLT,reduceCtorEq,reduceEqDiff,Nat.reduceBEq,reduceAdd,ag aa,hlt,hget,Int.natCast_nonneg,hm,hws,e0,e1,e2];rw[au];simp only[go_sem,reduceCtorEq,reduceEqDiff]
theorem Lo (l:List Sim) (last:Bool) (i:Nat) (hl:l.length≤100000000) (x:Sim) (hi:l[i]? = some x) (hx:Sl.Sb 100000000 x) (h1:Sl.oneB x=false∨(0<i∧x.kind<3)) :
  Ends (exL K 105 cpmlp (cpmH l last i)) fun o S=>o=.ret∧S.sl 4=B false:=by
 have hil:i<l.length:=(List.getElem?_eq_some_iff.1 hi).1
 have hlt:decide ((i:Int)<(l.length:Int))=true:=decide_eq_true (by omega)
 have hm:=yA hx
 have hkd:=fun h=>D2 (x:=x) h
 generalize hb:Sl.oneB x=bx at hm h1 hkd;obtain⟨k,n,v,a,b,l2⟩:=x;have hget:=GS l i k n v a b l2 hi
 rw[Sim.enc_mk] at hm;simp only[List.map_cons,List.map_nil] at hm;unfold cpmlp
 conv in ap _ _=>whnf
 rw[aq];cases bx with
 | false=>simp only[go_sem,reduceLT,reduceCtorEq,reduceEqDiff,Nat.reduceBEq,reduceAdd,ag aa,hlt,hget,Int.natCast_nonneg,hm,ar]
 | true =>
  have h3:0<i∧k<3:=by
   rcases h1 with h|h
   ·cases h
   ·exact h
  have h4:1≤k∧k≤11:=hkd rfl
  have e0:decide ((0:Int)<(i:Int))=true:=decide_eq_true (by omega)
  have hk:k=1∨k=2:=by omega
  rcases hk with rfl|rfl
  ·simp only[go_sem,reduceLT,reduceCtorEq,reduceEqDiff,Nat.reduceBEq,reduceAdd,ag aa,hlt,hget,Int.natCast_nonneg,hm,e0,ar]
  ·simp only[go_sem,reduceLT,reduceCtorEq,reduceEqDiff,Nat.reduceBEq,reduceAdd,ag aa,hlt,hget,Int.natCast_nonneg,hm,e0,Int.reduceBEq,ar]
theorem zA (l:List Sim) (last:Bool) (hl:l.length≤100000000) (hok:∀ x∈l,Sl.Sb 100000000 x):∀ (rest:List Sim) (i:Nat),l.drop i=rest→i≤l.length →
  Ends (exL K 105 cpmlp (cpmH l last i)) fun o S=>if gB (i==0) rest=true then(o=.exit 0∧S.nt=43∧S.sl 0=L (l.map Sim.enc)∧S.sl 1=B last) else(o=.ret∧S.sl 4=B false)
 | [],i,hd,hi=>by
  have hin:i=l.length:=by
   have:=List.drop_eq_nil_iff.1 hd
   omega
  subst hin;have hlt:decide ((l.length:Int)<(l.length:Int))=false:=decide_eq_false (by omega)
  rw[gB];simp only[if_true];unfold cpmlp
  conv in ap _ _=>whnf
  rw[aq];simp only[go_sem,reduceLT,reduceCtorEq,reduceEqDiff,Nat.reduceBEq,ar]
 | x::rest,i,hd,hi=>by
  obtain⟨g1,g2,g3⟩:=bE hd;have hx:=hok x (List.mem_of_getElem? g1)
  have hi0:(i+1==0)=false:=rfl
  rw[gB];by_cases hg:Sl.oneB x=true∧(i=0∨3≤x.kind)
  ·rw[GX l last i hl x g1 hx hg.1 hg.2];have e:(Sl.oneB x&&((i==0||decide (3≤x.kind))&&gB false rest))=gB (i+1==0) rest:=by
    rw[hg.1,hi0,Bool.true_and];have:(i==0||decide (3≤x.kind))=true:=by simpa using hg.2
    rw[this,Bool.true_and]
   rw[e];exact zA l last hl hok rest (i+1) g2 (by omega)
  ·have e:(Sl.oneB x&&((i==0||decide (3≤x.kind))&&gB false rest))=false:=by
    cases h1:Sl.oneB x with
    | false=>rfl
    | true =>
     have h2:(i==0||decide (3≤x.kind))=false:=by
      rw[Bool.or_eq_false_iff,beq_eq_false_iff_ne,decide_eq_false_iff_not];exact⟨fun h=>hg ⟨h1,.inl h⟩,fun h=>hg ⟨h1,.inr h⟩⟩
     rw[h2];rfl
   rw[e];simp only[Bool.false_eq_true,if_false];refine Lo l last i hl x g1 hx ?_
   cases h1:Sl.oneB x with
   | false=>exact .inl rfl
   | true =>
    right
    have h2:¬ (i=0∨3≤x.kind):=fun h=>hg ⟨h1,h⟩
    omega
theorem D6 (l:List Sim) (last:Bool) (hl:l.length≤100000000) (hok:∀ x∈l,Sl.Sb 100000000 x) :
  den K 105 [L (l.map Sim.enc),B last] []=some (.ret (B (gB true l&&(decide (l.length≤8)&&(!l.isEmpty||last)))) []):=by
 have hr:Tryz.f105.results=#[.tmp 4]:=rfl
 have h:=zA l last hl hok l 0 rfl (Nat.zero_le _)
 unfold cpmlp at h
 conv at h in ap _ _=>whnf
 obtain⟨o,S,w,hq⟩:=h;have z0:((0:Nat):Int)=0:=rfl
 simp only[cpmH,z0] at w
 have hq:if gB true l=true then(o=.exit 0∧S.nt=43∧S.sl 0=L (l.map Sim.enc)∧S.sl 1=B last) else(o=.ret∧S.sl 4=B false):=hq
 cases hg:gB true l with
 | false =>
  rw[hg,if_neg (by simp)] at hq
  obtain⟨rfl,q1⟩:=hq;rw[Bool.false_and];refine ah rfl rfl Tryz.func105 rfl Tryz.ntmps105 ⟨by simp,by simp[LK]⟩ ?_
  simp only[go_sem,reduceLT,reduceCtorEq,reduceEqDiff,Nat.reduceBEq,reduceAdd,af aa,List.length_map];rw[au];simp only[go_sem,reduceCtorEq,reduceEqDiff];erw [w];simp only[go_sem,hr,q1]
 | true =>
  rw[hg,if_pos rfl] at hq;obtain⟨rfl,q1,q2,q3⟩:=hq;rw[Bool.true_and];cases h8:decide (l.length≤8) with
  | false =>
   have e8:decide ((l.length:Int)≤8)=false:=decide_eq_false (by have:=of_decide_eq_false h8;omega)
   refine ah rfl rfl Tryz.func105 rfl Tryz.ntmps105 ⟨by simp,by simp[LK]⟩ ?_
   simp only[go_sem,reduceLT,reduceCtorEq,reduceEqDiff,Nat.reduceBEq,reduceAdd,af aa,List.length_map];rw[au];simp only[go_sem,reduceCtorEq,reduceEqDiff];erw [w];simp only[go_sem,reduceLT,reduceEqDiff,Nat.reduceBEq,reduceAdd,af aa,hr,q1,q2,e8]
  | true =>
   have e8:decide ((l.length:Int)≤8)=true:=decide_eq_true (by have:=of_decide_eq_true h8;omega)
   cases l with
   | nil =>
    have d0:decide ((0:Int)<((0:Nat):Int))=false:=rfl
    simp only[List.map_nil,List.length_nil] at w q2 e8
    refine ah rfl rfl Tryz.func105 rfl Tryz.ntmps105 ⟨by simp,by simp[LK]⟩ ?_
    simp only[go_sem,reduceLT,reduceCtorEq,reduceEqDiff,Nat.reduceBEq,reduceAdd,af aa];rw[au];simp only[go_sem,reduceCtorEq,reduceEqDiff];erw [w];simp only[go_sem,reduceLT,reduceCtorEq,reduceEqDiff,Nat.reduceBEq,reduceAdd,af aa,hr,q1,q2,q3,e8,d0]
   | cons x r =>
    have d0:decide ((0:Int)<((r.length+1:Nat):Int))=true:=decide_eq_true (by omega)
    rw[List.length_cons] at e8
    refine ah rfl rfl Tryz.func105 rfl Tryz.ntmps105 ⟨by simp,by simp[LK]⟩ ?_
    simp only[go_sem,reduceLT,reduceCtorEq,reduceEqDiff,Nat.reduceBEq,reduceAdd,af aa,List.length_map];rw[au];simp only[go_sem,reduceCtorEq,reduceEqDiff];erw [w];simp only[go_sem,reduceLT,reduceCtorEq,reduceEqDiff,Nat.reduceBEq,reduceAdd,af aa,hr,q1,q2,e8,d0,List.length_map]
def ye (first more:Bool) (s:List UInt8) (p:Prt):Bool :=
 (decide (0≤p.comb)&&(decide (p.comb≤4)&&((p.comb==0)==first)))&&(gB true p.l&&(decide (p.l.length≤8)&&(!p.l.isEmpty||(!more && !s.isEmpty))))
theorem Bn (first:Bool) (p:Prt) (r:List Prt) (s:List UInt8):Sl.gx first (p::r) s=(ye first (!r.isEmpty) s p&&Sl.gx false r s):=by
 rw[Sl.gx,ye,Sl.qz,zt];cases decide (0≤p.comb)<;>cases decide (p.comb≤4)<;>cases ((p.comb==0)==first)<;>cases p.l.all Sl.oneB<;>cases (p.l.tail.all fun x=>decide (3≤x.kind))<;>cases decide (p.l.length≤8)<;>cases p.l.isEmpty<;>cases r.isEmpty<;>cases s.isEmpty<;>rfl
abbrev slmH (ps:List Prt) (s:List UInt8) (i:Nat):St :=
  { sl:=upd (upd (upd (upd (upd bot 13 (I i)) 12 (I ps.length)) 11 (L (encQ ps))) 3 (I ((ps.length:Int) - 1))) 1 (.c (.loc 1 0)),bx:=upd nobox 1 (some [.pv (.sl (encQ ps)),.pv (.str s)]),nt:=61 }
noncomputable def slmlp:Code:=.loop (ap Tryz.f55 3)
theorem Ju (ps:List Prt) (i:Nat) (p:Prt) (h:ps[i]? = some p):(encQ ps)[(i:Int).toNat]? = some [.int .i64 p.comb,.sl (p.l.map Sim.enc)]:=by
 rw[Int.toNat_natCast,List.getElem?_map,h];rfl
theorem JY (ps:List Prt) (s:List UInt8) (i:Nat) (hl:ps.length≤100000000) (p:Prt) (rest:List Prt) (hd:ps.drop i=p::rest) (hpl:p.l.length≤100000000) (hok:∀ x∈p.l,Sl.Sb 100000000 x) :
  if ye (i==0) (!rest.isEmpty) s p=true then exL K 55 slmlp (slmH ps s i)=exL K 55 slmlp (slmH ps s (i+1))
  else Ends (exL K 55 slmlp (slmH ps s i)) fun o S=>o=.ret∧S.sl 2=B false:=by
 obtain⟨g1,g2,g3⟩:=bE hd;have hlt:decide ((i:Int)<(ps.length:Int))=true:=decide_eq_true (by omega)
 have hws:IntKind.i64.wrap ((i:Int)+1)=((i+1:Nat):Int):=bf i (by omega)
 have hget:=Ju ps i p g1
 have elast:((i:Int)==(ps.length:Int) - 1)=rest.isEmpty:=by
  have hlen:rest.length=ps.length - (i+1):=by rw[←g2,List.length_drop]
  cases rest with
  | nil=>rw[List.length_nil] at hlen;rw[List.isEmpty_nil,beq_iff_eq];omega
  | cons x r=>rw[List.length_cons] at hlen;rw[List.isEmpty_cons,beq_eq_false_iff_ne];omega
 have ei:((i:Int)==0)=(i==0):=by rw[Bool.eq_iff_iff];simp
 have esn:(s==[])=s.isEmpty:=by cases s<;>rfl
 unfold ye;generalize hF:(i==0)=F at ei ⊢
 generalize hR:rest.isEmpty=R at elast ⊢
 generalize hS:s.isEmpty=Z at esn ⊢
 by_cases c1:0≤p.comb
 case neg =>
  have e1:decide (p.comb<0)=true:=decide_eq_true (by omega)
  rw[decide_eq_false c1,Bool.false_and,Bool.false_and,if_neg (by simp)]
  unfold slmlp
  conv in ap _ _=>whnf
  rw[aq];simp only[go_sem,reduceLT,reduceEqDiff,Nat.reduceBEq,reduceAdd,ag aw,hlt,hget,Int.natCast_nonneg,e1,ar]
 have e1:decide (p.comb<0)=false:=decide_eq_false (by omega)
 rw[decide_eq_true c1,Bool.true_and];by_cases c2:p.comb≤4
 case neg =>
  have e2:decide ((4:Int)<p.comb)=true:=decide_eq_true (by omega)
  rw[decide_eq_false c2,Bool.false_and,Bool.false_and,if_neg (by simp)]
  unfold slmlp
  conv in ap _ _=>whnf
  rw[aq];simp only[go_sem,reduceLT,reduceEqDiff,Nat.reduceBEq,reduceAdd,ag aw,hlt,hget,Int.natCast_nonneg,e1,e2,ar]
 have e2:decide ((4:Int)<p.comb)=false:=decide_eq_false (by omega)
 rw[decide_eq_true c2,Bool.true_and];cases c3:((p.comb==0)==F)
 ·rw[Bool.false_and,if_neg (by simp)]
  unfold slmlp
  conv in ap _ _=>whnf
  rw[aq];simp only[go_sem,reduceLT,reduceEqDiff,Nat.reduceBEq,reduceAdd,ag aw,hlt,hget,Int.natCast_nonneg,e1,e2,ei,c3,ar]
 rw[Bool.true_and];have fin:∀ Y:Bool,(!R && !Z)=Y→True:=fun _ _=>trivial
 have key:∀ flag:Bool,flag=(R && !Z)→if (gB true p.l&&(decide (p.l.length≤8)&&(!p.l.isEmpty||flag)))=true then exL K 55 slmlp (slmH ps s i)=exL K 55 slmlp (slmH ps s (i+1))
   else Ends (exL K 55 slmlp (slmH ps s i)) fun o S=>o=.ret∧S.sl 2=B false:=by
  intro flag hf;have hc:=D6 p.l flag hpl hok
  generalize (gB true p.l&&(decide (p.l.length≤8)&&(!p.l.isEmpty||flag)))=W at hc ⊢
  cases W with
  | false =>
   rw[if_neg (by simp)]
   unfold slmlp
   conv in ap _ _=>whnf
   rw[aq];cases R with
   | false =>
    have hf:flag=false:=hf
    subst hf;simp only[go_sem,reduceLT,reduceEqDiff,Nat.reduceBEq,reduceAdd,ag aw,hlt,hget,Int.natCast_nonneg,e1,e2,ei,c3,elast,hc,ar]
   | true =>
    have hf:flag = !Z:=hf
    subst hf;cases Z
    all_goals
     simp only[Bool.not_true,Bool.not_false] at hc;simp only[go_sem,reduceLT,reduceEqDiff,Nat.reduceBEq,reduceAdd,ag aw,hlt,hget,Int.natCast_nonneg,e1,e2,ei,c3,elast,esn,bne,hc,ar]
  | true =>
   rw[if_pos rfl];unfold slmlp
   conv in ap _ _=>whnf
   conv in ap _ _=>whnf
   conv in exL _ _ _ (slmH ps s i)=>rw[aq]
   cases R with
   | false =>
    have hf:flag=false:=hf
    subst hf;simp only[go_sem,reduceLT,reduceEqDiff,Nat.reduceBEq,reduceAdd,ag aw,hlt,hget,Int.natCast_nonneg,e1,e2,ei,c3,elast,hc,hws];rw[au];simp only[go_sem,reduceEqDiff]
   | true =>
    have hf:flag = !Z:=hf
    subst hf;cases Z
    all_goals
     simp only[Bool.not_true,Bool.not_false] at hc;simp only[go_sem,reduceLT,reduceEqDiff,Nat.reduceBEq,reduceAdd,ag aw,hlt,hget,Int.natCast_nonneg,e1,e2,ei,c3,elast,esn,bne,hc,hws];rw[au];simp only[go_sem,reduceEqDiff]
 have:=key (R && !Z) rfl
 rw[Bool.not_not];exact this
theorem z6 (ps:List Prt) (s:List UInt8) (hl:ps.length≤100000000) (hok:∀ p∈ps,p.l.length≤100000000∧∀ x∈p.l,Sl.Sb 100000000 x):∀ (rest:List Prt) (i:Nat),ps.drop i=rest→i≤ps.length →
  Ends (exL K 55 slmlp (slmH ps s i)) fun o S=>if Sl.gx (i==0) rest s=true then(o=.exit 0∧S.nt=61∧S.sl 1=.c (.loc 1 0)∧S.sl 3=I ((ps.length:Int) - 1)∧S.bx 1=some [.pv (.sl (encQ ps)),.pv (.str s)]) else(o=.ret∧S.sl 2=B false)
 | [],i,hd,hi=>by
  have hin:i=ps.length:=by
   have:=List.drop_eq_nil_iff.1 hd
   omega
  subst hin;have hlt:decide ((ps.length:Int)<(ps.length:Int))=false:=decide_eq_false (by omega)
  rw[Sl.gx];simp only[if_true];unfold slmlp
  conv in ap _ _=>whnf
  rw[aq];simp only[go_sem,reduceLT,reduceEqDiff,Nat.reduceBEq,ar]
 | p::rest,i,hd,hi=>by
  obtain⟨g1,g2,g3⟩:=bE hd;obtain⟨k1,k2⟩:=hok p (List.mem_of_getElem? g1)
  have h1:=JY ps s i hl p rest hd k1 k2
  have hi0:(i+1==0)=false:=rfl
  rw[Bn];cases hp:ye (i==0) (!rest.isEmpty) s p with
  | false =>
   rw[hp,if_neg (by simp)] at h1
   rw[Bool.false_and];simp only[Bool.false_eq_true,if_false];exact h1
  | true =>
   rw[hp,if_pos rfl] at h1;rw[h1,Bool.true_and,←hi0];exact z6 ps s hl hok rest (i+1) g2 (by omega)
theorem BR (s:List UInt8):den K 106 [L [[.str []],[.str [98,101,102,111,114,101]],[.str [97,102,116,101,114]]],T s] []=some (.ret (B (Sl.nc s)) []):=by
 have h:=jX [[],Sl.fg,Sl.fZ] s (by simp)
 have e:([[],Sl.fg,Sl.fZ].any (s == ·))=Sl.nc s:=by
  unfold Sl.nc;have:(s==[])=s.isEmpty:=by cases s<;>rfl
  simp only[List.any_cons,List.any_nil,Bool.or_false,this]
 rw[e] at h;exact h
theorem up (c:Cpx) (hl:c.parts.length≤100000000) (hok:∀ p∈c.parts,p.l.length≤100000000∧∀ x∈p.l,Sl.Sb 100000000 x) :
  den K 55 [.agg [.pv (.sl (encQ c.parts)),.pv (.str c.pseudo)]] []=some (.ret (B (Sl.cpxB c)) []):=by
 have hr:Tryz.f55.results=#[.tmp 2]:=rfl
 obtain⟨ps,s⟩:=c;have h:=z6 ps s hl hok ps 0 rfl (Nat.zero_le _)
 have hps:=BR s
 unfold slmlp at h
 conv at h in ap _ _=>whnf
 obtain⟨o,S,w,hq⟩:=h;have z0:((0:Nat):Int)=0:=rfl
 simp only[slmH,z0] at w
 have hq:if Sl.gx true ps s=true then(o=.exit 0∧S.nt=61∧S.sl 1=.c (.loc 1 0)∧S.sl 3=I ((ps.length:Int) - 1)∧S.bx 1=some [.pv (.sl (encQ ps)),.pv (.str s)]) else(o=.ret∧S.sl 2=B false):=hq
 have hw1:IntKind.i64.wrap ((ps.length:Int) - 1)=(ps.length:Int) - 1:=IntWalk.i64_in _ (by have hl':ps.length≤100000000:=hl;omega)
 unfold Sl.cpxB;simp only;cases hp:Sl.gx true ps s with
 | false =>
  rw[hp,if_neg (by simp)] at hq
  obtain⟨rfl,q1⟩:=hq;rw[Bool.false_and];refine ah rfl rfl Tryz.func55 rfl Tryz.ntmps55 ⟨by simp,by simp[LK]⟩ ?_
  simp only[go_sem,reduceLT,reduceEqDiff,Nat.reduceBEq,reduceAdd,reduceSub,reduceLeDiff,af aw,List.length_map,hw1];rw[au];simp only[go_sem,reduceEqDiff,reduceSub,reduceLeDiff];erw [w];simp only[go_sem,hr,q1]
 | true =>
  rw[hp,if_pos rfl] at hq;obtain⟨rfl,q1,q2,q3,q4⟩:=hq;rw[Bool.true_and];by_cases c1:1≤ps.length
  ·have e1:decide ((0:Int)≤(ps.length:Int) - 1)=true:=decide_eq_true (by omega)
   rw[decide_eq_true c1,Bool.true_and];by_cases c2:ps.length≤16
   ·have e2:decide ((ps.length:Int) - 1<16)=true:=decide_eq_true (by omega)
    rw[decide_eq_true c2,Bool.true_and];refine ah rfl rfl Tryz.func55 rfl Tryz.ntmps55 ⟨by simp,by simp[LK]⟩ ?_
    simp only[go_sem,reduceLT,reduceEqDiff,Nat.reduceBEq,reduceAdd,reduceSub,reduceLeDiff,af aw,List.length_map,hw1];rw[au];simp only[go_sem,reduceEqDiff,reduceSub,reduceLeDiff];erw [w];simp only[go_sem,reduceLT,reduceEqDiff,Nat.reduceBEq,reduceAdd,reduceLeDiff,reduceMul,ao (len:=3) aK aL aH ⟨rfl,by decide,by decide⟩,hr,q1,q2,q3,q4,e1,e2,hps]
   ·have e2:decide ((ps.length:Int) - 1<16)=false:=decide_eq_false (by omega)
    rw[decide_eq_false c2,Bool.false_and];refine ah rfl rfl Tryz.func55 rfl Tryz.ntmps55 ⟨by simp,by simp[LK]⟩ ?_
    simp only[go_sem,reduceLT,reduceEqDiff,Nat.reduceBEq,reduceAdd,reduceSub,reduceLeDiff,af aw,List.length_map,hw1];rw[au];simp only[go_sem,reduceEqDiff,reduceSub,reduceLeDiff];erw [w];simp only[go_sem,reduceLT,reduceEqDiff,Nat.reduceBEq,reduceAdd,hr,q1,q3,e1,e2]
  ·have e1:decide ((0:Int)≤(ps.length:Int) - 1)=false:=decide_eq_false (by omega)
   rw[decide_eq_false c1,Bool.false_and];refine ah rfl rfl Tryz.func55 rfl Tryz.ntmps55 ⟨by simp,by simp[LK]⟩ ?_
   simp only[go_sem,reduceLT,reduceEqDiff,Nat.reduceBEq,reduceAdd,reduceSub,reduceLeDiff,af aw,List.length_map,hw1];rw[au];simp only[go_sem,reduceEqDiff,reduceSub,reduceLeDiff];erw [w];simp only[go_sem,reduceLT,reduceEqDiff,Nat.reduceBEq,reduceAdd,hr,q1,q3,e1]
theorem EM (c:Cpx) (hl:c.parts.length≤100000000) (hok:∀ p∈c.parts,p.l.length≤100000000∧∀ x∈p.l,Sl.Sb 100000000 x) :
  den K 54 [.agg [.pv (.sl (encQ c.parts)),.pv (.str c.pseudo)]] []=some (.ret (B (!Sl.cpxB c)) []):=by
 have hr:Tryz.f54.results=#[.tmp 2]:=rfl
 have h:=up c hl hok
 refine ah rfl rfl Tryz.func54 rfl Tryz.ntmps54 ⟨by simp,by simp[LK]⟩ ?_
 simp only[go_sem,reduceLT,reduceEqDiff,Nat.reduceBEq,reduceAdd,reduceSub,reduceLeDiff,hr,h]
theorem JI {α:Type} (p:α→Bool) (l:List α):(l.any fun x => !p x) = !l.all p:=by
 induction l with
 | nil=>rfl
 | cons x l ih=>rw[List.any_cons,List.all_cons,ih];cases p x<;>rfl
theorem Hn (l:List Cpx) (hl:l.length≤1000000) (hok:∀ c∈l,c.parts.length≤100000000∧∀ p∈c.parts,p.l.length≤100000000∧∀ x∈p.l,Sl.Sb 100000000 x) :
  den K 23 [L (l.map Cpx.enc)] []=some (.ret (B (Sl.mayB l)) []):=by
 have hr:Tryz.f23.results=#[.tmp 2]:=rfl
 have hg:K.good 54=true:=by kernel_rfl
 have hc:=ul hg rfl .no l (by omega) (p:=fun c => !Sl.cpxB c) fun c hcm=>EM c (hok c hcm).1 (hok c hcm).2
 rw[JI] at hc;unfold Sl.mayB;have e1:decide ((0:Int)<(l.length:Int))=decide (1≤l.length):=by rw[decide_eq_decide];omega
 have e2:decide ((l.length:Int)≤32)=decide (l.length≤32):=by rw[decide_eq_decide];omega
 cases c1:decide (1≤l.length)
 ·rw[c1] at e1
  rw[Bool.false_and,Bool.and_false];refine ah rfl rfl Tryz.func23 rfl Tryz.ntmps23 ⟨by simp,by simp[LK]⟩ ?_
  simp only[go_sem,reduceLT,reduceCtorEq,reduceEqDiff,Nat.reduceBEq,reduceAdd,af aQ,hr,List.length_map,e1]
 rw[c1] at e1
 cases c2:decide (l.length≤32)
 ·rw[c2] at e2
  rw[Bool.and_false,Bool.and_false];refine ah rfl rfl Tryz.func23 rfl Tryz.ntmps23 ⟨by simp,by simp[LK]⟩ ?_
  simp only[go_sem,reduceLT,reduceCtorEq,reduceEqDiff,Nat.reduceBEq,reduceAdd,af aQ,hr,List.length_map,e1,e2]
 rw[c2] at e2
 rw[Bool.and_self,Bool.and_true];refine ah rfl rfl Tryz.func23 rfl Tryz.ntmps23 ⟨by simp,by simp[LK]⟩ ?_
 simp only[go_sem,reduceLT,reduceCtorEq,reduceEqDiff,Nat.reduceBEq,reduceAdd,af aQ,hr,List.length_map,e1,e2,hc,Bool.not_not,hZ]
end Go.Abs
