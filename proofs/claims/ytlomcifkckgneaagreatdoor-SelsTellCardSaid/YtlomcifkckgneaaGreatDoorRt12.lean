/-
  WHAT THE FUNCTIONS COMPUTE, layer 4, the document's reader of selectors: what stands behind a sign :, and a simple selector, whole.
-/
import Derived.Test.YtlomcifkckgneaaGreatDoorRt11
set_option maxHeartbeats 8000000
open Nat (reduceEqDiff reduceAdd reduceLT reduceLeDiff reduceSub)
set_option linter.unusedSimpArgs false
set_option linter.unusedVariables false
namespace Go.Abs
open Go Go.Proofs
set_option maxRecDepth 10000
attribute [local go_sem] c7 bF cD bW bZ db cJ cE a7 ck ce cF c8 bS opd avOf cvOf St.degAt St.put okPV d6 okAV du dv dt cU aM if_true Bool.false_eq_true if_false Option.map_some Option.map_none Option.bind_some Option.bind_none dY dV upd List.toList_toArray cR steal bz mvB dE cV cT AV.deg CV.deg AV.gv AV.isIter cN cI bU List.length_nil List.length_cons List.filterMap_cons List.filterMap_nil beq_iff_eq List.getElem?_cons_zero List.getElem?_cons_succ Option.getD_some d8 eV Bool.false_and Bool.and_false Bool.and_self K_P fq co cO bw lend back idx dedup AV.ren CV.ren TV.ren AV.ptrs CV.ptrs cX AV.flat CV.flat cz cg bc c9 dk eo cj aY cm bt bH cf br eF CV.pv? content bA ownT bd reps pvs chunks cd leave eB cK dr bT bv TV.deg TV.av LK CV.plain CV.noBld c5 eA bound List.map_cons List.map_nil List.all_cons List.all_nil List.any_cons List.any_nil List.contains_cons List.contains_nil List.elem_cons List.elem_nil List.cons_append List.nil_append List.append_nil List.flatMap_cons List.flatMap_nil List.zip_cons_cons List.zip_nil_left List.zip_nil_right List.take_succ_cons List.take_zero List.take_nil List.drop_succ_cons List.drop_zero List.drop_nil List.isEmpty_nil List.isEmpty_cons Bool.and_true Bool.true_and Bool.or_true Bool.true_or Bool.or_false Bool.false_or Bool.not_true Bool.not_false Nat.add_zero Nat.zero_add Option.isNone_none Option.isNone_some Option.getD_none true_and and_true not_true_eq_false not_false_eq_true decide_true decide_false Nat.le_refl and_self Bool.not_eq_true Nat.sub_self or_true true_or Option.some.injEq List.length_map List.nil_eq and_false false_and AV.live CV.live CV.liveIn dU bg Option.orElse_some Option.orElse_none head bm bh Int.lt_irrefl List.length_append ite_self dZ cA dc bC Key.clash Key.sees Key.writes Nat.lt_irrefl gt_iff_lt cH dH false_or or_false beq_self_eq_true Bool.true_beq Bool.false_beq dL ae yK aF bq dh dp cB bG cu aZ dz aL bX eK dP ff wY IU wM gu jQ ju
theorem DP (g : List Val → Option (Sim × List Val)) (c r : List Val) : (match g (Sl.trim c) with
       | some (x,[])=>if x.kind=11 then none else some (Sim.mk 11 [] [] 0 0 [x],r)
       | _=>none)=(notG g c).map fun x=>(x,r):=by
  unfold notG;generalize g (Sl.trim c)=y
  match y with
  | none=>rfl
  | some (x,[]) =>
    simp only;split<;>rfl
  | some (x,_::_)=>rfl
theorem C9 (g:List Val→Option (Sim×List Val)) {l c r:List Val} {t:Tok} (h:Sl.eP 5 l=some ((t,c),r)) :
  Sl.colon g l=if t.text=Sl.nthT then(Sl.nthM c).map fun x=>(Sim.mk 8 [] [] x.1 x.2 [],r) else if t.text=Sl.notT then(notG g c).map fun x=>(x,r) else none:=by
 unfold Sl.colon;rw[h];simp only;split
 ·rfl
 ·split
  ·exact DP g c r
  ·rfl
theorem Cj (g:List Val→Option (Sim×List Val)) {l:List Val} (h:Sl.eP 5 l=none) :
  Sl.colon g l=match Sl.name l with
  | some (s,r)=>(Sl.gL s).map fun x=>(x,r)
  | none=>none:=by
 unfold Sl.colon;rw[h];rfl
theorem pp (k:Int) (t:Tok) (c:List Val):jl k t c=[.pv (.int .i64 k),.pv (.int .i64 t.kind),.pv (.str t.text),.pv (.int .i64 t.n),.pv (.sl (encL c))]:=rfl
theorem Ec (g:List Val→Option (Sim×List Val)) (l:List Val) (i:Nat) (hl:l.length≤100000000) (hsz:Ne.size l≤100000000) (hg:∀ t c,Val.mk 5 t c∈l.drop i→pV g c) (t:Tok) (c r:List Val)
  (hv:Sl.eP 5 (l.drop i)=some ((t,c),r)):kY g l i:=by
 have hr:Tryz.f143.results=#[.cell 2 52]:=rfl
 obtain⟨va,vd,vm⟩:=pU l i false 5 hl t c r hv;have hi:i<l.length:=(List.getElem?_eq_some_iff.1 vm).1
 simp only[rb0,pp] at va
 unfold kY;rw[C9 g hv];unfold SRes;by_cases h1:t.text=Sl.nthT
 ·have hc:c.length≤100000000:=Nat.le_trans (Nat.le_trans (Ne.bM c) (Nat.le_of_lt (ov vm))) hsz
  have hn:=zC c hc
  have e1:(t.text==[110,116,104,45,99,104,105,108,100])=true:=by rw[h1];rfl
  have e2:(t.text==[110,111,116])=false:=by rw[h1];rfl
  rw[if_pos h1];cases hm:Sl.nthM c with
  | none =>
   rw[hm] at hn;unfold nthA at hn;simp only at hn;refine⟨.mk 8 [] [] 0 0 [],i+1,?_⟩
   simp only[rb0,aU];refine ah rfl rfl Tryz.func143 rfl Tryz.ntmps143 ⟨by simp,by simp[LK]⟩ ?_
   simp only[go_sem,reduceLT,reduceCtorEq,reduceEqDiff,Nat.reduceBEq,reduceAdd,reduceSub,reduceLeDiff,ab ae aj,hr,va,hn,e1,e2,TV.flat,Int.reduceBEq]
  | some x =>
   obtain⟨a,b⟩:=x;rw[hm] at hn;unfold nthA at hn;simp only at hn;refine⟨i+1,vd,by omega,by omega,?_⟩
   simp only[rb0,aU];refine ah rfl rfl Tryz.func143 rfl Tryz.ntmps143 ⟨by simp,by simp[LK]⟩ ?_
   simp only[go_sem,reduceLT,reduceCtorEq,reduceEqDiff,Nat.reduceBEq,reduceAdd,reduceSub,reduceLeDiff,ab ae aj,hr,va,hn,e1,e2,TV.flat,Int.reduceBEq]
 ·have e1:(t.text==[110,116,104,45,99,104,105,108,100])=false:=by rw[beq_eq_false_iff_ne];exact h1
  rw[if_neg h1];by_cases h2:t.text=Sl.notT
  ·have e2:(t.text==[110,111,116])=true:=by rw[h2];rfl
   rw[if_pos h2];obtain⟨y,ok,hn,hy⟩:=hg t c (by rw[Sl.lF hv];simp)
   cases hm:notG g c with
   | none =>
    rw[hm] at hy;simp only at hy;subst hy;refine⟨y,i+1,?_⟩
    obtain⟨k,n,v,a,b,yl⟩:=y;cases yl
    all_goals
     simp only[rb0,aU,dm] at hn ⊢;refine ah rfl rfl Tryz.func143 rfl Tryz.ntmps143 ⟨by simp,by simp[LK]⟩ ?_
     simp only[go_sem,reduceLT,reduceCtorEq,reduceEqDiff,Nat.reduceBEq,reduceAdd,reduceSub,reduceLeDiff,ab ae aj,hr,va,hn,e1,e2,TV.flat,Int.reduceBEq]
   | some x =>
    rw[hm] at hy;simp only at hy;obtain⟨rfl,rfl⟩:=hy;refine⟨i+1,vd,by omega,by omega,?_⟩
    obtain⟨k,n,v,a,b,yl⟩:=y;cases yl
    all_goals
     simp only[rb0,aU,dm] at hn ⊢;refine ah rfl rfl Tryz.func143 rfl Tryz.ntmps143 ⟨by simp,by simp[LK]⟩ ?_
     simp only[go_sem,reduceLT,reduceCtorEq,reduceEqDiff,Nat.reduceBEq,reduceAdd,reduceSub,reduceLeDiff,ab ae aj,hr,va,hn,e1,e2,TV.flat,Int.reduceBEq]
  ·have e2:(t.text==[110,111,116])=false:=by rw[beq_eq_false_iff_ne];exact h2
   rw[if_neg h2];refine⟨.mk 0 [] [] 0 0 [],i+1,?_⟩
   simp only[rb0,aU];refine ah rfl rfl Tryz.func143 rfl Tryz.ntmps143 ⟨by simp,by simp[LK]⟩ ?_
   simp only[go_sem,reduceLT,reduceCtorEq,reduceEqDiff,Nat.reduceBEq,reduceAdd,reduceSub,reduceLeDiff,ab ae aj,hr,va,e1,e2,Int.reduceBEq]
theorem BF (g:List Val→Option (Sim×List Val)) (l:List Val) (i:Nat) (hl:l.length≤100000000) (hv:Sl.eP 5 (l.drop i)=none):kY g l i:=by
 have hr:Tryz.f143.results=#[.cell 2 52]:=rfl
 have va:=zD l i false 5 hl hv
 have z05:((0:Int)==5)=false:=rfl
 have z00:((0:Int)==0)=true:=rfl
 simp only[rb0] at va
 unfold kY;rw[Cj g hv];unfold SRes;cases hn:Sl.name (l.drop i) with
 | none =>
  have nm:=sJ l i false hl hn
  simp only[rb0] at nm
  refine⟨.mk 0 [] [] 0 0 [],i,?_⟩
  simp only[rb0,aU];refine ah rfl rfl Tryz.func143 rfl Tryz.ntmps143 ⟨by simp,by simp[LK]⟩ ?_
  simp only[go_sem,reduceLT,reduceCtorEq,reduceEqDiff,Nat.reduceBEq,reduceAdd,reduceSub,reduceLeDiff,ab ae aj,hr,va,z05,z00,nm]
 | some y =>
  obtain⟨s,r⟩:=y;obtain⟨nm,nd,ni⟩:=nw l i false hl s r hn;simp only[rb0] at nm
  have key:∀ x,Sl.gL s=some x→den K 143 [P0] [rb0 l i false]=some (.ret (.agg (eL x)) [rb0 l (i+1) false]):=by
   intro x hx;unfold Sl.gL at hx;by_cases h0:s=Sl.mM
   ·subst h0;have hx:some (Sim.mk 7 Sl.mM [] 0 0 [])=some x:=hx
    cases hx
    simp only[rb0,aU];simp only[Sl.mM] at nm ⊢
    have q0:(([104,111,118,101,114]:List UInt8)==[104,111,118,101,114])=true:=rfl
    refine ah rfl rfl Tryz.func143 rfl Tryz.ntmps143 ⟨by simp,by simp[LK]⟩ ?_
    simp only[go_sem,reduceLT,reduceCtorEq,reduceEqDiff,Nat.reduceBEq,reduceAdd,reduceSub,reduceLeDiff,ab ae aj,hr,va,z05,z00,nm,q0]
   ·have e0:(s==[104,111,118,101,114])=false:=by rw[beq_eq_false_iff_ne];exact h0
    by_cases h1:s=Sl.mW
    ·subst h1;have hx:some (Sim.mk 7 Sl.mW [] 0 0 [])=some x:=hx
     cases hx
     simp only[rb0,aU];simp only[Sl.mW] at nm ⊢
     have q0:(([102,111,99,117,115]:List UInt8)==[104,111,118,101,114])=false:=rfl
     have q1:(([102,111,99,117,115]:List UInt8)==[102,111,99,117,115])=true:=rfl
     refine ah rfl rfl Tryz.func143 rfl Tryz.ntmps143 ⟨by simp,by simp[LK]⟩ ?_
     simp only[go_sem,reduceLT,reduceCtorEq,reduceEqDiff,Nat.reduceBEq,reduceAdd,reduceSub,reduceLeDiff,ab ae aj,hr,va,z05,z00,nm,q0,q1]
    ·have e1:(s==[102,111,99,117,115])=false:=by rw[beq_eq_false_iff_ne];exact h1
     by_cases h2:s=Sl.kJ
     ·subst h2;have hx:some (Sim.mk 7 Sl.kJ [] 0 0 [])=some x:=hx
      cases hx
      simp only[rb0,aU];simp only[Sl.kJ] at nm ⊢
      have q0:(([97,99,116,105,118,101]:List UInt8)==[104,111,118,101,114])=false:=rfl
      have q1:(([97,99,116,105,118,101]:List UInt8)==[102,111,99,117,115])=false:=rfl
      have q2:(([97,99,116,105,118,101]:List UInt8)==[97,99,116,105,118,101])=true:=rfl
      refine ah rfl rfl Tryz.func143 rfl Tryz.ntmps143 ⟨by simp,by simp[LK]⟩ ?_
      simp only[go_sem,reduceLT,reduceCtorEq,reduceEqDiff,Nat.reduceBEq,reduceAdd,reduceSub,reduceLeDiff,ab ae aj,hr,va,z05,z00,nm,q0,q1,q2]
     ·have e2:(s==[97,99,116,105,118,101])=false:=by rw[beq_eq_false_iff_ne];exact h2
      by_cases h3:s=Sl.jn
      ·subst h3;have hx:some (Sim.mk 7 Sl.jn [] 0 0 [])=some x:=hx
       cases hx
       simp only[rb0,aU];simp only[Sl.jn] at nm ⊢
       have q0:(([99,104,101,99,107,101,100]:List UInt8)==[104,111,118,101,114])=false:=rfl
       have q1:(([99,104,101,99,107,101,100]:List UInt8)==[102,111,99,117,115])=false:=rfl
       have q2:(([99,104,101,99,107,101,100]:List UInt8)==[97,99,116,105,118,101])=false:=rfl
       have q3:(([99,104,101,99,107,101,100]:List UInt8)==[99,104,101,99,107,101,100])=true:=rfl
       refine ah rfl rfl Tryz.func143 rfl Tryz.ntmps143 ⟨by simp,by simp[LK]⟩ ?_
       simp only[go_sem,reduceLT,reduceCtorEq,reduceEqDiff,Nat.reduceBEq,reduceAdd,reduceSub,reduceLeDiff,ab ae aj,hr,va,z05,z00,nm,q0,q1,q2,q3]
      ·have e3:(s==[99,104,101,99,107,101,100])=false:=by rw[beq_eq_false_iff_ne];exact h3
       by_cases h4:s=Sl.zR
       ·subst h4;have hx:some (Sim.mk 9 [] [] 0 0 [])=some x:=hx
        cases hx
        simp only[rb0,aU];simp only[Sl.zR] at nm ⊢
        have q0:(([114,111,111,116]:List UInt8)==[104,111,118,101,114])=false:=rfl
        have q1:(([114,111,111,116]:List UInt8)==[102,111,99,117,115])=false:=rfl
        have q2:(([114,111,111,116]:List UInt8)==[97,99,116,105,118,101])=false:=rfl
        have q3:(([114,111,111,116]:List UInt8)==[99,104,101,99,107,101,100])=false:=rfl
        have q4:(([114,111,111,116]:List UInt8)==[114,111,111,116])=true:=rfl
        refine ah rfl rfl Tryz.func143 rfl Tryz.ntmps143 ⟨by simp,by simp[LK]⟩ ?_
        simp only[go_sem,reduceLT,reduceCtorEq,reduceEqDiff,Nat.reduceBEq,reduceAdd,reduceSub,reduceLeDiff,ab ae aj,hr,va,z05,z00,nm,q0,q1,q2,q3,q4]
       ·have e4:(s==[114,111,111,116])=false:=by rw[beq_eq_false_iff_ne];exact h4
        by_cases h5:s=Sl.ta
        ·subst h5;have hx:some (Sim.mk 10 [] [] 0 0 [])=some x:=hx
         cases hx
         simp only[rb0,aU];simp only[Sl.ta] at nm ⊢
         have q0:(([101,109,112,116,121]:List UInt8)==[104,111,118,101,114])=false:=rfl
         have q1:(([101,109,112,116,121]:List UInt8)==[102,111,99,117,115])=false:=rfl
         have q2:(([101,109,112,116,121]:List UInt8)==[97,99,116,105,118,101])=false:=rfl
         have q3:(([101,109,112,116,121]:List UInt8)==[99,104,101,99,107,101,100])=false:=rfl
         have q4:(([101,109,112,116,121]:List UInt8)==[114,111,111,116])=false:=rfl
         have q5:(([101,109,112,116,121]:List UInt8)==[101,109,112,116,121])=true:=rfl
         refine ah rfl rfl Tryz.func143 rfl Tryz.ntmps143 ⟨by simp,by simp[LK]⟩ ?_
         simp only[go_sem,reduceLT,reduceCtorEq,reduceEqDiff,Nat.reduceBEq,reduceAdd,reduceSub,reduceLeDiff,ab ae aj,hr,va,z05,z00,nm,q0,q1,q2,q3,q4,q5]
        ·have e5:(s==[101,109,112,116,121])=false:=by rw[beq_eq_false_iff_ne];exact h5
         by_cases h6:s=Sl.tP
         ·subst h6;have hx:some (Sim.mk 8 [] [] 0 1 [])=some x:=hx
          cases hx
          simp only[rb0,aU];simp only[Sl.tP] at nm ⊢
          have q0:(([102,105,114,115,116,45,99,104,105,108,100]:List UInt8)==[104,111,118,101,114])=false:=rfl
          have q1:(([102,105,114,115,116,45,99,104,105,108,100]:List UInt8)==[102,111,99,117,115])=false:=rfl
          have q2:(([102,105,114,115,116,45,99,104,105,108,100]:List UInt8)==[97,99,116,105,118,101])=false:=rfl
          have q3:(([102,105,114,115,116,45,99,104,105,108,100]:List UInt8)==[99,104,101,99,107,101,100])=false:=rfl
          have q4:(([102,105,114,115,116,45,99,104,105,108,100]:List UInt8)==[114,111,111,116])=false:=rfl
          have q5:(([102,105,114,115,116,45,99,104,105,108,100]:List UInt8)==[101,109,112,116,121])=false:=rfl
          have q6:(([102,105,114,115,116,45,99,104,105,108,100]:List UInt8)==[102,105,114,115,116,45,99,104,105,108,100])=true:=rfl
          refine ah rfl rfl Tryz.func143 rfl Tryz.ntmps143 ⟨by simp,by simp[LK]⟩ ?_
          simp only[go_sem,reduceLT,reduceCtorEq,reduceEqDiff,Nat.reduceBEq,reduceAdd,reduceSub,reduceLeDiff,ab ae aj,hr,va,z05,z00,nm,q0,q1,q2,q3,q4,q5,q6]
         ·have e6:(s==[102,105,114,115,116,45,99,104,105,108,100])=false:=by rw[beq_eq_false_iff_ne];exact h6
          rw[if_neg (show ¬ Sl.eW s by rintro (h|h|h|h)<;>contradiction),if_neg h4,if_neg h5,if_neg h6] at hx
          cases hx
  simp only;cases hx:Sl.gL s with
  | some x=>exact⟨i+1,nd,by omega,by omega,key x hx⟩
  | none =>
   unfold Sl.gL at hx;split at hx
   ·cases hx
   split at hx
   ·cases hx
   split at hx
   ·cases hx
   split at hx
   ·cases hx
   rename_i h0 h4 h5 h6;refine⟨.mk 0 [] [] 0 0 [],i+1,?_⟩
   simp only[rb0,aU];have e0:(s==[104,111,118,101,114])=false:=by rw[beq_eq_false_iff_ne];exact fun h=>h0 (.inl h)
   have e1:(s==[102,111,99,117,115])=false:=by rw[beq_eq_false_iff_ne];exact fun h=>h0 (.inr (.inl h))
   have e2:(s==[97,99,116,105,118,101])=false:=by rw[beq_eq_false_iff_ne];exact fun h=>h0 (.inr (.inr (.inl h)))
   have e3:(s==[99,104,101,99,107,101,100])=false:=by rw[beq_eq_false_iff_ne];exact fun h=>h0 (.inr (.inr (.inr h)))
   have e4:(s==[114,111,111,116])=false:=by rw[beq_eq_false_iff_ne];exact h4
   have e5:(s==[101,109,112,116,121])=false:=by rw[beq_eq_false_iff_ne];exact h5
   have e6:(s==[102,105,114,115,116,45,99,104,105,108,100])=false:=by rw[beq_eq_false_iff_ne];exact h6
   refine ah rfl rfl Tryz.func143 rfl Tryz.ntmps143 ⟨by simp,by simp[LK]⟩ ?_
   simp only[go_sem,reduceLT,reduceCtorEq,reduceEqDiff,Nat.reduceBEq,reduceAdd,reduceSub,reduceLeDiff,ab ae aj,hr,va,z05,z00,nm,e0,e1,e2,e3,e4,e5,e6]
theorem DK (g:List Val→Option (Sim×List Val)) (l:List Val) (i:Nat) (hl:l.length≤100000000) (hsz:Ne.size l≤100000000) (hg:∀ t c,Val.mk 5 t c∈l.drop i→pV g c):kY g l i:=by
 cases hv:Sl.eP 5 (l.drop i) with
 | none=>exact BF g l i hl hv
 | some x =>
  obtain⟨⟨t,c⟩,r⟩:=x;exact Ec g l i hl hsz hg t c r hv
end Go.Abs
