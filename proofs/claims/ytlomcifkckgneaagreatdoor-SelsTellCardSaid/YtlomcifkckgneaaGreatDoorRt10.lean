/-
  WHAT THE FUNCTIONS COMPUTE, layer 4, the document's reader of selectors: an nth.
-/
import Derived.Test.YtlomcifkckgneaaGreatDoorRt7
open Nat (reduceEqDiff reduceAdd reduceLT reduceLeDiff reduceSub reduceMul)
set_option linter.unusedSimpArgs false
set_option linter.unusedVariables false
namespace Go.Abs
open Go Go.Proofs
set_option maxRecDepth 10000
attribute [local go_sem] c7 bF cD bW bZ db cJ cE a7 ck ce cF c8 bS opd avOf cvOf St.degAt St.put okPV d6 okAV du dv dt cU aM if_true Bool.false_eq_true if_false Option.map_some Option.map_none Option.bind_some Option.bind_none dY dV upd List.toList_toArray cR steal bz mvB dE cV cT AV.deg CV.deg AV.gv AV.isIter cN cI bU List.length_nil List.length_cons List.filterMap_cons List.filterMap_nil beq_iff_eq List.getElem?_cons_zero List.getElem?_cons_succ Option.getD_some d8 eV Bool.false_and Bool.and_false Bool.and_self K_P fq co cO bw lend back idx dedup AV.ren CV.ren TV.ren AV.ptrs CV.ptrs cX AV.flat CV.flat cz cg bc c9 dk eo cj aY cm bt bH cf br eF CV.pv? content bA ownT bd reps pvs chunks cd leave eB cK dr bT bv TV.deg TV.av LK CV.plain CV.noBld c5 eA bound List.map_cons List.map_nil List.all_cons List.all_nil List.any_cons List.any_nil List.contains_cons List.contains_nil List.elem_cons List.elem_nil List.cons_append List.nil_append List.append_nil List.flatMap_cons List.flatMap_nil List.zip_cons_cons List.zip_nil_left List.zip_nil_right List.take_succ_cons List.take_zero List.take_nil List.drop_succ_cons List.drop_zero List.drop_nil List.isEmpty_nil List.isEmpty_cons Bool.and_true Bool.true_and Bool.or_true Bool.true_or Bool.or_false Bool.false_or Bool.not_true Bool.not_false Nat.add_zero Nat.zero_add Option.isNone_none Option.isNone_some Option.getD_none true_and and_true not_true_eq_false not_false_eq_true decide_true decide_false Nat.le_refl and_self Bool.not_eq_true Nat.sub_self or_true true_or Option.some.injEq List.length_map List.nil_eq and_false false_and AV.live CV.live CV.liveIn dU bg Option.orElse_some Option.orElse_none head bm bh Int.lt_irrefl List.length_append ite_self dZ cA dc bC Key.clash Key.sees Key.writes Nat.lt_irrefl gt_iff_lt cH dH false_or or_false beq_self_eq_true Bool.true_beq Bool.false_beq wh bJ wt r8 se ai aZ iR dP ff dA cB bG dz aL bX gp eG Hc py
def nthG (R:List Val):Int×Int×Bool :=
 if R.length=1∧(tk0 1 R).kind=1 then(if (tk0 1 R).text=[111,100,100] then(2,1,true) else if (tk0 1 R).text=[101,118,101,110] then(2,0,true) else if (tk0 1 R).text=[110] then(1,0,true) else(0,0,false))
 else if (tk0 5 R).kind=0 then(0,0,false)
 else if R.length=1∧(tk0 5 R).text=[] then(0,(tk0 5 R).n,true)
 else if R.length=1∧(tk0 5 R).text=[110] then((tk0 5 R).n,0,true)
 else if R.length=1∧2<(tk0 5 R).text.length∧(tk0 5 R).text.take 2=[110,45]∧0≤Sl.digits ((tk0 5 R).text.drop 2) then((tk0 5 R).n,-Sl.digits ((tk0 5 R).text.drop 2),true)
 else if R.length=3∧(tk0 5 R).text=[110]∧(Sl.sign [43] (R.drop 1)).isSome then((tk0 5 R).n,(tk0 5 (R.drop 2)).n,(tk0 5 (R.drop 2)).kind==5&&((tk0 5 (R.drop 2)).text==[]&&decide (0≤(tk0 5 (R.drop 2)).n)))
 else(0,0,false)
abbrev K5 (x:Int×Int×Bool):AV:=.tup [.agg [.pv (.int .i64 x.1),.pv (.int .i64 x.2.1)],.c (.pv (.bool x.2.2))]
set_option maxHeartbeats 8000000 in
theorem I9 (l:List Val) (hl:l.length≤100000000):den K 50 [L (encL l)] []=some (.ret (K5 (nthG (Sl.trim l))) []):=by
 have hr:Tryz.f50.results=#[.cell 2 83,.tmp 3]:=rfl
 have htrim:=mL l hl
 have hR:(Sl.trim l).length≤100000000:=Nat.le_trans (Sl.trim_len l) hl
 generalize Sl.trim l=R at htrim hR;have t1:=ee R 0 false 1 hR
 have t5:=ee R 0 false 5 hR
 rw[List.drop_zero] at t1 t5
 have t5':=ee R 2 false 5 hR
 unfold nthG;have z0:((0:Nat):Int)=0:=rfl
 have z1:((1:Nat):Int)=1:=rfl
 have z2:((2:Nat):Int)=2:=rfl
 have w1:IntKind.i64.wrap (0+1)=1:=by decide
 have h22:(2:Int).toNat=2:=rfl
 simp only[rb0,z0] at t1 t5
 simp only[rb0,z2] at t5'
 generalize tk0 1 R=w at t1
 generalize tk0 5 R=t at t5
 generalize tk0 5 (R.drop 2)=b at t5'
 by_cases L1:R.length=1
 ·have e1:((R.length:Int)==1)=true:=by rw[L1];rfl
  have e3:((R.length:Int)==3)=false:=by rw[L1];rfl
  cases ew:(w.kind==1)
  ·rw[if_neg (fun h=>by rw[h.2] at ew;cases ew)]
   cases e0:(t.kind==0)
   ·rw[if_neg (by simpa using e0)]
    cases et:(t.text==[])
    ·rw[if_neg (fun h=>by rw[h.2] at et;cases et)]
     cases en:(t.text==[110])
     ·rw[if_neg (fun h=>by rw[h.2] at en;cases en)]
      cases el:decide ((2:Int)<(t.text.length:Int))
      ·have el':=of_decide_eq_false el
       rw[if_neg (fun h=>el' (by omega)),if_neg (fun h=>by omega)]
       refine ah rfl rfl Tryz.func50 rfl Tryz.ntmps50 ⟨by simp,by simp[LK]⟩ ?_
       simp only[go_sem,reduceLT,reduceCtorEq,reduceEqDiff,Nat.reduceBEq,reduceAdd,reduceSub,reduceLeDiff,reduceMul,ab aI aN,cW bJ cS,af ak,aA al,ax al,hr,htrim,t1,t5,e1,e3,ew,e0,et,en,el,w1,az]
      ·have el':=of_decide_eq_true el
       have hb:((0:Int)≤2∧(2:Int)≤(t.text.length:Int))=True:=by rw[eq_iff_iff];simp;omega
       have hb0:((0:Int)≤0∧(0:Int)≤2)=True:=by decide
       cases ep:(t.text.take 2==[110,45])
       ·rw[if_neg (fun h=>by rw[h.2.2.1] at ep;cases ep),if_neg (fun h=>by omega)]
        refine ah rfl rfl Tryz.func50 rfl Tryz.ntmps50 ⟨by simp,by simp[LK]⟩ ?_
        simp only[go_sem,reduceLT,reduceCtorEq,reduceEqDiff,Nat.reduceBEq,reduceAdd,reduceSub,reduceLeDiff,reduceMul,ab aI aN,cW bJ cS,af ak,aA al,ax al,hr,htrim,t1,t5,e1,e3,ew,e0,et,en,el,ep,hb,w1,az,h22,List.drop_zero]
       ·have hdg:=Ba (t.text.drop 2)
        have hdf:=Bj (t.text.drop 2)
        cases ed:decide (0≤Sl.digits (t.text.drop 2))
        ·have ed':=of_decide_eq_false ed
         rw[if_neg (fun h=>ed' h.2.2.2),if_neg (fun h=>by omega)]
         refine ah rfl rfl Tryz.func50 rfl Tryz.ntmps50 ⟨by simp,by simp[LK]⟩ ?_
         simp only[go_sem,reduceLT,reduceCtorEq,reduceEqDiff,Nat.reduceBEq,reduceAdd,reduceSub,reduceLeDiff,reduceMul,ab aI aN,cW bJ cS,af ak,aA al,ax al,hr,htrim,t1,t5,e1,e3,ew,e0,et,en,el,ep,hb,hdg,ed,w1,az,h22,List.drop_zero,List.take_length]
        ·have ed':=of_decide_eq_true ed
         have hneg:IntKind.i64.wrap (0 - Sl.digits (t.text.drop 2)) = -Sl.digits (t.text.drop 2):=by rw[IntWalk.i64_in _ (by omega)];omega
         rw[if_pos ⟨L1,by omega,by simpa using ep,ed'⟩]
         refine ah rfl rfl Tryz.func50 rfl Tryz.ntmps50 ⟨by simp,by simp[LK]⟩ ?_
         simp only[go_sem,reduceLT,reduceCtorEq,reduceEqDiff,Nat.reduceBEq,reduceAdd,reduceSub,reduceLeDiff,reduceMul,ab aI aN,cW bJ cS,af ak,aA al,ax al,hr,htrim,t1,t5,e1,ew,e0,et,en,el,ep,hb,hdg,ed,hneg,w1,az,h22,List.drop_zero,List.take_length]
     ·rw[if_pos ⟨L1,by simpa using en⟩]
      refine ah rfl rfl Tryz.func50 rfl Tryz.ntmps50 ⟨by simp,by simp[LK]⟩ ?_
      simp only[go_sem,reduceLT,reduceCtorEq,reduceEqDiff,Nat.reduceBEq,reduceAdd,reduceSub,reduceLeDiff,reduceMul,ab aI aN,cW bJ cS,af ak,hr,htrim,t1,t5,e1,ew,e0,et,en,w1,az]
    ·rw[if_pos ⟨L1,by simpa using et⟩]
     refine ah rfl rfl Tryz.func50 rfl Tryz.ntmps50 ⟨by simp,by simp[LK]⟩ ?_
     simp only[go_sem,reduceLT,reduceCtorEq,reduceEqDiff,Nat.reduceBEq,reduceAdd,reduceSub,reduceLeDiff,reduceMul,ab aI aN,cW bJ cS,af ak,hr,htrim,t1,t5,e1,ew,e0,et,w1,az]
   ·rw[if_pos (by simpa using e0)]
    refine ah rfl rfl Tryz.func50 rfl Tryz.ntmps50 ⟨by simp,by simp[LK]⟩ ?_
    simp only[go_sem,reduceLT,reduceCtorEq,reduceEqDiff,Nat.reduceBEq,reduceAdd,reduceSub,reduceLeDiff,reduceMul,ab aI aN,cW bJ cS,af ak,hr,htrim,t1,t5,e1,ew,e0,w1,az]
  ·rw[if_pos ⟨L1,by simpa using ew⟩]
   cases a1:(w.text==[111,100,100])
   ·rw[if_neg (by simpa using a1)]
    cases a2:(w.text==[101,118,101,110])
    ·rw[if_neg (by simpa using a2)]
     cases a3:(w.text==[110])
     ·rw[if_neg (by simpa using a3)]
      refine ah rfl rfl Tryz.func50 rfl Tryz.ntmps50 ⟨by simp,by simp[LK]⟩ ?_
      simp only[go_sem,reduceLT,reduceCtorEq,reduceEqDiff,Nat.reduceBEq,reduceAdd,reduceSub,reduceLeDiff,reduceMul,ab aI aN,cW bJ cS,af ak,hr,htrim,t1,e1,ew,a1,a2,a3,az]
     ·rw[if_pos (by simpa using a3)]
      refine ah rfl rfl Tryz.func50 rfl Tryz.ntmps50 ⟨by simp,by simp[LK]⟩ ?_
      simp only[go_sem,reduceLT,reduceCtorEq,reduceEqDiff,Nat.reduceBEq,reduceAdd,reduceSub,reduceLeDiff,reduceMul,ab aI aN,cW bJ cS,af ak,hr,htrim,t1,e1,ew,a1,a2,a3,az]
    ·rw[if_pos (by simpa using a2)]
     refine ah rfl rfl Tryz.func50 rfl Tryz.ntmps50 ⟨by simp,by simp[LK]⟩ ?_
     simp only[go_sem,reduceLT,reduceCtorEq,reduceEqDiff,Nat.reduceBEq,reduceAdd,reduceSub,reduceLeDiff,reduceMul,ab aI aN,cW bJ cS,af ak,hr,htrim,t1,e1,ew,a1,a2,az]
   ·rw[if_pos (by simpa using a1)]
    refine ah rfl rfl Tryz.func50 rfl Tryz.ntmps50 ⟨by simp,by simp[LK]⟩ ?_
    simp only[go_sem,reduceLT,reduceCtorEq,reduceEqDiff,Nat.reduceBEq,reduceAdd,reduceSub,reduceLeDiff,reduceMul,ab aI aN,cW bJ cS,af ak,hr,htrim,t1,e1,ew,a1,az]
 ·have e1:((R.length:Int)==1)=false:=by rw[beq_eq_false_iff_ne];omega
  rw[if_neg (fun h=>L1 h.1)]
  cases e0:(t.kind==0)
  ·rw[if_neg (by simpa using e0),if_neg (fun h=>L1 h.1),if_neg (fun h=>L1 h.1),if_neg (fun h=>L1 h.1)]
   by_cases L3:R.length=3
   ·have e3:((R.length:Int)==3)=true:=by rw[L3];rfl
    cases en:(t.text==[110])
    ·rw[if_neg (fun h=>by rw[h.2.1] at en;cases en)]
     refine ah rfl rfl Tryz.func50 rfl Tryz.ntmps50 ⟨by simp,by simp[LK]⟩ ?_
     simp only[go_sem,reduceLT,reduceCtorEq,reduceEqDiff,Nat.reduceBEq,reduceAdd,reduceSub,reduceLeDiff,reduceMul,ab aI aN,cW bJ cS,af ak,ax al,hr,htrim,t1,t5,e1,e3,e0,en,w1,az]
    ·cases hs:Sl.sign [43] (R.drop 1) with
     | none =>
      have s1:=fl R 1 false [43] hR hs
      simp only[rb0,z1] at s1
      rw[if_neg (by simp)]
      refine ah rfl rfl Tryz.func50 rfl Tryz.ntmps50 ⟨by simp,by simp[LK]⟩ ?_
      simp only[go_sem,reduceLT,reduceCtorEq,reduceEqDiff,Nat.reduceBEq,reduceAdd,reduceSub,reduceLeDiff,reduceMul,ab aI aN,cW bJ cS,af ak,ax al,hr,htrim,t1,t5,e1,e3,e0,en,s1,w1,az]
     | some r =>
      obtain⟨s1,_,_⟩:=gJ R 1 false [43] hR r hs;rw[if_pos ⟨L3,by simpa using en,rfl⟩]
      have z12:((1+1:Nat):Int)=2:=rfl
      simp only[rb0,z1,z12] at s1
      cases b1:(b.kind==5)
      ·refine ah rfl rfl Tryz.func50 rfl Tryz.ntmps50 ⟨by simp,by simp[LK]⟩ ?_
       simp only[go_sem,reduceLT,reduceCtorEq,reduceEqDiff,Nat.reduceBEq,reduceAdd,reduceSub,reduceLeDiff,reduceMul,ab aI aN,cW bJ cS,af ak,ax al,hr,htrim,t1,t5,t5',e1,e3,e0,en,s1,b1,w1,az]
      ·cases b2:(b.text==[])
       ·refine ah rfl rfl Tryz.func50 rfl Tryz.ntmps50 ⟨by simp,by simp[LK]⟩ ?_
        simp only[go_sem,reduceLT,reduceCtorEq,reduceEqDiff,Nat.reduceBEq,reduceAdd,reduceSub,reduceLeDiff,reduceMul,ab aI aN,cW bJ cS,af ak,ax al,hr,htrim,t1,t5,t5',e1,e3,e0,en,s1,b1,b2,w1,az]
       ·refine ah rfl rfl Tryz.func50 rfl Tryz.ntmps50 ⟨by simp,by simp[LK]⟩ ?_
        simp only[go_sem,reduceLT,reduceCtorEq,reduceEqDiff,Nat.reduceBEq,reduceAdd,reduceSub,reduceLeDiff,reduceMul,ab aI aN,cW bJ cS,af ak,ax al,hr,htrim,t1,t5,t5',e1,e3,e0,en,s1,b1,b2,w1,az]
   ·have e3:((R.length:Int)==3)=false:=by rw[beq_eq_false_iff_ne];omega
    rw[if_neg (fun h=>L3 h.1)]
    refine ah rfl rfl Tryz.func50 rfl Tryz.ntmps50 ⟨by simp,by simp[LK]⟩ ?_
    simp only[go_sem,reduceLT,reduceCtorEq,reduceEqDiff,Nat.reduceBEq,reduceAdd,reduceSub,reduceLeDiff,reduceMul,ab aI aN,cW bJ cS,af ak,ax al,hr,htrim,t1,t5,e1,e3,e0,w1,az]
  ·rw[if_pos (by simpa using e0)]
   refine ah rfl rfl Tryz.func50 rfl Tryz.ntmps50 ⟨by simp,by simp[LK]⟩ ?_
   simp only[go_sem,reduceLT,reduceCtorEq,reduceEqDiff,Nat.reduceBEq,reduceAdd,reduceSub,reduceLeDiff,reduceMul,ab aI aN,cW bJ cS,af ak,hr,htrim,t1,t5,e1,e0,w1,az]
end Go.Abs
