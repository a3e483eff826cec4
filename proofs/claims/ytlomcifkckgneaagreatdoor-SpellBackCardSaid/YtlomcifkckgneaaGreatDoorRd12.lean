/-
  WHAT THE FUNCTIONS COMPUTE, layer 4, the document's reader of selectors: an nth.
  (And 1 texts more.)
-/
import Derived.Test.YtlomcifkckgneaaGreatDoorRd9
set_option maxHeartbeats 8000000
open Nat (reduceEqDiff reduceAdd reduceLT reduceLeDiff reduceSub reduceMul)
set_option linter.unusedSimpArgs false
set_option linter.unusedVariables false
namespace Go.Abs
open Go Go.Proofs
set_option maxRecDepth 10000
attribute [local go_sem] dP bZ de cB cK dL dh du bo ck ce cE dr ci opd avOf cvOf St.degAt St.put okPV fE okAV eL eP eV dM aP if_true Bool.false_eq_true if_false Option.map_some Option.map_none Option.bind_some Option.bind_none fo fw upd List.toList_toArray cM steal bI mvB fj dK db AV.deg CV.deg AV.gv AV.isIter dG dw cJ List.length_nil List.length_cons List.filterMap_cons List.filterMap_nil beq_iff_eq List.getElem?_cons_zero List.getElem?_cons_succ Option.getD_some fM gJ Bool.false_and Bool.and_false Bool.and_self K_P iJ cI dc bL lend back idx dedup AV.ren CV.ren TV.ren AV.ptrs CV.ptrs dE AV.flat CV.flat cQ cz br dD dY gi cL bf cS bV cu cH bU gS CV.pv? content bT ownT bv reps pvs chunks co leave gj cZ eD cm bB TV.deg TV.av LK CV.plain CV.noBld dR gD bound List.map_cons List.map_nil List.all_cons List.all_nil List.any_cons List.any_nil List.contains_cons List.contains_nil List.elem_cons List.elem_nil List.cons_append List.nil_append List.append_nil List.flatMap_cons List.flatMap_nil List.zip_cons_cons List.zip_nil_left List.zip_nil_right List.take_succ_cons List.take_zero List.take_nil List.drop_succ_cons List.drop_zero List.drop_nil List.isEmpty_nil List.isEmpty_cons Bool.and_true Bool.true_and Bool.or_true Bool.true_or Bool.or_false Bool.false_or Bool.not_true Bool.not_false Nat.add_zero Nat.zero_add Option.isNone_none Option.isNone_some Option.getD_none true_and and_true not_true_eq_false not_false_eq_true decide_true decide_false Nat.le_refl and_self Bool.not_eq_true Nat.sub_self or_true true_or Option.some.injEq List.length_map List.nil_eq and_false false_and AV.live CV.live CV.liveIn gk bu Option.orElse_some Option.orElse_none head bJ bG Int.lt_irrefl List.length_append ite_self fx cF dC cf Key.clash Key.sees Key.writes Nat.lt_irrefl gt_iff_lt dt fB false_or or_false beq_self_eq_true Bool.true_beq Bool.false_beq AD bE BE HK wX ag bc iA ee fK cV cy bK dW aN cj gp fR Pf sy
def nthG (R:List Val):Int×Int×Bool :=
 if R.length=1∧(tk0 1 R).kind=1 then(if (tk0 1 R).text=[111,100,100] then(2,1,true) else if (tk0 1 R).text=[101,118,101,110] then(2,0,true) else if (tk0 1 R).text=[110] then(1,0,true) else(0,0,false))
 else if (tk0 5 R).kind=0 then(0,0,false)
 else if R.length=1∧(tk0 5 R).text=[] then(0,(tk0 5 R).n,true)
 else if R.length=1∧(tk0 5 R).text=[110] then((tk0 5 R).n,0,true)
 else if R.length=1∧2<(tk0 5 R).text.length∧(tk0 5 R).text.take 2=[110,45]∧0≤Sl.digits ((tk0 5 R).text.drop 2) then((tk0 5 R).n,-Sl.digits ((tk0 5 R).text.drop 2),true)
 else if R.length=3∧(tk0 5 R).text=[110]∧(Sl.sign [43] (R.drop 1)).isSome then((tk0 5 R).n,(tk0 5 (R.drop 2)).n,(tk0 5 (R.drop 2)).kind==5&&((tk0 5 (R.drop 2)).text==[]&&decide (0≤(tk0 5 (R.drop 2)).n)))
 else(0,0,false)
abbrev UY (x:Int×Int×Bool):AV:=.tup [.agg [.pv (.int .i64 x.1),.pv (.int .i64 x.2.1)],.c (.pv (.bool x.2.2))]
theorem RJ (l:List Val)(hl:l.length≤100000000):den K 50 [L (encL l)] []=some (.ret (UY (nthG (Sl.trim l))) []):=by
 have hr:Tryz.f50.results=#[.cell 2 83,.tmp 3]:=rfl
 have htrim:=pC l hl
 have hR:(Sl.trim l).length≤100000000:=Nat.le_trans (Sl.trim_len l) hl
 generalize Sl.trim l=R at htrim hR;have t1:=eG R 0 false 1 hR
 have t5:=eG R 0 false 5 hR
 rw[List.drop_zero] at t1 t5
 have t5':=eG R 2 false 5 hR
 unfold nthG;have z0:((0:Nat):Int)=0:=rfl
 have z1:((1:Nat):Int)=1:=rfl
 have z2:((2:Nat):Int)=2:=rfl
 have w1:IntKind.i64.wrap (0+1)=1:=by decide
 have h22:(2:Int).toNat=2:=rfl
 simp only[rb0,z0] at t1 t5
 simp only[rb0,z2] at t5'
 generalize tk0 1 R=w at t1
 generalize tk0 5 R=t at t5
 generalize tk0 5 (R.drop 2)=b at t5'
 by_cases L1:R.length=1
 ·have e1:((R.length:Int)==1)=true:=by rw[L1];rfl
  have e3:((R.length:Int)==3)=false:=by rw[L1];rfl
  cases ew:(w.kind==1)
  ·rw[if_neg (fun h=>by rw[h.2] at ew;cases ew)]
   cases e0:(t.kind==0)
   ·rw[if_neg (by simpa using e0)]
    cases et:(t.text==[])
    ·rw[if_neg (fun h=>by rw[h.2] at et;cases et)]
     cases en:(t.text==[110])
     ·rw[if_neg (fun h=>by rw[h.2] at en;cases en)]
      cases el:decide ((2:Int)<(t.text.length:Int))
      ·have el':=of_decide_eq_false el
       rw[if_neg (fun h=>el' (by omega)),if_neg (fun h=>by omega)]
       refine ai rfl rfl Tryz.func50 rfl Tryz.ntmps50 ⟨by simp,by simp[LK]⟩ ?_
       simp only[go_sem,reduceLT,reduceCtorEq,reduceEqDiff,Nat.reduceBEq,reduceAdd,reduceSub,reduceLeDiff,reduceMul,aa aJ aM,cA bE cw,af ak,aE am,ax am,hr,htrim,t1,t5,e1,e3,ew,e0,et,en,el,w1,aA]
      ·have el':=of_decide_eq_true el
       have hb:((0:Int)≤2∧(2:Int)≤(t.text.length:Int))=True:=by rw[eq_iff_iff];simp;omega
       have hb0:((0:Int)≤0∧(0:Int)≤2)=True:=by decide
       cases ep:(t.text.take 2==[110,45])
       ·rw[if_neg (fun h=>by rw[h.2.2.1] at ep;cases ep),if_neg (fun h=>by omega)]
        refine ai rfl rfl Tryz.func50 rfl Tryz.ntmps50 ⟨by simp,by simp[LK]⟩ ?_
        simp only[go_sem,reduceLT,reduceCtorEq,reduceEqDiff,Nat.reduceBEq,reduceAdd,reduceSub,reduceLeDiff,reduceMul,aa aJ aM,cA bE cw,af ak,aE am,ax am,hr,htrim,t1,t5,e1,e3,ew,e0,et,en,el,ep,hb,w1,aA,h22,List.drop_zero]
       ·have hdg:=GP (t.text.drop 2)
        have hdf:=FT (t.text.drop 2)
        cases ed:decide (0≤Sl.digits (t.text.drop 2))
        ·have ed':=of_decide_eq_false ed
         rw[if_neg (fun h=>ed' h.2.2.2),if_neg (fun h=>by omega)]
         refine ai rfl rfl Tryz.func50 rfl Tryz.ntmps50 ⟨by simp,by simp[LK]⟩ ?_
         simp only[go_sem,reduceLT,reduceCtorEq,reduceEqDiff,Nat.reduceBEq,reduceAdd,reduceSub,reduceLeDiff,reduceMul,aa aJ aM,cA bE cw,af ak,aE am,ax am,hr,htrim,t1,t5,e1,e3,ew,e0,et,en,el,ep,hb,hdg,ed,w1,aA,h22,List.drop_zero,List.take_length]
        ·have ed':=of_decide_eq_true ed
         have hneg:IntKind.i64.wrap (0 - Sl.digits (t.text.drop 2)) = -Sl.digits (t.text.drop 2):=by rw[IntWalk.i64_in _ (by omega)];omega
         rw[if_pos ⟨L1,by omega,by simpa using ep,ed'⟩]
         refine ai rfl rfl Tryz.func50 rfl Tryz.ntmps50 ⟨by simp,by simp[LK]⟩ ?_
         simp only[go_sem,reduceLT,reduceCtorEq,reduceEqDiff,Nat.reduceBEq,reduceAdd,reduceSub,reduceLeDiff,reduceMul,aa aJ aM,cA bE cw,af ak,aE am,ax am,hr,htrim,t1,t5,e1,ew,e0,et,en,el,ep,hb,hdg,ed,hneg,w1,aA,h22,List.drop_zero,List.take_length]
     ·rw[if_pos ⟨L1,by simpa using en⟩]
      refine ai rfl rfl Tryz.func50 rfl Tryz.ntmps50 ⟨by simp,by simp[LK]⟩ ?_
      simp only[go_sem,reduceLT,reduceCtorEq,reduceEqDiff,Nat.reduceBEq,reduceAdd,reduceSub,reduceLeDiff,reduceMul,aa aJ aM,cA bE cw,af ak,hr,htrim,t1,t5,e1,ew,e0,et,en,w1,aA]
    ·rw[if_pos ⟨L1,by simpa using et⟩]
     refine ai rfl rfl Tryz.func50 rfl Tryz.ntmps50 ⟨by simp,by simp[LK]⟩ ?_
     simp only[go_sem,reduceLT,reduceCtorEq,reduceEqDiff,Nat.reduceBEq,reduceAdd,reduceSub,reduceLeDiff,reduceMul,aa aJ aM,cA bE cw,af ak,hr,htrim,t1,t5,e1,ew,e0,et,w1,aA]
   ·rw[if_pos (by simpa using e0)]
    refine ai rfl rfl Tryz.func50 rfl Tryz.ntmps50 ⟨by simp,by simp[LK]⟩ ?_
    simp only[go_sem,reduceLT,reduceCtorEq,reduceEqDiff,Nat.reduceBEq,reduceAdd,reduceSub,reduceLeDiff,reduceMul,aa aJ aM,cA bE cw,af ak,hr,htrim,t1,t5,e1,ew,e0,w1,aA]
  ·rw[if_pos ⟨L1,by simpa using ew⟩]
   cases a1:(w.text==[111,100,100])
   ·rw[if_neg (by simpa using a1)]
    cases a2:(w.text==[101,118,101,110])
    ·rw[if_neg (by simpa using a2)]
     cases a3:(w.text==[110])
     ·rw[if_neg (by simpa using a3)]
      refine ai rfl rfl Tryz.func50 rfl Tryz.ntmps50 ⟨by simp,by simp[LK]⟩ ?_
      simp only[go_sem,reduceLT,reduceCtorEq,reduceEqDiff,Nat.reduceBEq,reduceAdd,reduceSub,reduceLeDiff,reduceMul,aa aJ aM,cA bE cw,af ak,hr,htrim,t1,e1,ew,a1,a2,a3,aA]
     ·rw[if_pos (by simpa using a3)]
      refine ai rfl rfl Tryz.func50 rfl Tryz.ntmps50 ⟨by simp,by simp[LK]⟩ ?_
      simp only[go_sem,reduceLT,reduceCtorEq,reduceEqDiff,Nat.reduceBEq,reduceAdd,reduceSub,reduceLeDiff,reduceMul,aa aJ aM,cA bE cw,af ak,hr,htrim,t1,e1,ew,a1,a2,a3,aA]
    ·rw[if_pos (by simpa using a2)]
     refine ai rfl rfl Tryz.func50 rfl Tryz.ntmps50 ⟨by simp,by simp[LK]⟩ ?_
     simp only[go_sem,reduceLT,reduceCtorEq,reduceEqDiff,Nat.reduceBEq,reduceAdd,reduceSub,reduceLeDiff,reduceMul,aa aJ aM,cA bE cw,af ak,hr,htrim,t1,e1,ew,a1,a2,aA]
   ·rw[if_pos (by simpa using a1)]
    refine ai rfl rfl Tryz.func50 rfl Tryz.ntmps50 ⟨by simp,by simp[LK]⟩ ?_
    simp only[go_sem,reduceLT,reduceCtorEq,reduceEqDiff,Nat.reduceBEq,reduceAdd,reduceSub,reduceLeDiff,reduceMul,aa aJ aM,cA bE cw,af ak,hr,htrim,t1,e1,ew,a1,aA]
 ·have e1:((R.length:Int)==1)=false:=by rw[beq_eq_false_iff_ne];omega
  rw[if_neg (fun h=>L1 h.1)]
  cases e0:(t.kind==0)
  ·rw[if_neg (by simpa using e0),if_neg (fun h=>L1 h.1),if_neg (fun h=>L1 h.1),if_neg (fun h=>L1 h.1)]
   by_cases L3:R.length=3
   ·have e3:((R.length:Int)==3)=true:=by rw[L3];rfl
    cases en:(t.text==[110])
    ·rw[if_neg (fun h=>by rw[h.2.1] at en;cases en)]
     refine ai rfl rfl Tryz.func50 rfl Tryz.ntmps50 ⟨by simp,by simp[LK]⟩ ?_
     simp only[go_sem,reduceLT,reduceCtorEq,reduceEqDiff,Nat.reduceBEq,reduceAdd,reduceSub,reduceLeDiff,reduceMul,aa aJ aM,cA bE cw,af ak,ax am,hr,htrim,t1,t5,e1,e3,e0,en,w1,aA]
    ·cases hs:Sl.sign [43] (R.drop 1) with
     | none =>
      have s1:=gf R 1 false [43] hR hs
      simp only[rb0,z1] at s1
      rw[if_neg (by simp)]
      refine ai rfl rfl Tryz.func50 rfl Tryz.ntmps50 ⟨by simp,by simp[LK]⟩ ?_
      simp only[go_sem,reduceLT,reduceCtorEq,reduceEqDiff,Nat.reduceBEq,reduceAdd,reduceSub,reduceLeDiff,reduceMul,aa aJ aM,cA bE cw,af ak,ax am,hr,htrim,t1,t5,e1,e3,e0,en,s1,w1,aA]
     | some r =>
      obtain⟨s1,_,_⟩:=iY R 1 false [43] hR r hs;rw[if_pos ⟨L3,by simpa using en,rfl⟩]
      have z12:((1+1:Nat):Int)=2:=rfl
      simp only[rb0,z1,z12] at s1
      cases b1:(b.kind==5)
      ·refine ai rfl rfl Tryz.func50 rfl Tryz.ntmps50 ⟨by simp,by simp[LK]⟩ ?_
       simp only[go_sem,reduceLT,reduceCtorEq,reduceEqDiff,Nat.reduceBEq,reduceAdd,reduceSub,reduceLeDiff,reduceMul,aa aJ aM,cA bE cw,af ak,ax am,hr,htrim,t1,t5,t5',e1,e3,e0,en,s1,b1,w1,aA]
      ·cases b2:(b.text==[])
       ·refine ai rfl rfl Tryz.func50 rfl Tryz.ntmps50 ⟨by simp,by simp[LK]⟩ ?_
        simp only[go_sem,reduceLT,reduceCtorEq,reduceEqDiff,Nat.reduceBEq,reduceAdd,reduceSub,reduceLeDiff,reduceMul,aa aJ aM,cA bE cw,af ak,ax am,hr,htrim,t1,t5,t5',e1,e3,e0,en,s1,b1,b2,w1,aA]
       ·refine ai rfl rfl Tryz.func50 rfl Tryz.ntmps50 ⟨by simp,by simp[LK]⟩ ?_
        simp only[go_sem,reduceLT,reduceCtorEq,reduceEqDiff,Nat.reduceBEq,reduceAdd,reduceSub,reduceLeDiff,reduceMul,aa aJ aM,cA bE cw,af ak,ax am,hr,htrim,t1,t5,t5',e1,e3,e0,en,s1,b1,b2,w1,aA]
   ·have e3:((R.length:Int)==3)=false:=by rw[beq_eq_false_iff_ne];omega
    rw[if_neg (fun h=>L3 h.1)]
    refine ai rfl rfl Tryz.func50 rfl Tryz.ntmps50 ⟨by simp,by simp[LK]⟩ ?_
    simp only[go_sem,reduceLT,reduceCtorEq,reduceEqDiff,Nat.reduceBEq,reduceAdd,reduceSub,reduceLeDiff,reduceMul,aa aJ aM,cA bE cw,af ak,ax am,hr,htrim,t1,t5,e1,e3,e0,w1,aA]
  ·rw[if_pos (by simpa using e0)]
   refine ai rfl rfl Tryz.func50 rfl Tryz.ntmps50 ⟨by simp,by simp[LK]⟩ ?_
   simp only[go_sem,reduceLT,reduceCtorEq,reduceEqDiff,Nat.reduceBEq,reduceAdd,reduceSub,reduceLeDiff,reduceMul,aa aJ aM,cA bE cw,af ak,hr,htrim,t1,t5,e1,e0,w1,aA]
attribute [local go_sem] TX rX
theorem Kb (v:List Val):match Sl.nth v with|some x=>nthG (Sl.trim v)=(x.1,x.2,true)|none=>(nthG (Sl.trim v)).2.2=false:=by
 unfold Sl.nth;generalize Sl.trim v=R;have t0k:(Ne.tok0).kind=0:=rfl
 match R with
 | []=>rfl
 | [.mk k t c] =>
  simp only;by_cases hk:k=1
  ·subst hk;rw[if_pos rfl];by_cases h1:t.kind=1
   ·have e1:tk0 1 [Val.mk 1 t c]=t:=pO ⟨rfl,h1⟩
    unfold nthG Sl.nth1;rw[if_pos h1,e1,if_pos (show [Val.mk 1 t c].length=1∧t.kind=1 from⟨rfl,h1⟩)]
    by_cases a1:t.text=[111,100,100]
    ·rw[if_pos a1,if_pos a1]
    ·rw[if_neg a1,if_neg a1];by_cases a2:t.text=[101,118,101,110]
     ·rw[if_pos a2,if_pos a2]
     ·rw[if_neg a2,if_neg a2];by_cases a3:t.text=[110]
      ·rw[if_pos a3,if_pos a3]
      ·rw[if_neg a3,if_neg a3]
   ·have e1:tk0 1 [Val.mk 1 t c]=Ne.tok0:=nY fun h=>h1 h.2
    by_cases h5:t.kind=5
    ·have e5:tk0 5 [Val.mk 1 t c]=t:=pO ⟨rfl,h5⟩
     unfold nthG Sl.nth1;rw[if_neg h1,if_pos h5,e1,e5,if_neg (show ¬([Val.mk 1 t c].length=1∧Ne.tok0.kind=1) from fun h=>by rw[t0k] at h;simp at h),if_neg (show ¬ t.kind=0 by rw[h5];decide)]
     by_cases a1:t.text=[]
     ·rw[if_pos a1,if_pos (show [Val.mk 1 t c].length=1∧t.text=[] from⟨rfl,a1⟩)]
     ·rw[if_neg a1,if_neg (show ¬([Val.mk 1 t c].length=1∧t.text=[]) from fun h=>a1 h.2)]
      by_cases a2:t.text=[110]
      ·rw[if_pos a2,if_pos (show [Val.mk 1 t c].length=1∧t.text=[110] from⟨rfl,a2⟩)]
      ·rw[if_neg a2,if_neg (show ¬([Val.mk 1 t c].length=1∧t.text=[110]) from fun h=>a2 h.2)]
       by_cases a3:2<t.text.length∧t.text.take 2=[110,45]∧0≤Sl.digits (t.text.drop 2)
       ·rw[if_pos a3,if_pos (show [Val.mk 1 t c].length=1∧2<t.text.length∧t.text.take 2=[110,45]∧0≤Sl.digits (t.text.drop 2) from⟨rfl,a3⟩)]
       ·rw[if_neg a3,if_neg (show ¬([Val.mk 1 t c].length=1∧2<t.text.length∧t.text.take 2=[110,45]∧0≤Sl.digits (t.text.drop 2)) from fun h=>a3 h.2),if_neg (fun h=>by simp at h)]
    ·have e5:tk0 5 [Val.mk 1 t c]=Ne.tok0:=nY fun h=>h5 h.2
     unfold nthG Sl.nth1;rw[if_neg h1,if_neg h5,e1,e5,if_neg (show ¬([Val.mk 1 t c].length=1∧Ne.tok0.kind=1) from fun h=>by rw[t0k] at h;simp at h),if_pos t0k]
  ·rw[if_neg hk];have e1:tk0 1 [Val.mk k t c]=Ne.tok0:=nY fun h=>hk h.1
   have e5:tk0 5 [Val.mk k t c]=Ne.tok0:=nY fun h=>hk h.1
   unfold nthG;simp only;rw[e1,e5,if_neg (show ¬([Val.mk k t c].length=1∧Ne.tok0.kind=1) from fun h=>by rw[t0k] at h;simp at h),if_pos t0k]
 | [a,b] =>
  simp only;unfold nthG;simp only[List.length_cons,List.length_nil,Nat.zero_add,reduceAdd,reduceEqDiff,false_and,if_false];split<;>rfl
 | [.mk k t c,s,.mk k' u c'] =>
  simp only;have hu:tk0 5 ([Val.mk k t c,s,Val.mk k' u c'].drop 2)=if k'=1∧u.kind=5 then u else Ne.tok0:=by
   have:[Val.mk k t c,s,Val.mk k' u c'].drop 2=[Val.mk k' u c']:=rfl
   rw[this];split
   ·rename_i h;exact pO h
   ·rename_i h;exact nY h
  have hs:(Sl.sign [43] ([Val.mk k t c,s,Val.mk k' u c'].drop 1)).isSome=Sl.aI [43] s:=by
   have:[Val.mk k t c,s,Val.mk k' u c'].drop 1=[s,Val.mk k' u c']:=rfl
   rw[this];unfold Sl.sign;simp only;cases Sl.aI [43] s<;>rfl
  unfold nthG;rw[hu,hs];simp only[List.length_cons,List.length_nil,Nat.zero_add,reduceAdd,reduceEqDiff,false_and,if_false,true_and];by_cases hk:k=1∧t.kind=5
  ·have e5:tk0 5 [Val.mk k t c,s,Val.mk k' u c']=t:=pO hk
   rw[e5,if_neg (show ¬ t.kind=0 by rw[hk.2];decide)]
   by_cases hn:t.text=[110]∧Sl.aI [43] s=true
   ·rw[if_pos hn];by_cases hb:k'=1∧u.kind=5
    ·rw[if_pos hb];by_cases hc:u.text=[]∧0≤u.n
     ·rw[if_pos (show k=1∧t.kind=5∧t.text=[110]∧Sl.aI [43] s=true∧k'=1∧u.kind=5∧u.text=[]∧0≤u.n from⟨hk.1,hk.2,hn.1,hn.2,hb.1,hb.2,hc.1,hc.2⟩)]
      simp[hb.2,hc.1,hc.2]
     ·rw[if_neg (show ¬(k=1∧t.kind=5∧t.text=[110]∧Sl.aI [43] s=true∧k'=1∧u.kind=5∧u.text=[]∧0≤u.n) from fun h=>hc ⟨h.2.2.2.2.2.2.1,h.2.2.2.2.2.2.2⟩)]
      simp only;cases h1:(u.text==[])
      ·simp
      ·cases h2:decide (0≤u.n)
       ·simp
       ·exact(hc ⟨by simpa using h1,of_decide_eq_true h2⟩).elim
    ·rw[if_neg hb,if_neg (show ¬(k=1∧t.kind=5∧t.text=[110]∧Sl.aI [43] s=true∧k'=1∧u.kind=5∧u.text=[]∧0≤u.n) from fun h=>hb ⟨h.2.2.2.2.1,h.2.2.2.2.2.1⟩)]
     rfl
   ·rw[if_neg hn,if_neg (show ¬(k=1∧t.kind=5∧t.text=[110]∧Sl.aI [43] s=true∧k'=1∧u.kind=5∧u.text=[]∧0≤u.n) from fun h=>hn ⟨h.2.2.1,h.2.2.2.1⟩)]
  ·have e5:tk0 5 [Val.mk k t c,s,Val.mk k' u c']=Ne.tok0:=nY hk
   rw[e5,if_pos t0k,if_neg (show ¬(k=1∧t.kind=5∧t.text=[110]∧Sl.aI [43] s=true∧k'=1∧u.kind=5∧u.text=[]∧0≤u.n) from fun h=>hk ⟨h.1,h.2.1⟩)]
 | a::b::c::d::l =>
  simp only;have h3:¬ ((a::b::c::d::l).length=1):=by simp
  have h4:¬ ((a::b::c::d::l).length=3):=by simp
  unfold nthG;simp only[h3,h4,false_and,if_false];split<;>rfl
def nthA (x:Option (Int×Int)):AV:=match x with
 | some x=>.tup [.c (.pv (.int .i64 x.1)),.c (.pv (.int .i64 x.2)),.c (.pv (.int .i64 0))]
 | none=>.tup [.c (.pv (.int .i64 0)),.c (.pv (.int .i64 0)),.c (.pv (.int .i64 40))]
theorem PK (l:List Val)(hl:l.length≤100000000):den K 21 [L (encL l)] []=some (.ret (nthA (Sl.nthM l)) []):=by
 have hr:Tryz.f21.results=#[.tmp 2,.tmp 3,.tmp 4]:=rfl
 have hn:=RJ l hl
 have hg:=Kb l
 have b0:((0:Int)≤0∧(0:Int)<((2:Nat):Int))=True:=by decide
 have b1:((0:Int)≤1∧(1:Int)<((2:Nat):Int))=True:=by decide
 have z0:(0:Int).toNat=0:=rfl
 have z1:(1:Int).toNat=1:=rfl
 unfold Sl.nthM;cases hv:Sl.nth l with
 | none =>
  rw[hv] at hg;simp only at hg ⊢;generalize nthG (Sl.trim l)=y at hn hg;obtain⟨a,b,ok⟩:=y;simp only at hg;subst hg;unfold nthA;refine ai rfl rfl Tryz.func21 rfl Tryz.ntmps21 ⟨by simp,by simp[LK]⟩ ?_
  simp only[go_sem,reduceLT,reduceCtorEq,reduceEqDiff,Nat.reduceBEq,reduceAdd,reduceSub,reduceLeDiff,hr,hn,TV.flat]
 | some x =>
  obtain⟨a,b⟩:=x;rw[hv] at hg;simp only at hg ⊢;rw[hg] at hn;have f1:=uY a
  have f2:=uY b
  cases h1:decide (Sl.few a)
  ·rw[h1] at f1
   rw[if_neg (fun h=>of_decide_eq_false h1 h.1)]
   unfold nthA;refine ai rfl rfl Tryz.func21 rfl Tryz.ntmps21 ⟨by simp,by simp[LK]⟩ ?_
   simp only[go_sem,reduceLT,reduceCtorEq,reduceEqDiff,Nat.reduceBEq,reduceAdd,reduceSub,reduceLeDiff,reduceMul,kx cw,hr,hn,TV.flat,b0,z0,f1]
  ·rw[h1] at f1
   cases h2:decide (Sl.few b)
   ·rw[h2] at f2
    rw[if_neg (fun h=>of_decide_eq_false h2 h.2)]
    unfold nthA;refine ai rfl rfl Tryz.func21 rfl Tryz.ntmps21 ⟨by simp,by simp[LK]⟩ ?_
    simp only[go_sem,reduceLT,reduceCtorEq,reduceEqDiff,Nat.reduceBEq,reduceAdd,reduceSub,reduceLeDiff,reduceMul,kx cw,hr,hn,TV.flat,b0,b1,z0,z1,f1,f2]
   ·rw[h2] at f2
    rw[if_pos ⟨of_decide_eq_true h1,of_decide_eq_true h2⟩];unfold nthA;refine ai rfl rfl Tryz.func21 rfl Tryz.ntmps21 ⟨by simp,by simp[LK]⟩ ?_
    simp only[go_sem,reduceLT,reduceCtorEq,reduceEqDiff,Nat.reduceBEq,reduceAdd,reduceSub,reduceLeDiff,reduceMul,kx cw,hr,hn,TV.flat,b0,b1,z0,z1,f1,f2]
end Go.Abs
