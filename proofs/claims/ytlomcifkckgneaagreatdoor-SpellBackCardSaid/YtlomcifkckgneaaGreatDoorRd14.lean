/-
  WHAT THE FUNCTIONS COMPUTE, layer 4, the program's reader of selectors: sels.whole, the numbers of an nth, whole; an attribute.
  (And 5 texts more.)
-/
import Derived.Test.YtlomcifkckgneaaGreatDoorRd11
import Derived.Test.YtlomcifkckgneaaGreatDoorRd12
import Derived.Test.YtlomcifkckgneaaGreatDoorRd13
set_option maxHeartbeats 8000000
open Nat (reduceEqDiff reduceAdd reduceLT reduceLeDiff reduceSub reduceMul)
set_option linter.unusedSimpArgs false
set_option linter.unusedVariables false
namespace Go.Abs
open Go Go.Proofs
set_option maxRecDepth 10000
attribute [local go_sem] dP bZ de cB cK dL dh du bo ck ce cE dr ci opd avOf cvOf St.degAt St.put okPV fE okAV eL eP eV dM aP if_true Bool.false_eq_true if_false Option.map_some Option.map_none Option.bind_some Option.bind_none fo fw upd List.toList_toArray cM steal bI mvB fj dK db AV.deg CV.deg AV.gv AV.isIter dG dw cJ List.length_nil List.length_cons List.filterMap_cons List.filterMap_nil beq_iff_eq List.getElem?_cons_zero List.getElem?_cons_succ Option.getD_some fM gJ Bool.false_and Bool.and_false Bool.and_self K_P iJ cI dc bL lend back idx dedup AV.ren CV.ren TV.ren AV.ptrs CV.ptrs dE AV.flat CV.flat cQ cz br dD dY gi cL bf cS bV cu cH bU gS CV.pv? content bT ownT bv reps pvs chunks co leave gj cZ eD cm bB TV.deg TV.av LK CV.plain CV.noBld dR gD bound List.map_cons List.map_nil List.all_cons List.all_nil List.any_cons List.any_nil List.contains_cons List.contains_nil List.elem_cons List.elem_nil List.cons_append List.nil_append List.append_nil List.flatMap_cons List.flatMap_nil List.zip_cons_cons List.zip_nil_left List.zip_nil_right List.take_succ_cons List.take_zero List.take_nil List.drop_succ_cons List.drop_zero List.drop_nil List.isEmpty_nil List.isEmpty_cons Bool.and_true Bool.true_and Bool.or_true Bool.true_or Bool.or_false Bool.false_or Bool.not_true Bool.not_false Nat.add_zero Nat.zero_add Option.isNone_none Option.isNone_some Option.getD_none true_and and_true not_true_eq_false not_false_eq_true decide_true decide_false Nat.le_refl and_self Bool.not_eq_true Nat.sub_self or_true true_or Option.some.injEq List.length_map List.nil_eq and_false false_and AV.live CV.live CV.liveIn gk bu Option.orElse_some Option.orElse_none head bJ bG Int.lt_irrefl List.length_append ite_self fx cF dC cf Key.clash Key.sees Key.writes Nat.lt_irrefl gt_iff_lt dt fB false_or or_false beq_self_eq_true Bool.true_beq Bool.false_beq SH cy bK SJ pL xU AL fL ab dZ PO Pu vt fc aN vb vG ko ee fK vl bX bg dW cj dz eF
abbrev P1:AV:=.c (.loc 100001 0)
abbrev P2:AV:=.c (.loc 100002 0)
theorem xb (m:List Val):(encL m).isEmpty=m.isEmpty:=by cases m<;>rfl
theorem wR {g:Nat}(hg:goods.contains g=true){l:List Val}(hl:l.length≤100000000){b b':List CV}(hb:∀ f,b.map (CV.ren f)=b)(hb':∀ f,b'.map (CV.ren f)=b'){v:AV}{m:List Val}
  (h:den K g [P0,P1] [rdB (Sl.trim l),b]=some (.ret v [rdB m,b'])) :
  den K 37 [L (encL l),.c (.fn g [(100000,0)])] [b]=some (.ret (I (if m.isEmpty then 0 else 40)) [b']):=by
 have hT:=lD l hl
 rw[nh (K:=K) (F:=ic goods.contains) rfl rfl];have e1:lend (dJ [b]) 0=some 100000:=rfl
 have e2:lend (dJ [b]) 100000=some 100001:=rfl
 unfold ic;simp only[Plan.run,hT,hg,if_true,List.map_cons,List.map_nil,AV.deg,CV.deg,AV.ren,CV.ren,e1,e2,hb,h,CV.pv?,lU,hb',xb]
theorem xV {g:Nat}(hg:goods.contains g=true){l:List Val}(hl:l.length≤100000000){b b':List CV}(hb:∀ f,b.map (CV.ren f)=b)(hb':∀ f,b'.map (CV.ren f)=b'){m:List Val}
  (h:den K g [P0,P1] [rdB (Sl.trim l),b]=some (.pan ey [rdB m,b'])) :
  den K 37 [L (encL l),.c (.fn g [(100000,0)])] [b]=some (.ret (I 40) [b']):=by
 have hT:=lD l hl
 rw[nh (K:=K) (F:=ic goods.contains) rfl rfl];have e1:lend (dJ [b]) 0=some 100000:=rfl
 have e2:lend (dJ [b]) 100000=some 100001:=rfl
 unfold ic;simp only[Plan.run,hT,hg,if_true,List.map_cons,List.map_nil,AV.deg,CV.deg,AV.ren,CV.ren,e1,e2,hb,h,lU,hb']
theorem Hi {g:Nat}(hg:goods.contains g=true){l:List Val}(hl:l.length≤100000000){a a' b b':List CV}(ha:∀ f,a.map (CV.ren f)=a)(ha':∀ f,a'.map (CV.ren f)=a')(hb:∀ f,b.map (CV.ren f)=b)(hb':∀ f,b'.map (CV.ren f)=b'){v:AV}{m:List Val}
  (h:den K g [P0,P1,P2] [rdB (Sl.trim l),a,b]=some (.ret v [rdB m,a',b'])) :
  den K 37 [L (encL l),.c (.fn g [(100000,0),(100001,0)])] [a,b]=some (.ret (I (if m.isEmpty then 0 else 40)) [a',b']):=by
 have hT:=lD l hl
 rw[nh (K:=K) (F:=ic goods.contains) rfl rfl];have e1:lend (dJ [a,b]) 0=some 100000:=rfl
 have e2:lend (dJ [a,b]) 100000=some 100001:=rfl
 have e3:lend (dJ [a,b]) 100001=some 100002:=rfl
 unfold ic;simp only[Plan.run,hT,hg,if_true,List.map_cons,List.map_nil,AV.deg,CV.deg,AV.ren,CV.ren,e1,e2,e3,ha,hb,h,CV.pv?,lU,ha',hb',xb]
theorem vX {g:Nat}(hg:goods.contains g=true){l:List Val}(hl:l.length≤100000000){a a' b b':List CV}(ha:∀ f,a.map (CV.ren f)=a)(ha':∀ f,a'.map (CV.ren f)=a')(hb:∀ f,b.map (CV.ren f)=b)(hb':∀ f,b'.map (CV.ren f)=b'){m:List Val}
  (h:den K g [P0,P1,P2] [rdB (Sl.trim l),a,b]=some (.pan ey [rdB m,a',b'])) :
  den K 37 [L (encL l),.c (.fn g [(100000,0),(100001,0)])] [a,b]=some (.ret (I 40) [a',b']):=by
 have hT:=lD l hl
 rw[nh (K:=K) (F:=ic goods.contains) rfl rfl];have e1:lend (dJ [a,b]) 0=some 100000:=rfl
 have e2:lend (dJ [a,b]) 100000=some 100001:=rfl
 have e3:lend (dJ [a,b]) 100001=some 100002:=rfl
 unfold ic;simp only[Plan.run,hT,hg,if_true,List.map_cons,List.map_nil,AV.deg,CV.deg,AV.ren,CV.ren,e1,e2,e3,ha,hb,h,lU,ha',hb']
abbrev iB (n:Int):List CV:=[.pv (.int .i64 n)]
theorem RZ (n:Int):(decide (-9999≤n)&&decide (n≤9999))=decide (Sl.few n):=by
 rw[Bool.eq_iff_iff,Bool.and_eq_true,decide_eq_true_eq,decide_eq_true_eq,decide_eq_true_eq];rfl
theorem Pc (l:List Val)(hl:l.length≤70000000)(ht:TSh l):match Sl.nthP l with
  | some (x,m)=>if Sl.few x.1∧Sl.few x.2 then den K 38 [P0,P1,P2] [rdB l,iB 0,iB 0]=some (.ret (.tup []) [rdB m,iB x.1,iB x.2])
   else den K 38 [P0,P1,P2] [rdB l,iB 0,iB 0]=some (.pan ey [rdB m,iB x.1,iB x.2])
  | none=>∃ m,den K 38 [P0,P1,P2] [rdB l,iB 0,iB 0]=some (.pan ey [rdB m,iB 0,iB 0]):=by
 have hr:Tryz.f38.results=#[]:=rfl
 have h:=JQ l hl ht
 have hmy:=fF
 have hmn:=jk
 cases hn:Sl.nthP l with
 | none =>
  rw[hn] at h;obtain⟨m,h⟩:=gh h;refine⟨m,?_⟩
  simp only[rdB,iB] at h ⊢;refine ai rfl rfl Tryz.func38 rfl Tryz.ntmps38 ⟨by simp,by simp[LK]⟩ ?_
  simp only[go_sem,reduceLT,reduceEqDiff,Nat.reduceBEq,reduceAdd,reduceSub,reduceLeDiff,hr,h]
 | some y =>
  obtain⟨⟨a,b⟩,m⟩:=y;rw[hn] at h;have h:=eO h
  have ha:=Jf a
  have hb:=Jf b
  rw[RZ] at ha hb;simp only;by_cases fa:Sl.few a
  ·rw[decide_eq_true fa] at ha;by_cases fb:Sl.few b
   ·rw[decide_eq_true fb] at hb;rw[if_pos ⟨fa,fb⟩];simp only[rdB,iB,twoI] at h ⊢;refine ai rfl rfl Tryz.func38 rfl Tryz.ntmps38 ⟨by simp,by simp[LK]⟩ ?_
    simp only[go_sem,reduceLT,reduceEqDiff,Nat.reduceBEq,reduceAdd,reduceSub,reduceLeDiff,hr,h,ha,hb,hmy]
   ·rw[decide_eq_false fb] at hb;rw[if_neg fun h=>fb h.2]
    simp only[rdB,iB,twoI] at h ⊢;refine ai rfl rfl Tryz.func38 rfl Tryz.ntmps38 ⟨by simp,by simp[LK]⟩ ?_
    simp only[go_sem,reduceLT,reduceEqDiff,Nat.reduceBEq,reduceAdd,reduceSub,reduceLeDiff,hr,h,ha,hb,hmn]
  ·rw[decide_eq_false fa] at ha;rw[if_neg fun h=>fa h.1]
   simp only[rdB,iB,twoI] at h ⊢;refine ai rfl rfl Tryz.func38 rfl Tryz.ntmps38 ⟨by simp,by simp[LK]⟩ ?_
   simp only[go_sem,reduceLT,reduceEqDiff,Nat.reduceBEq,reduceAdd,reduceSub,reduceLeDiff,hr,h,ha,hmn]
theorem ln (n:Int)(f:Nat→Option Nat):(iB n).map (CV.ren f)=iB n:=rfl
theorem Ut (v:List Val):Sl.nthM v=match Sl.nthP (Sl.trim v) with
  | some (x,[])=>if Sl.few x.1∧Sl.few x.2 then some x else none
  | _=>none:=by
 unfold Sl.nthM;rw[←Sl.Mg v];unfold Sl.ic;generalize Sl.nthP (Sl.trim v)=y
 match y with
 | none=>rfl
 | some (x,[])=>rfl
 | some (x,_::_)=>rfl
theorem Nl (l:List Val)(hl:l.length≤70000000)(ht:TSh l):den K 13 [L (encL l)] []=some (.ret (nthA (Sl.nthM l)) []):=by
 have hr:Tryz.f13.results=#[.cell 2 3,.cell 3 3,.tmp 4]:=rfl
 have hc:=Pc (Sl.trim l) (Nat.le_trans (Sl.CU l) hl) (mq ht)
 have hg:goods.contains 38=true:=by kernel_rfl
 have key:∀ (a b:Int) (e:Int),den K 37 [L (encL l),.c (.fn 38 [(100000,0),(100001,0)])] [iB 0,iB 0]=some (.ret (I e) [iB a,iB b])→(e=0∨e=40) →
   den K 13 [L (encL l)] []=some (.ret (nthA (if e=0 then some (a,b) else none)) []):=by
  intro a b e h he;simp only[iB] at h;rcases he with rfl|rfl
  ·rw[if_pos rfl];unfold nthA;refine ai rfl rfl Tryz.func13 rfl Tryz.ntmps13 ⟨by simp,by simp[LK]⟩ ?_
   simp only[go_sem,reduceLT,reduceCtorEq,reduceEqDiff,Nat.reduceBEq,reduceAdd,reduceSub,reduceLeDiff,hr,h,jZ,locs,lw,bne_self_eq_false]
   first|rw[aR]|rw[aY]
   rotate_left
   ·kernel_rfl
   simp only[go_sem,reduceEqDiff,reduceSub,reduceLeDiff]
  ·rw[if_neg (by decide)]
   unfold nthA;refine ai rfl rfl Tryz.func13 rfl Tryz.ntmps13 ⟨by simp,by simp[LK]⟩ ?_
   simp only[go_sem,reduceLT,reduceCtorEq,reduceEqDiff,Nat.reduceBEq,reduceAdd,reduceSub,reduceLeDiff,hr,h,jZ,locs,lw,Int.reduceBNe]
 rw[Ut];cases hn:Sl.nthP (Sl.trim l) with
 | none =>
  rw[hn] at hc;obtain⟨m,hc⟩:=hc;exact key 0 0 40 (vX hg (by omega) (ln _) (ln _) (ln _) (ln _) hc) (.inr rfl)
 | some y =>
  obtain⟨⟨a,b⟩,m⟩:=y;rw[hn] at hc;simp only at hc;by_cases hf:Sl.few a∧Sl.few b
  ·rw[if_pos hf] at hc;have hw:=Hi hg (by omega) (ln _) (ln _) (ln _) (ln _) hc
   cases m with
   | nil =>
    have:=key a b 0 hw (.inl rfl)
    simp only;rw[if_pos hf];exact this
   | cons v m=>exact key a b 40 hw (.inr rfl)
  ·rw[if_neg hf] at hc;have hw:=vX hg (by omega) (ln _) (ln _) (ln _) (ln _) hc
   have:=key a b 40 hw (.inr rfl)
   cases m with
   | nil =>
    simp only;rw[if_neg hf];exact this
   | cons v m=>exact this
theorem zG:∀ {ws:List (List Val)},(∀ w∈ws,w≠[])→oe (encP ws)=some (ws.map encL)
 | [],_=>rfl
 | w::ws,h=>by
  have hw:=h w (by simp)
  have h1:encL w≠[]:=by cases w with
   | nil=>exact absurd rfl hw
   | cons v r=>simp[encL]
  have h2:(encL w).all (fun el=>el.length==5)=true:=gg w
  have ih:=zG (ws:=ws) fun x hx=>h x (by simp[hx])
  show oe ([.sl (encL w)]::encP ws)=_
  rw[oe];have h3:Hs [.sl (encL w)]=some (encL w):=if_pos ⟨h1,h2⟩
  rw[h3,ih];rfl
theorem De (ws:List (List Val)):(ws.map encL).flatten=encL ws.flatten:=by
 induction ws with
 | nil=>rfl
 | cons w ws ih=>rw[List.map_cons,List.flatten_cons,ih,List.flatten_cons,lP]
theorem HH (ws:List (List Val))(h:∀ w∈ws,w≠[])(hn:ws.length≤1000000000)(hf:ws.flatten.length≤1000000000) :
  den K 205 [L (encP ws)] []=some (.ret (L (encL ws.flatten)) []) :=
 eX (F:=rI) rfl (by
  unfold rI;simp only;rw[zG h];simp only;rw[De,if_pos ⟨by rw[List.length_map];exact hn,by rw[aA];exact hf⟩])
theorem Km (l:List Val)(hl:Ne.size l≤60000000):match Sl.attr l with
  | some x=>den K 172 [L (encL l)] []=some (.ret (.agg (ff x)) [])
  | none=>den K 172 [L (encL l)] []=some (.pan ey []):=by
 have hr:Tryz.f172.results=#[.cell 2 52]:=rfl
 have hll:=Ne.bD l
 have hw:=HQ l (by omega)
 have hwn:=Sl.Bv l
 have hwf:=Sl.Gw l
 have hlen:(l.filter fun v => !Sl.ar v).length≤l.length:=List.length_filter_le _ _
 have hc:=HH (Sl.words l) (fun w hw=>(Sl.JV hw).1) (by omega) (by rw[hwf];omega)
 rw[hwf] at hc;rw[Sl.Hx];generalize hm:(l.filter fun v => !Sl.ar v)=m at *
 have hmy:=fF
 have hmn:=jk
 have hn:=kz m (by omega)
 unfold Sl.Ra;cases k1:Sl.name m with
 | none =>
  rw[k1] at hn;obtain⟨q,hn⟩:=gh hn;simp only[rdB] at hn ⊢;refine ai rfl rfl Tryz.func172 rfl Tryz.ntmps172 ⟨by simp,by simp[LK]⟩ ?_
  simp only[go_sem,reduceLT,reduceCtorEq,reduceEqDiff,Nat.reduceBEq,reduceAdd,reduceSub,reduceLeDiff,aa ab ah,aa bt bF,hr,hw,hc,hn]
 | some y =>
  obtain⟨s,r⟩:=y;rw[k1] at hn;have hn:=eO hn
  have hrl:r.length≤m.length:=by
   unfold Sl.name at k1
   rw[Option.map_eq_some_iff] at k1
   obtain⟨t,_,e⟩:=k1;cases e;rw[List.length_tail];omega
  simp only;cases k2:Sl.sign [61] r with
  | none =>
   have hs:=fZ (by omega) k2
   have q0:(([]:List UInt8)==[])=true:=rfl
   simp only;cases r with
   | nil =>
    rw[if_pos rfl];have q1:(((0:Nat):Int)==0)=true:=rfl
    simp only[rdB,aQ] at hn hs ⊢;refine ai rfl rfl Tryz.func172 rfl Tryz.ntmps172 ⟨by simp,by simp[LK]⟩ ?_
    simp only[go_sem,reduceLT,reduceCtorEq,reduceEqDiff,Nat.reduceBEq,reduceAdd,reduceSub,reduceLeDiff,reduceMul,aa ab ah,aa bt bF,ao (len:=1) aK aN aH ⟨rfl,by decide,by decide⟩,af ak,hr,hw,hc,hn,hs,q0,q1,bne,hmy,aA]
   | cons v r =>
    rw[if_neg (by simp)]
    have q1:(((r.length+1:Nat):Int)==0)=false:=by rw[beq_eq_false_iff_ne];omega
    simp only[rdB] at hn hs ⊢;refine ai rfl rfl Tryz.func172 rfl Tryz.ntmps172 ⟨by simp,by simp[LK]⟩ ?_
    simp only[go_sem,reduceLT,reduceCtorEq,reduceEqDiff,Nat.reduceBEq,reduceAdd,reduceSub,reduceLeDiff,reduceMul,aa ab ah,aa bt bF,ao (len:=1) aK aN aH ⟨rfl,by decide,by decide⟩,af ak,hr,hw,hc,hn,hs,q0,q1,bne,hmn,aA]
  | some r2 =>
   have hs:=jU (by omega) k2
   have q0:(([61]:List UInt8)==[])=false:=rfl
   have hr2:r2.length≤r.length:=by
    obtain⟨v,e,_⟩:=Sl.gK k2;rw[e,List.length_cons];omega
   have t1:=dV r2 1 (by omega)
   have t6:=dV r2 6 (by omega)
   simp only;cases r2 with
   | nil =>
    show den K 172 [L (encL l)] []=some (.pan ey [])
    simp only[rdB,tokB] at hn hs t1 t6 ⊢;refine ai rfl rfl Tryz.func172 rfl Tryz.ntmps172 ⟨by simp,by simp[LK]⟩ ?_
    simp only[go_sem,reduceLT,reduceCtorEq,reduceEqDiff,Nat.reduceBEq,reduceAdd,reduceSub,reduceLeDiff,reduceMul,aa ab ah,aa bt bF,ao (len:=1) aK aN aH ⟨rfl,by decide,by decide⟩,hr,hw,hc,hn,hs,q0,bne,t1,t6,hmn]
   | cons v r3 =>
    obtain⟨k,u,c⟩:=v;have htk:=gx k u c r3 (by rw[List.length_cons] at hr2;omega)
    rw[ii] at htk;have e1:tokB 1 (.mk k u c::r3)=((k==1)&&(u.kind==1)):=rfl
    have e6:tokB 6 (.mk k u c::r3)=((k==1)&&(u.kind==6)):=rfl
    rw[e1] at t1
    rw[e6] at t6
    by_cases hu:k=1∧(u.kind=1∨u.kind=6)
    ·have q3:((k==1)&&(u.kind==1))=true∨(((k==1)&&(u.kind==1))=false∧((k==1)&&(u.kind==6))=true):=by
      obtain⟨rfl,h|h⟩:=hu
      ·left;rw[h];rfl
      ·right;rw[h];exact⟨rfl,rfl⟩
     cases r3 with
     | nil =>
      have q1:(((0:Nat):Int)==0)=true:=rfl
      have e:Sl.yK s [.mk k u c]=some (.mk 6 s u.text 0 0 []):=if_pos hu
      rw[e];simp only[rdB,aQ] at hn hs t1 t6 htk ⊢;rcases q3 with q3|⟨q3,q4⟩
      ·rw[q3] at t1
       refine ai rfl rfl Tryz.func172 rfl Tryz.ntmps172 ⟨by simp,by simp[LK]⟩ ?_
       simp only[go_sem,reduceLT,reduceCtorEq,reduceEqDiff,Nat.reduceBEq,reduceAdd,reduceSub,reduceLeDiff,reduceMul,aa ab ah,aa bt bF,ao (len:=1) aK aN aH ⟨rfl,by decide,by decide⟩,af ak,hr,hw,hc,hn,hs,q0,q1,bne,t1,htk,hmy,aA]
      ·rw[q3] at t1
       rw[q4] at t6
       refine ai rfl rfl Tryz.func172 rfl Tryz.ntmps172 ⟨by simp,by simp[LK]⟩ ?_
       simp only[go_sem,reduceLT,reduceCtorEq,reduceEqDiff,Nat.reduceBEq,reduceAdd,reduceSub,reduceLeDiff,reduceMul,aa ab ah,aa bt bF,ao (len:=1) aK aN aH ⟨rfl,by decide,by decide⟩,af ak,hr,hw,hc,hn,hs,q0,q1,bne,t1,t6,htk,hmy,aA]
     | cons z r4 =>
      have q1:(((r4.length+1:Nat):Int)==0)=false:=by rw[beq_eq_false_iff_ne];omega
      show den K 172 [L (encL l)] []=some (.pan ey [])
      simp only[rdB] at hn hs t1 t6 htk ⊢;rcases q3 with q3|⟨q3,q4⟩
      ·rw[q3] at t1
       refine ai rfl rfl Tryz.func172 rfl Tryz.ntmps172 ⟨by simp,by simp[LK]⟩ ?_
       simp only[go_sem,reduceLT,reduceCtorEq,reduceEqDiff,Nat.reduceBEq,reduceAdd,reduceSub,reduceLeDiff,reduceMul,aa ab ah,aa bt bF,ao (len:=1) aK aN aH ⟨rfl,by decide,by decide⟩,af ak,hr,hw,hc,hn,hs,q0,q1,bne,t1,htk,hmy,hmn,aA]
      ·rw[q3] at t1
       rw[q4] at t6
       refine ai rfl rfl Tryz.func172 rfl Tryz.ntmps172 ⟨by simp,by simp[LK]⟩ ?_
       simp only[go_sem,reduceLT,reduceCtorEq,reduceEqDiff,Nat.reduceBEq,reduceAdd,reduceSub,reduceLeDiff,reduceMul,aa ab ah,aa bt bF,ao (len:=1) aK aN aH ⟨rfl,by decide,by decide⟩,af ak,hr,hw,hc,hn,hs,q0,q1,bne,t1,t6,htk,hmy,hmn,aA]
    ·have q3:((k==1)&&(u.kind==1))=false:=by
      rw[Bool.and_eq_false_iff,beq_eq_false_iff_ne,beq_eq_false_iff_ne];by_cases h1:k=1
      ·exact .inr fun h2=>hu ⟨h1,.inl h2⟩
      ·exact .inl h1
     have q4:((k==1)&&(u.kind==6))=false:=by
      rw[Bool.and_eq_false_iff,beq_eq_false_iff_ne,beq_eq_false_iff_ne];by_cases h1:k=1
      ·exact .inr fun h2=>hu ⟨h1,.inr h2⟩
      ·exact .inl h1
     rw[q3] at t1
     rw[q4] at t6
     have e:Sl.yK s (.mk k u c::r3)=none:=by
      cases r3 with
      | nil=>exact if_neg hu
      | cons _ _=>rfl
     rw[e];simp only[rdB] at hn hs t1 t6 htk ⊢;refine ai rfl rfl Tryz.func172 rfl Tryz.ntmps172 ⟨by simp,by simp[LK]⟩ ?_
     simp only[go_sem,reduceLT,reduceCtorEq,reduceEqDiff,Nat.reduceBEq,reduceAdd,reduceSub,reduceLeDiff,reduceMul,aa ab ah,aa bt bF,ao (len:=1) aK aN aH ⟨rfl,by decide,by decide⟩,hr,hw,hc,hn,hs,q0,bne,t1,t6,hmn]
attribute [local go_sem] Oq aF bh cX bc gG TY Oo Bx iy lH lk
theorem KE (g : List Val → Option (Sim × List Val))(c r : List Val) : (match g (Sl.trim c) with
       | some (x,[])=>if x.kind=11 then none else some (Sim.mk 11 [] [] 0 0 [x],r)
       | _=>none)=(notG g c).map fun x=>(x,r):=by
  unfold notG;generalize g (Sl.trim c)=y
  match y with
  | none=>rfl
  | some (x,[]) =>
    simp only;split<;>rfl
  | some (x,_::_)=>rfl
theorem Ih (g:List Val→Option (Sim×List Val)){l c r:List Val}{t:Tok}(h:Sl.eM 5 l=some ((t,c),r)) :
  Sl.colon g l=if t.text=Sl.nthT then(Sl.nthM c).map fun x=>(Sim.mk 8 [] [] x.1 x.2 [],r) else if t.text=Sl.notT then(notG g c).map fun x=>(x,r) else none:=by
 unfold Sl.colon;rw[h];simp only;split
 ·rfl
 ·split
  ·exact KE g c r
  ·rfl
theorem IQ (g:List Val→Option (Sim×List Val)){l:List Val}(h:Sl.eM 5 l=none) :
  Sl.colon g l=match Sl.name l with
  | some (s,r)=>(Sl.fu s).map fun x=>(x,r)
  | none=>none:=by
 unfold Sl.colon;rw[h];rfl
theorem sG (k:Int)(t:Tok)(c:List Val):kX k t c=[.pv (.int .i64 k),.pv (.int .i64 t.kind),.pv (.str t.text),.pv (.int .i64 t.n),.pv (.sl (encL c))]:=rfl
theorem Lb (g:List Val→Option (Sim×List Val))(l:List Val)(i:Nat)(hl:l.length≤100000000)(hsz:Ne.size l≤100000000)(hg:∀ t c,Val.mk 5 t c∈l.drop i→tN g c)(t:Tok)(c r:List Val)
  (hv:Sl.eM 5 (l.drop i)=some ((t,c),r)):nc g l i:=by
 have hr:Tryz.f143.results=#[.cell 2 52]:=rfl
 obtain⟨va,vd,vm⟩:=tu l i false 5 hl t c r hv;have hi:i<l.length:=(List.getElem?_eq_some_iff.1 vm).1
 simp only[rb0,sG] at va
 unfold nc;rw[Ih g hv];unfold SRes;by_cases h1:t.text=Sl.nthT
 ·have hc:c.length≤100000000:=Nat.le_trans (Nat.le_trans (Ne.bD c) (Nat.le_of_lt (rT vm))) hsz
  have hn:=PK c hc
  have e1:(t.text==[110,116,104,45,99,104,105,108,100])=true:=by rw[h1];rfl
  have e2:(t.text==[110,111,116])=false:=by rw[h1];rfl
  rw[if_pos h1];cases hm:Sl.nthM c with
  | none =>
   rw[hm] at hn;unfold nthA at hn;simp only at hn;refine⟨.mk 8 [] [] 0 0 [],i+1,?_⟩
   simp only[rb0,aQ];refine ai rfl rfl Tryz.func143 rfl Tryz.ntmps143 ⟨by simp,by simp[LK]⟩ ?_
   simp only[go_sem,reduceLT,reduceCtorEq,reduceEqDiff,Nat.reduceBEq,reduceAdd,reduceSub,reduceLeDiff,aa ab ah,hr,va,hn,e1,e2,TV.flat,Int.reduceBEq]
  | some x =>
   obtain⟨a,b⟩:=x;rw[hm] at hn;unfold nthA at hn;simp only at hn;refine⟨i+1,vd,by omega,by omega,?_⟩
   simp only[rb0,aQ];refine ai rfl rfl Tryz.func143 rfl Tryz.ntmps143 ⟨by simp,by simp[LK]⟩ ?_
   simp only[go_sem,reduceLT,reduceCtorEq,reduceEqDiff,Nat.reduceBEq,reduceAdd,reduceSub,reduceLeDiff,aa ab ah,hr,va,hn,e1,e2,TV.flat,Int.reduceBEq]
 ·have e1:(t.text==[110,116,104,45,99,104,105,108,100])=false:=by rw[beq_eq_false_iff_ne];exact h1
  rw[if_neg h1];by_cases h2:t.text=Sl.notT
  ·have e2:(t.text==[110,111,116])=true:=by rw[h2];rfl
   rw[if_pos h2];obtain⟨y,ok,hn,hy⟩:=hg t c (by rw[Sl.nP hv];simp)
   cases hm:notG g c with
   | none =>
    rw[hm] at hy;simp only at hy;subst hy;refine⟨y,i+1,?_⟩
    obtain⟨k,n,v,a,b,yl⟩:=y;cases yl
    all_goals
     simp only[rb0,aQ,cO] at hn ⊢;refine ai rfl rfl Tryz.func143 rfl Tryz.ntmps143 ⟨by simp,by simp[LK]⟩ ?_
     simp only[go_sem,reduceLT,reduceCtorEq,reduceEqDiff,Nat.reduceBEq,reduceAdd,reduceSub,reduceLeDiff,aa ab ah,hr,va,hn,e1,e2,TV.flat,Int.reduceBEq]
   | some x =>
    rw[hm] at hy;simp only at hy;obtain⟨rfl,rfl⟩:=hy;refine⟨i+1,vd,by omega,by omega,?_⟩
    obtain⟨k,n,v,a,b,yl⟩:=y;cases yl
    all_goals
     simp only[rb0,aQ,cO] at hn ⊢;refine ai rfl rfl Tryz.func143 rfl Tryz.ntmps143 ⟨by simp,by simp[LK]⟩ ?_
     simp only[go_sem,reduceLT,reduceCtorEq,reduceEqDiff,Nat.reduceBEq,reduceAdd,reduceSub,reduceLeDiff,aa ab ah,hr,va,hn,e1,e2,TV.flat,Int.reduceBEq]
  ·have e2:(t.text==[110,111,116])=false:=by rw[beq_eq_false_iff_ne];exact h2
   rw[if_neg h2];refine⟨.mk 0 [] [] 0 0 [],i+1,?_⟩
   simp only[rb0,aQ];refine ai rfl rfl Tryz.func143 rfl Tryz.ntmps143 ⟨by simp,by simp[LK]⟩ ?_
   simp only[go_sem,reduceLT,reduceCtorEq,reduceEqDiff,Nat.reduceBEq,reduceAdd,reduceSub,reduceLeDiff,aa ab ah,hr,va,e1,e2,Int.reduceBEq]
theorem mc (g:List Val→Option (Sim×List Val))(l:List Val)(i:Nat)(hl:l.length≤100000000)(hv:Sl.eM 5 (l.drop i)=none):nc g l i:=by
 have hr:Tryz.f143.results=#[.cell 2 52]:=rfl
 have va:=ED l i false 5 hl hv
 have z05:((0:Int)==5)=false:=rfl
 have z00:((0:Int)==0)=true:=rfl
 simp only[rb0] at va
 unfold nc;rw[IQ g hv];unfold SRes;cases hn:Sl.name (l.drop i) with
 | none =>
  have nm:=vZ l i false hl hn
  simp only[rb0] at nm
  refine⟨.mk 0 [] [] 0 0 [],i,?_⟩
  simp only[rb0,aQ];refine ai rfl rfl Tryz.func143 rfl Tryz.ntmps143 ⟨by simp,by simp[LK]⟩ ?_
  simp only[go_sem,reduceLT,reduceCtorEq,reduceEqDiff,Nat.reduceBEq,reduceAdd,reduceSub,reduceLeDiff,aa ab ah,hr,va,z05,z00,nm]
 | some y =>
  obtain⟨s,r⟩:=y;obtain⟨nm,nd,ni⟩:=pN l i false hl s r hn;simp only[rb0] at nm
  have key:∀ x,Sl.fu s=some x→den K 143 [P0] [rb0 l i false]=some (.ret (.agg (ff x)) [rb0 l (i+1) false]):=by
   intro x hx;unfold Sl.fu at hx;by_cases h0:s=Sl.oY
   ·subst h0;have hx:some (Sim.mk 7 Sl.oY [] 0 0 [])=some x:=hx
    cases hx
    simp only[rb0,aQ];simp only[Sl.oY] at nm ⊢
    have q0:(([104,111,118,101,114]:List UInt8)==[104,111,118,101,114])=true:=rfl
    refine ai rfl rfl Tryz.func143 rfl Tryz.ntmps143 ⟨by simp,by simp[LK]⟩ ?_
    simp only[go_sem,reduceLT,reduceCtorEq,reduceEqDiff,Nat.reduceBEq,reduceAdd,reduceSub,reduceLeDiff,aa ab ah,hr,va,z05,z00,nm,q0]
   ·have e0:(s==[104,111,118,101,114])=false:=by rw[beq_eq_false_iff_ne];exact h0
    by_cases h1:s=Sl.ph
    ·subst h1;have hx:some (Sim.mk 7 Sl.ph [] 0 0 [])=some x:=hx
     cases hx
     simp only[rb0,aQ];simp only[Sl.ph] at nm ⊢
     have q0:(([102,111,99,117,115]:List UInt8)==[104,111,118,101,114])=false:=rfl
     have q1:(([102,111,99,117,115]:List UInt8)==[102,111,99,117,115])=true:=rfl
     refine ai rfl rfl Tryz.func143 rfl Tryz.ntmps143 ⟨by simp,by simp[LK]⟩ ?_
     simp only[go_sem,reduceLT,reduceCtorEq,reduceEqDiff,Nat.reduceBEq,reduceAdd,reduceSub,reduceLeDiff,aa ab ah,hr,va,z05,z00,nm,q0,q1]
    ·have e1:(s==[102,111,99,117,115])=false:=by rw[beq_eq_false_iff_ne];exact h1
     by_cases h2:s=Sl.mN
     ·subst h2;have hx:some (Sim.mk 7 Sl.mN [] 0 0 [])=some x:=hx
      cases hx
      simp only[rb0,aQ];simp only[Sl.mN] at nm ⊢
      have q0:(([97,99,116,105,118,101]:List UInt8)==[104,111,118,101,114])=false:=rfl
      have q1:(([97,99,116,105,118,101]:List UInt8)==[102,111,99,117,115])=false:=rfl
      have q2:(([97,99,116,105,118,101]:List UInt8)==[97,99,116,105,118,101])=true:=rfl
      refine ai rfl rfl Tryz.func143 rfl Tryz.ntmps143 ⟨by simp,by simp[LK]⟩ ?_
      simp only[go_sem,reduceLT,reduceCtorEq,reduceEqDiff,Nat.reduceBEq,reduceAdd,reduceSub,reduceLeDiff,aa ab ah,hr,va,z05,z00,nm,q0,q1,q2]
     ·have e2:(s==[97,99,116,105,118,101])=false:=by rw[beq_eq_false_iff_ne];exact h2
      by_cases h3:s=Sl.ld
      ·subst h3;have hx:some (Sim.mk 7 Sl.ld [] 0 0 [])=some x:=hx
       cases hx
       simp only[rb0,aQ];simp only[Sl.ld] at nm ⊢
       have q0:(([99,104,101,99,107,101,100]:List UInt8)==[104,111,118,101,114])=false:=rfl
       have q1:(([99,104,101,99,107,101,100]:List UInt8)==[102,111,99,117,115])=false:=rfl
       have q2:(([99,104,101,99,107,101,100]:List UInt8)==[97,99,116,105,118,101])=false:=rfl
       have q3:(([99,104,101,99,107,101,100]:List UInt8)==[99,104,101,99,107,101,100])=true:=rfl
       refine ai rfl rfl Tryz.func143 rfl Tryz.ntmps143 ⟨by simp,by simp[LK]⟩ ?_
       simp only[go_sem,reduceLT,reduceCtorEq,reduceEqDiff,Nat.reduceBEq,reduceAdd,reduceSub,reduceLeDiff,aa ab ah,hr,va,z05,z00,nm,q0,q1,q2,q3]
      ·have e3:(s==[99,104,101,99,107,101,100])=false:=by rw[beq_eq_false_iff_ne];exact h3
       by_cases h4:s=Sl.qt
       ·subst h4;have hx:some (Sim.mk 9 [] [] 0 0 [])=some x:=hx
        cases hx
        simp only[rb0,aQ];simp only[Sl.qt] at nm ⊢
        have q0:(([114,111,111,116]:List UInt8)==[104,111,118,101,114])=false:=rfl
        have q1:(([114,111,111,116]:List UInt8)==[102,111,99,117,115])=false:=rfl
        have q2:(([114,111,111,116]:List UInt8)==[97,99,116,105,118,101])=false:=rfl
        have q3:(([114,111,111,116]:List UInt8)==[99,104,101,99,107,101,100])=false:=rfl
        have q4:(([114,111,111,116]:List UInt8)==[114,111,111,116])=true:=rfl
        refine ai rfl rfl Tryz.func143 rfl Tryz.ntmps143 ⟨by simp,by simp[LK]⟩ ?_
        simp only[go_sem,reduceLT,reduceCtorEq,reduceEqDiff,Nat.reduceBEq,reduceAdd,reduceSub,reduceLeDiff,aa ab ah,hr,va,z05,z00,nm,q0,q1,q2,q3,q4]
       ·have e4:(s==[114,111,111,116])=false:=by rw[beq_eq_false_iff_ne];exact h4
        by_cases h5:s=Sl.mR
        ·subst h5;have hx:some (Sim.mk 10 [] [] 0 0 [])=some x:=hx
         cases hx
         simp only[rb0,aQ];simp only[Sl.mR] at nm ⊢
         have q0:(([101,109,112,116,121]:List UInt8)==[104,111,118,101,114])=false:=rfl
         have q1:(([101,109,112,116,121]:List UInt8)==[102,111,99,117,115])=false:=rfl
         have q2:(([101,109,112,116,121]:List UInt8)==[97,99,116,105,118,101])=false:=rfl
         have q3:(([101,109,112,116,121]:List UInt8)==[99,104,101,99,107,101,100])=false:=rfl
         have q4:(([101,109,112,116,121]:List UInt8)==[114,111,111,116])=false:=rfl
         have q5:(([101,109,112,116,121]:List UInt8)==[101,109,112,116,121])=true:=rfl
         refine ai rfl rfl Tryz.func143 rfl Tryz.ntmps143 ⟨by simp,by simp[LK]⟩ ?_
         simp only[go_sem,reduceLT,reduceCtorEq,reduceEqDiff,Nat.reduceBEq,reduceAdd,reduceSub,reduceLeDiff,aa ab ah,hr,va,z05,z00,nm,q0,q1,q2,q3,q4,q5]
        ·have e5:(s==[101,109,112,116,121])=false:=by rw[beq_eq_false_iff_ne];exact h5
         by_cases h6:s=Sl.wZ
         ·subst h6;have hx:some (Sim.mk 8 [] [] 0 1 [])=some x:=hx
          cases hx
          simp only[rb0,aQ];simp only[Sl.wZ] at nm ⊢
          have q0:(([102,105,114,115,116,45,99,104,105,108,100]:List UInt8)==[104,111,118,101,114])=false:=rfl
          have q1:(([102,105,114,115,116,45,99,104,105,108,100]:List UInt8)==[102,111,99,117,115])=false:=rfl
          have q2:(([102,105,114,115,116,45,99,104,105,108,100]:List UInt8)==[97,99,116,105,118,101])=false:=rfl
          have q3:(([102,105,114,115,116,45,99,104,105,108,100]:List UInt8)==[99,104,101,99,107,101,100])=false:=rfl
          have q4:(([102,105,114,115,116,45,99,104,105,108,100]:List UInt8)==[114,111,111,116])=false:=rfl
          have q5:(([102,105,114,115,116,45,99,104,105,108,100]:List UInt8)==[101,109,112,116,121])=false:=rfl
          have q6:(([102,105,114,115,116,45,99,104,105,108,100]:List UInt8)==[102,105,114,115,116,45,99,104,105,108,100])=true:=rfl
          refine ai rfl rfl Tryz.func143 rfl Tryz.ntmps143 ⟨by simp,by simp[LK]⟩ ?_
          simp only[go_sem,reduceLT,reduceCtorEq,reduceEqDiff,Nat.reduceBEq,reduceAdd,reduceSub,reduceLeDiff,aa ab ah,hr,va,z05,z00,nm,q0,q1,q2,q3,q4,q5,q6]
         ·have e6:(s==[102,105,114,115,116,45,99,104,105,108,100])=false:=by rw[beq_eq_false_iff_ne];exact h6
          rw[if_neg (show ¬ Sl.jE s by rintro (h|h|h|h)<;>contradiction),if_neg h4,if_neg h5,if_neg h6] at hx
          cases hx
  simp only;cases hx:Sl.fu s with
  | some x=>exact⟨i+1,nd,by omega,by omega,key x hx⟩
  | none =>
   unfold Sl.fu at hx;split at hx
   ·cases hx
   split at hx
   ·cases hx
   split at hx
   ·cases hx
   split at hx
   ·cases hx
   rename_i h0 h4 h5 h6;refine⟨.mk 0 [] [] 0 0 [],i+1,?_⟩
   simp only[rb0,aQ];have e0:(s==[104,111,118,101,114])=false:=by rw[beq_eq_false_iff_ne];exact fun h=>h0 (.inl h)
   have e1:(s==[102,111,99,117,115])=false:=by rw[beq_eq_false_iff_ne];exact fun h=>h0 (.inr (.inl h))
   have e2:(s==[97,99,116,105,118,101])=false:=by rw[beq_eq_false_iff_ne];exact fun h=>h0 (.inr (.inr (.inl h)))
   have e3:(s==[99,104,101,99,107,101,100])=false:=by rw[beq_eq_false_iff_ne];exact fun h=>h0 (.inr (.inr (.inr h)))
   have e4:(s==[114,111,111,116])=false:=by rw[beq_eq_false_iff_ne];exact h4
   have e5:(s==[101,109,112,116,121])=false:=by rw[beq_eq_false_iff_ne];exact h5
   have e6:(s==[102,105,114,115,116,45,99,104,105,108,100])=false:=by rw[beq_eq_false_iff_ne];exact h6
   refine ai rfl rfl Tryz.func143 rfl Tryz.ntmps143 ⟨by simp,by simp[LK]⟩ ?_
   simp only[go_sem,reduceLT,reduceCtorEq,reduceEqDiff,Nat.reduceBEq,reduceAdd,reduceSub,reduceLeDiff,aa ab ah,hr,va,z05,z00,nm,e0,e1,e2,e3,e4,e5,e6]
theorem JY (g:List Val→Option (Sim×List Val))(l:List Val)(i:Nat)(hl:l.length≤100000000)(hsz:Ne.size l≤100000000)(hg:∀ t c,Val.mk 5 t c∈l.drop i→tN g c):nc g l i:=by
 cases hv:Sl.eM 5 (l.drop i) with
 | none=>exact mc g l i hl hv
 | some x =>
  obtain⟨⟨t,c⟩,r⟩:=x;exact Lb g l i hl hsz hg t c r hv
attribute [local go_sem] wX cV pb sy ag gp Rc NS
def jp (g:List Val→Option (Sim×List Val))(l:List Val):Option (Sim×List Val) :=
  match Sl.tokK 4 l with
  | some t=>some (.mk 3 t.text [] 0 0 [],l.tail)
  | none =>
  match Sl.sign [46] l with
  | some r=>(Sl.name r).map fun x=>(.mk 4 x.1 [] 0 0 [],x.2)
  | none =>
  match Sl.sign [58] l with
  | some r=>Sl.colon g r
  | none =>
  match Sl.eM 3 l with
  | some x=>(Sl.attr x.1.2).map fun y=>(y,x.2)
  | none=>none
theorem rN (g:List Val→Option (Sim×List Val))(l:List Val):iw g false l=jp g l:=rfl
theorem uC (g:List Val→Option (Sim×List Val))(l:List Val)(h1:Sl.tokK 1 l=none)(h2:Sl.sign [42] l=none):iw g true l=jp g l:=by
 unfold iw;simp only[h1,h2,if_true];rfl
def Front (l:List Val)(i:Nat)(first:Bool):Prop:=first=false∨(Sl.tokK 1 (l.drop i)=none∧Sl.sign [42] (l.drop i)=none)
theorem EA (l:List Val)(i:Nat)(first:Bool)(hl:l.length≤100000000)(hf:Front l i first)(t:Tok)(ht:Sl.tokK 4 (l.drop i)=some t) :
  den K 95 [P0,B first] [rb0 l i false]=some (.ret (.agg (ff (.mk 3 t.text [] 0 0 []))) [rb0 l (i+1) false])∧i<l.length:=by
 have hr:Tryz.f95.results=#[.cell 4 52]:=rfl
 obtain⟨h1,h2⟩:=xY ht;have hi:=IK ht
 refine⟨?_,hi⟩
 have tk:=eG l i false 4 hl
 rw[h1] at tk
 have e4:(t.kind==4)=true:=by rw[h2];rfl
 have hw:IntKind.i64.wrap ((i:Int)+1)=((i+1:Nat):Int):=aX i (by omega)
 simp only[rb0,aQ] at tk ⊢
 rcases hf with rfl|⟨hf1,hf2⟩
 ·refine ai rfl rfl Tryz.func95 rfl Tryz.ntmps95 ⟨by simp,by simp[LK]⟩ ?_
  simp only[go_sem,reduceLT,reduceCtorEq,reduceEqDiff,Nat.reduceBEq,reduceAdd,reduceSub,reduceLeDiff,aa ab ah,hr,tk,e4,hw]
 ·cases first
  ·refine ai rfl rfl Tryz.func95 rfl Tryz.ntmps95 ⟨by simp,by simp[LK]⟩ ?_
   simp only[go_sem,reduceLT,reduceCtorEq,reduceEqDiff,Nat.reduceBEq,reduceAdd,reduceSub,reduceLeDiff,aa ab ah,hr,tk,e4,hw]
  ·have ft:=eG l i false 1 hl
   rw[gQ hf1] at ft
   have fs:=gf l i false [42] hl hf2
   simp only[rb0,Ne.tok0] at ft fs
   refine ai rfl rfl Tryz.func95 rfl Tryz.ntmps95 ⟨by simp,by simp[LK]⟩ ?_
   simp only[go_sem,reduceLT,reduceCtorEq,reduceEqDiff,Nat.reduceBEq,reduceAdd,reduceSub,reduceLeDiff,aa ab ah,hr,ft,fs,tk,e4,hw,Int.reduceBEq]
theorem GW (l:List Val)(i:Nat)(first:Bool)(hl:l.length≤100000000)(hf:Front l i first)(h4:Sl.tokK 4 (l.drop i)=none)(r:List Val)(hs:Sl.sign [46] (l.drop i)=some r)(s:List UInt8)(r2:List Val)(hn:Sl.name r=some (s,r2)) :
  den K 95 [P0,B first] [rb0 l i false]=some (.ret (.agg (ff (.mk 4 s [] 0 0 []))) [rb0 l (i+2) false])∧l.drop (i+2)=r2∧i+1<l.length:=by
 have hr:Tryz.f95.results=#[.cell 4 52]:=rfl
 have tk:=eG l i false 4 hl
 rw[gQ h4] at tk
 simp only[rb0,Ne.tok0] at tk
 obtain⟨sa,sd,si⟩:=iY l i false [46] hl r hs;obtain⟨na,nd,ni⟩:=pN l (i+1) false hl s r2 (by rw[sd];exact hn)
 refine⟨?_,nd,ni⟩
 simp only[rb0,aQ] at sa na ⊢
 rcases hf with rfl|⟨hf1,hf2⟩
 ·refine ai rfl rfl Tryz.func95 rfl Tryz.ntmps95 ⟨by simp,by simp[LK]⟩ ?_
  simp only[go_sem,reduceLT,reduceCtorEq,reduceEqDiff,Nat.reduceBEq,reduceAdd,reduceSub,reduceLeDiff,aa ab ah,hr,tk,sa,na,Int.reduceBEq]
 ·cases first
  ·refine ai rfl rfl Tryz.func95 rfl Tryz.ntmps95 ⟨by simp,by simp[LK]⟩ ?_
   simp only[go_sem,reduceLT,reduceCtorEq,reduceEqDiff,Nat.reduceBEq,reduceAdd,reduceSub,reduceLeDiff,aa ab ah,hr,tk,sa,na,Int.reduceBEq]
  ·have ft:=eG l i false 1 hl
   rw[gQ hf1] at ft
   have fs:=gf l i false [42] hl hf2
   simp only[rb0,Ne.tok0] at ft fs
   refine ai rfl rfl Tryz.func95 rfl Tryz.ntmps95 ⟨by simp,by simp[LK]⟩ ?_
   simp only[go_sem,reduceLT,reduceCtorEq,reduceEqDiff,Nat.reduceBEq,reduceAdd,reduceSub,reduceLeDiff,aa ab ah,hr,ft,fs,tk,sa,na,Int.reduceBEq]
theorem Dh (l:List Val)(i:Nat)(first:Bool)(hl:l.length≤100000000)(hf:Front l i first)(h4:Sl.tokK 4 (l.drop i)=none)(r:List Val)(hs:Sl.sign [46] (l.drop i)=some r)(hn:Sl.name r=none) :
  den K 95 [P0,B first] [rb0 l i false]=some (.ret (.agg (ff (.mk 4 [] [] 0 0 []))) [rb0 l (i+1) true]):=by
 have hr:Tryz.f95.results=#[.cell 4 52]:=rfl
 have tk:=eG l i false 4 hl
 rw[gQ h4] at tk
 simp only[rb0,Ne.tok0] at tk
 obtain⟨sa,sd,si⟩:=iY l i false [46] hl r hs;have na:=vZ l (i+1) false hl (by rw[sd];exact hn)
 simp only[rb0,aQ] at sa na ⊢
 rcases hf with rfl|⟨hf1,hf2⟩
 ·refine ai rfl rfl Tryz.func95 rfl Tryz.ntmps95 ⟨by simp,by simp[LK]⟩ ?_
  simp only[go_sem,reduceLT,reduceCtorEq,reduceEqDiff,Nat.reduceBEq,reduceAdd,reduceSub,reduceLeDiff,aa ab ah,hr,tk,sa,na,Int.reduceBEq]
 ·cases first
  ·refine ai rfl rfl Tryz.func95 rfl Tryz.ntmps95 ⟨by simp,by simp[LK]⟩ ?_
   simp only[go_sem,reduceLT,reduceCtorEq,reduceEqDiff,Nat.reduceBEq,reduceAdd,reduceSub,reduceLeDiff,aa ab ah,hr,tk,sa,na,Int.reduceBEq]
  ·have ft:=eG l i false 1 hl
   rw[gQ hf1] at ft
   have fs:=gf l i false [42] hl hf2
   simp only[rb0,Ne.tok0] at ft fs
   refine ai rfl rfl Tryz.func95 rfl Tryz.ntmps95 ⟨by simp,by simp[LK]⟩ ?_
   simp only[go_sem,reduceLT,reduceCtorEq,reduceEqDiff,Nat.reduceBEq,reduceAdd,reduceSub,reduceLeDiff,aa ab ah,hr,ft,fs,tk,sa,na,Int.reduceBEq]
theorem gu (l:List Val)(i:Nat)(first:Bool)(hl:l.length≤100000000)(hf:Front l i first)(h4:Sl.tokK 4 (l.drop i)=none)(h5:Sl.sign [46] (l.drop i)=none)(r:List Val)(hs:Sl.sign [58] (l.drop i)=some r)(x:Sim)(j:Nat)(bad:Bool)(hc:den K 143 [P0] [rb0 l (i+1) false]=some (.ret (.agg (ff x)) [rb0 l j bad])) :
  den K 95 [P0,B first] [rb0 l i false]=some (.ret (.agg (ff x)) [rb0 l j bad]):=by
 have hr:Tryz.f95.results=#[.cell 4 52]:=rfl
 have tk:=eG l i false 4 hl
 rw[gQ h4] at tk
 simp only[rb0,Ne.tok0] at tk
 have s1:=gf l i false [46] hl h5
 simp only[rb0] at s1
 obtain⟨sa,sd,si⟩:=iY l i false [58] hl r hs;obtain⟨k,n,v,a,b,xl⟩:=x;cases xl
 all_goals
  simp only[rb0,aQ,cO] at sa hc ⊢
  rcases hf with rfl|⟨hf1,hf2⟩
  ·refine ai rfl rfl Tryz.func95 rfl Tryz.ntmps95 ⟨by simp,by simp[LK]⟩ ?_
   simp only[go_sem,reduceLT,reduceCtorEq,reduceEqDiff,Nat.reduceBEq,reduceAdd,reduceSub,reduceLeDiff,aa ab ah,hr,tk,s1,sa,hc,Int.reduceBEq]
  ·cases first
   ·refine ai rfl rfl Tryz.func95 rfl Tryz.ntmps95 ⟨by simp,by simp[LK]⟩ ?_
    simp only[go_sem,reduceLT,reduceCtorEq,reduceEqDiff,Nat.reduceBEq,reduceAdd,reduceSub,reduceLeDiff,aa ab ah,hr,tk,s1,sa,hc,Int.reduceBEq]
   ·have ft:=eG l i false 1 hl
    rw[gQ hf1] at ft
    have fs:=gf l i false [42] hl hf2
    simp only[rb0,Ne.tok0] at ft fs
    refine ai rfl rfl Tryz.func95 rfl Tryz.ntmps95 ⟨by simp,by simp[LK]⟩ ?_
    simp only[go_sem,reduceLT,reduceCtorEq,reduceEqDiff,Nat.reduceBEq,reduceAdd,reduceSub,reduceLeDiff,aa ab ah,hr,ft,fs,tk,s1,sa,hc,Int.reduceBEq]
theorem Dl (l:List Val)(i:Nat)(first:Bool)(hl:l.length≤100000000)(hf:Front l i first)(h4:Sl.tokK 4 (l.drop i)=none)(h5:Sl.sign [46] (l.drop i)=none)(h6:Sl.sign [58] (l.drop i)=none)(t:Tok)(c r:List Val)(hv:Sl.eM 3 (l.drop i)=some ((t,c),r))(x:Sim)(ok:Bool)(ha:den K 145 [L (encL c)] []=some (.ret (.tup [.agg (ff x),.c (.pv (.bool ok))]) [])) :
  den K 95 [P0,B first] [rb0 l i false]=some (.ret (.agg (ff x)) [rb0 l (i+1) (!ok)]):=by
 have hr:Tryz.f95.results=#[.cell 4 52]:=rfl
 have tk:=eG l i false 4 hl
 rw[gQ h4] at tk
 simp only[rb0,Ne.tok0] at tk
 have s1:=gf l i false [46] hl h5
 simp only[rb0] at s1
 have s2:=gf l i false [58] hl h6
 simp only[rb0] at s2
 obtain⟨va,vd,vm⟩:=tu l i false 3 hl t c r hv;obtain⟨k,n,v,a,b,xl⟩:=x;cases xl
 all_goals
  cases ok
  all_goals
   simp only[rb0,aQ,cO,sG] at va ha ⊢
   rcases hf with rfl|⟨hf1,hf2⟩
   ·refine ai rfl rfl Tryz.func95 rfl Tryz.ntmps95 ⟨by simp,by simp[LK]⟩ ?_
    simp only[go_sem,reduceLT,reduceCtorEq,reduceEqDiff,Nat.reduceBEq,reduceAdd,reduceSub,reduceLeDiff,aa ab ah,hr,tk,s1,s2,va,ha,TV.flat,Int.reduceBEq,Int.reduceBNe]
   ·cases first
    ·refine ai rfl rfl Tryz.func95 rfl Tryz.ntmps95 ⟨by simp,by simp[LK]⟩ ?_
     simp only[go_sem,reduceLT,reduceCtorEq,reduceEqDiff,Nat.reduceBEq,reduceAdd,reduceSub,reduceLeDiff,aa ab ah,hr,tk,s1,s2,va,ha,TV.flat,Int.reduceBEq,Int.reduceBNe]
    ·have ft:=eG l i false 1 hl
     rw[gQ hf1] at ft
     have fs:=gf l i false [42] hl hf2
     simp only[rb0,Ne.tok0] at ft fs
     refine ai rfl rfl Tryz.func95 rfl Tryz.ntmps95 ⟨by simp,by simp[LK]⟩ ?_
     simp only[go_sem,reduceLT,reduceCtorEq,reduceEqDiff,Nat.reduceBEq,reduceAdd,reduceSub,reduceLeDiff,aa ab ah,hr,ft,fs,tk,s1,s2,va,ha,TV.flat,Int.reduceBEq,Int.reduceBNe]
theorem Ew (l:List Val)(i:Nat)(first:Bool)(hl:l.length≤100000000)(hf:Front l i first)(h4:Sl.tokK 4 (l.drop i)=none)(h5:Sl.sign [46] (l.drop i)=none)(h6:Sl.sign [58] (l.drop i)=none)(hv:Sl.eM 3 (l.drop i)=none) :
  ∃ x:Sim,den K 95 [P0,B first] [rb0 l i false]=some (.ret (.agg (ff x)) [rb0 l i true]):=by
 have hr:Tryz.f95.results=#[.cell 4 52]:=rfl
 have tk:=eG l i false 4 hl
 rw[gQ h4] at tk
 simp only[rb0,Ne.tok0] at tk
 have s1:=gf l i false [46] hl h5
 simp only[rb0] at s1
 have s2:=gf l i false [58] hl h6
 simp only[rb0] at s2
 have va:=ED l i false 3 hl hv
 obtain⟨x,ha⟩:=Lv;refine⟨x,?_⟩
 obtain⟨k,n,v,a,b,xl⟩:=x;cases xl
 all_goals
  simp only[rb0,aQ,cO] at va ha ⊢
  rcases hf with rfl|⟨hf1,hf2⟩
  ·refine ai rfl rfl Tryz.func95 rfl Tryz.ntmps95 ⟨by simp,by simp[LK]⟩ ?_
   simp only[go_sem,reduceLT,reduceCtorEq,reduceEqDiff,Nat.reduceBEq,reduceAdd,reduceSub,reduceLeDiff,aa ab ah,hr,tk,s1,s2,va,ha,TV.flat,Int.reduceBEq,Int.reduceBNe]
  ·cases first
   ·refine ai rfl rfl Tryz.func95 rfl Tryz.ntmps95 ⟨by simp,by simp[LK]⟩ ?_
    simp only[go_sem,reduceLT,reduceCtorEq,reduceEqDiff,Nat.reduceBEq,reduceAdd,reduceSub,reduceLeDiff,aa ab ah,hr,tk,s1,s2,va,ha,TV.flat,Int.reduceBEq,Int.reduceBNe]
   ·have ft:=eG l i false 1 hl
    rw[gQ hf1] at ft
    have fs:=gf l i false [42] hl hf2
    simp only[rb0,Ne.tok0] at ft fs
    refine ai rfl rfl Tryz.func95 rfl Tryz.ntmps95 ⟨by simp,by simp[LK]⟩ ?_
    simp only[go_sem,reduceLT,reduceCtorEq,reduceEqDiff,Nat.reduceBEq,reduceAdd,reduceSub,reduceLeDiff,aa ab ah,hr,ft,fs,tk,s1,s2,va,ha,TV.flat,Int.reduceBEq,Int.reduceBNe]
theorem Gg (l:List Val)(i:Nat)(hl:l.length≤100000000)(t:Tok)(ht:Sl.tokK 1 (l.drop i)=some t)(hs:t.text.length<1000000000) :
  den K 95 [P0,B true] [rb0 l i false]=some (.ret (.agg (ff (.mk 2 (Sl.low t.text) [] 0 0 []))) [rb0 l (i+1) false])∧l.drop (i+1)=(l.drop i).tail∧i<l.length:=by
 have hr:Tryz.f95.results=#[.cell 4 52]:=rfl
 obtain⟨h1,h2⟩:=xY ht;have tk:=eG l i false 1 hl
 rw[h1] at tk
 have e1:(t.kind==1)=true:=by rw[h2];rfl
 obtain⟨na,nd,ni⟩:=pN l i false hl t.text (l.drop i).tail (by unfold Sl.name;rw[ht];rfl)
 have lo:=Jt t.text hs
 refine⟨?_,nd,ni⟩
 simp only[rb0,aQ] at tk na ⊢
 refine ai rfl rfl Tryz.func95 rfl Tryz.ntmps95 ⟨by simp,by simp[LK]⟩ ?_
 simp only[go_sem,reduceLT,reduceCtorEq,reduceEqDiff,Nat.reduceBEq,reduceAdd,reduceSub,reduceLeDiff,aa ab ah,hr,tk,e1,na,lo]
theorem Hb (l:List Val)(i:Nat)(hl:l.length≤100000000)(ht:Sl.tokK 1 (l.drop i)=none)(r:List Val)(hs:Sl.sign [42] (l.drop i)=some r) :
  den K 95 [P0,B true] [rb0 l i false]=some (.ret (.agg (ff (.mk 1 [] [] 0 0 []))) [rb0 l (i+1) false])∧l.drop (i+1)=r∧i<l.length:=by
 have hr:Tryz.f95.results=#[.cell 4 52]:=rfl
 have tk:=eG l i false 1 hl
 rw[gQ ht] at tk
 obtain⟨sa,sd,si⟩:=iY l i false [42] hl r hs;refine⟨?_,sd,si⟩
 simp only[rb0,Ne.tok0,aQ] at tk sa ⊢
 refine ai rfl rfl Tryz.func95 rfl Tryz.ntmps95 ⟨by simp,by simp[LK]⟩ ?_
 simp only[go_sem,reduceLT,reduceCtorEq,reduceEqDiff,Nat.reduceBEq,reduceAdd,reduceSub,reduceLeDiff,aa ab ah,hr,tk,sa,Int.reduceBEq]
theorem DB (g:List Val→Option (Sim×List Val))(l:List Val)(i:Nat)(first:Bool)(hl:l.length≤100000000)(hsz:Ne.size l≤100000000)(hg:∀ t c,Val.mk 5 t c∈l.drop i→tN g c)(hf:Front l i first) :
  jV (jp g (l.drop i)) first l i:=by
 cases h4:Sl.tokK 4 (l.drop i) with
 | some t =>
  have e:jp g (l.drop i)=some (.mk 3 t.text [] 0 0 [],(l.drop i).tail):=by unfold jp;rw[h4]
  rw[e];obtain⟨a,b⟩:=EA l i first hl hf t h4
  exact⟨i+1,by rw[List.tail_drop],by omega,by omega,a⟩
 | none =>
 cases h5:Sl.sign [46] (l.drop i) with
 | some r =>
  have e:jp g (l.drop i)=(Sl.name r).map fun x=>(.mk 4 x.1 [] 0 0 [],x.2):=by unfold jp;rw[h4,h5]
  rw[e];cases hn:Sl.name r with
  | none=>exact⟨_,_,Dh l i first hl hf h4 r h5 hn⟩
  | some y =>
   obtain⟨s,r2⟩:=y;obtain⟨a,b,c⟩:=GW l i first hl hf h4 r h5 s r2 hn
   exact⟨i+2,b,by omega,by omega,a⟩
 | none =>
 cases h6:Sl.sign [58] (l.drop i) with
 | some r =>
  have e:jp g (l.drop i)=Sl.colon g r:=by unfold jp;rw[h4,h5,h6]
  rw[e];obtain⟨sa,sd,si⟩:=iY l i false [58] hl r h6;have hc:=JY g l (i+1) hl hsz fun t c hm=>hg t c (by
   obtain⟨v,hv,_⟩:=Sl.qi h6;rw[hv,List.mem_cons];rw[sd] at hm;exact .inr hm)
  unfold nc at hc;rw[sd] at hc;unfold jV;cases hr:Sl.colon g r with
  | none =>
   rw[hr] at hc;obtain⟨x,j,hc⟩:=hc;exact⟨x,j,gu l i first hl hf h4 h5 r h6 x j true hc⟩
  | some y =>
   obtain⟨x,r2⟩:=y;rw[hr] at hc;obtain⟨j,j1,j2,j3,hc⟩:=hc;exact⟨j,j1,by omega,j3,gu l i first hl hf h4 h5 r h6 x j false hc⟩
 | none =>
 cases hv:Sl.eM 3 (l.drop i) with
 | none =>
  have e:jp g (l.drop i)=none:=by unfold jp;rw[h4,h5,h6,hv]
  rw[e];obtain⟨x,h⟩:=Ew l i first hl hf h4 h5 h6 hv
  exact⟨x,i,h⟩
 | some y =>
  obtain⟨⟨t,c⟩,r⟩:=y;have e:jp g (l.drop i)=(Sl.attr c).map fun y=>(y,r):=by unfold jp;rw[h4,h5,h6,hv]
  rw[e];obtain⟨va,vd,vm⟩:=tu l i false 3 hl t c r hv;have hi:i<l.length:=(List.getElem?_eq_some_iff.1 vm).1
  have hc:c.length≤100000000:=Nat.le_trans (Nat.le_trans (Ne.bD c) (Nat.le_of_lt (rT vm))) hsz
  obtain⟨x,ok,ha,hx⟩:=OX c hc;have hd:=Dl l i first hl hf h4 h5 h6 t c r hv x ok ha
  cases hm:Sl.attr c with
  | none =>
   rw[hm] at hx;subst hx;exact⟨x,i+1,hd⟩
  | some y =>
   rw[hm] at hx;obtain⟨rfl,rfl⟩:=hx;exact⟨i+1,vd,by omega,by omega,hd⟩
theorem oU (g:List Val→Option (Sim×List Val))(l:List Val)(i:Nat)(first:Bool)(hl:l.length≤100000000)(hsz:Ne.size l≤100000000)(hts:TSh l)(hg:∀ t c,Val.mk 5 t c∈l.drop i→tN g c) :
  jV (iw g first (l.drop i)) first l i:=by
 cases first with
 | false =>
  rw[rN];exact DB g l i false hl hsz hg (.inl rfl)
 | true =>
  cases h1:Sl.tokK 1 (l.drop i) with
  | some t =>
   have e:iw g true (l.drop i)=some (.mk 2 (Sl.low t.text) [] 0 0 [],(l.drop i).tail):=by
    unfold iw;simp only[h1,if_true]
   rw[e];obtain⟨c,m,hm,hk⟩:=Sl.wz h1;have ht:t.text.length<1000000000:=FI (t:=t) (c:=c) (l:=m) (by rw[←hm];exact Su hts i)
   obtain⟨a,b,d⟩:=Gg l i hl t h1 ht;exact⟨i+1,b,by omega,by omega,a⟩
  | none =>
   cases h2:Sl.sign [42] (l.drop i) with
   | some r =>
    have e:iw g true (l.drop i)=some (.mk 1 [] [] 0 0 [],r):=by
     unfold iw;simp only[h1,h2,if_true]
    rw[e];obtain⟨a,b,d⟩:=Hb l i hl h1 r h2;exact⟨i+1,b,by omega,by omega,a⟩
   | none =>
    rw[uC g _ h1 h2];exact DB g l i true hl hsz hg (.inr ⟨h1,h2⟩)
theorem xM:∀ (f:Nat) (l:List Val) (i:Nat) (first:Bool),Ne.size l≤100000000→TSh l→(∀ t c,Val.mk 5 t c∈l.drop i→Ne.size c<f+1) →
  jV (Sl.simple (f+1) first (l.drop i)) first l i
 | 0,l,i,first,hsz,hts,hc=>by
  rw[rm];refine oU _ l i first (Nat.le_trans (Ne.bD l) hsz) hsz hts fun t c hm => ?_
  have h0:=hc t c hm
  have hl0:=Ne.bD c
  have:c=[]:=List.eq_nil_of_length_eq_zero (by omega)
  subst this;refine Iw _ [] (by simp) ?_
  have:=oU (fun _=>none) [] 0 true (by simp) (by rw[Ne.size];omega) (fun t ht=>by rw[Sl.dl] at ht;cases ht) (fun t c hm=>by cases hm)
  exact this
 | f+1,l,i,first,hsz,hts,hc=>by
  rw[rm];refine oU _ l i first (Nat.le_trans (Ne.bD l) hsz) hsz hts fun t c hm => ?_
  obtain⟨j,hj⟩:=List.getElem?_of_mem (List.mem_of_mem_drop hm)
  have h1:=rT hj
  have h2:=jF c
  have h3:=hc t c hm
  refine Iw _ c (Nat.le_trans (Ne.bD c) (by omega)) ?_
  have:=xM f (Sl.trim c) 0 true (by omega) (mq (Uc hts hj)) (fun t' c' hm'=>by
   obtain⟨j',hj'⟩:=List.getElem?_of_mem hm'
   have:=rT hj'
   rw[List.drop_zero] at this
   omega)
  rw[List.drop_zero] at this
  exact this
theorem CX (l:List Val)(i:Nat)(first:Bool)(hsz:Ne.size l≤100000000)(hts:TSh l)(hi:i<l.length):jV (Sl.simple (Ne.size (l.drop i)) first (l.drop i)) first l i:=by
 have hp:1≤Ne.size (l.drop i):=by
  have:=Ne.bD (l.drop i)
  rw[List.length_drop] at this
  omega
 obtain⟨f,hf⟩:∃ f,Ne.size (l.drop i)=f+1:=⟨Ne.size (l.drop i) - 1,by omega⟩
 rw[hf];refine xM f l i first hsz hts fun t c hm => ?_
 obtain⟨j,hj⟩:=List.getElem?_of_mem hm
 have:=rT hj
 omega
attribute [local go_sem] zM Ix Jc fV ib fI BR
theorem gL (l:List Sim):(Sim.encL l).length=l.length:=by rw[Sim.encL_map,List.length_map]
theorem yN (l:List Sim):lens 6 (Sim.encL l)=true:=by
 rw[Sim.encL_map];simp only[lens,List.all_map,List.all_eq_true];intro x _;obtain⟨k,n,v,a,b,xl⟩:=x;rfl
theorem CL (a b c d e f:PV):lens 6 [[a,b,c,d,e,f]]=true:=rfl
theorem Fo (a b:List Sim):Sim.encL (a++b)=Sim.encL a++Sim.encL b:=by rw[Sim.encL_map,Sim.encL_map,Sim.encL_map,List.map_append]
theorem Ju (acc:List Sim)(k:Int)(n v:List UInt8)(a b:Int):Sim.encL acc++[[.int .i64 k,.str n,.str v,.int .i64 a,.int .i64 b,.sl []]]=Sim.encL (acc++[.mk k n v a b []]):=by rw[Fo];rfl
theorem IA (acc:List Sim)(k:Int)(n v:List UInt8)(a b:Int)(x:Sim)(xl:List Sim):Sim.encL acc++[[.int .i64 k,.str n,.str v,.int .i64 a,.int .i64 b,.sl (Sim.encL (x::xl))]]=Sim.encL (acc++[.mk k n v a b (x::xl)]):=by rw[Fo];rfl
abbrev zcpx:List CV:=[.own 0 [],.pv (.str [])]
abbrev pcell (cb:Int)(e:Nat)(acc:List Sim):List CV:=[.pv (.int .i64 cb),.own e (Sim.encL acc)]
abbrev kc (l:List Val)(i:Nat)(bad:Bool)(cb:Int)(e:Nat)(acc:List Sim)(e5:Nat)(ps:List (List PV)):St :=
  { sl:=upd (upd (upd (upd bot 7 (.c (.loc 7 0))) 5 (.c (.loc 5 0))) 4 (.c (.loc 10 0))) 2 (.c (.loc 2 0)),
    bx:=upd (upd (upd (upd nobox 10 (some (rb0 l i bad))) 7 (some (pcell cb e acc))) 5 (some [.own e5 ps,.pv (.str [])])) 2 (some zcpx),nt:=141 }
noncomputable def palp:Code:=.loop (ap Tryz.f48 6)
def PKept (S:St)(e5:Nat)(ps:List (List PV)):Prop:=S.nt=141∧S.sl 2=.c (.loc 2 0)∧S.sl 4=.c (.loc 10 0)∧S.sl 5=.c (.loc 5 0)∧S.sl 7=.c (.loc 7 0)∧S.bx 2=some zcpx∧S.bx 5=some [.own e5 ps,.pv (.str [])]
theorem Re (l:List Val)(i:Nat)(cb:Int)(e:Nat)(acc:List Sim)(e5:Nat)(ps:List (List PV)) :
  Ends (exL K 48 palp (kc l i true cb e acc e5 ps)) fun o S=>o=.exit 2∧PKept S e5 ps∧S.bx 10=some (rb0 l i true)∧S.bx 7=some (pcell cb e acc):=by
 unfold palp PKept
 conv in ap _ _=>whnf
 rw[aq];simp only[go_sem,reduceLT,reduceEqDiff,Nat.reduceBEq,reduceAdd,aw]
theorem Mw (l:List Val)(i:Nat)(cb:Int)(e:Nat)(acc:List Sim)(e5:Nat)(ps:List (List PV))(hl:l.length≤100000000)(ho:Sl.over (l.drop i)=true) :
  Ends (exL K 48 palp (kc l i false cb e acc e5 ps)) fun o S=>o=.exit 2∧PKept S e5 ps∧S.bx 10=some (rb0 l i false)∧S.bx 7=some (pcell cb e acc):=by
 have h1:=wN l i false hl
 rw[ho] at h1;simp only[rb0] at h1;unfold palp PKept
 conv in ap _ _=>whnf
 rw[aq];simp only[go_sem,reduceLT,reduceEqDiff,Nat.reduceBEq,reduceAdd,h1,aw]
theorem DL (l:List Val)(i:Nat)(cb:Int)(e:Nat)(acc:List Sim)(e5:Nat)(ps:List (List PV))(hl:l.length≤100000000)(hi:i≤l.length)(ho:Sl.over (l.drop i)=false)(hd:Sl.double (l.drop i)=true) :
  Ends (exL K 48 palp (kc l i false cb e acc e5 ps)) fun o S=>o=.exit 2∧PKept S e5 ps∧S.bx 10=some (rb0 l i false)∧S.bx 7=some (pcell cb e acc):=by
 have h1:=wN l i false hl
 rw[ho] at h1;have h2:=jJ l i false hl (by omega)
 rw[hd] at h2;simp only[rb0] at h1 h2;unfold palp PKept
 conv in ap _ _=>whnf
 rw[aq];simp only[go_sem,reduceLT,reduceEqDiff,Nat.reduceBEq,reduceAdd,h1,h2,aw]
theorem zq (l:List Val)(i:Nat)(cb:Int)(e:Nat)(acc:List Sim)(e5:Nat)(ps:List (List PV))(hl:l.length≤100000000)(hi:i≤l.length)(ho:Sl.over (l.drop i)=false)(hd:Sl.double (l.drop i)=false)
  (hlen:acc.length≤100000000) (he:e=52∨acc=[]) (first:Bool) (hf:((acc.length:Int)==0)=first) (x:Sim) (j:Nat) (bad:Bool) (hs:den K 95 [P0,B first] [rb0 l i false]=some (.ret (.agg (ff x)) [rb0 l j bad])) :
  exL K 48 palp (kc l i false cb e acc e5 ps)=exL K 48 palp (kc l j bad cb 52 (acc++[x]) e5 ps):=by
 have h1:=wN l i false hl
 rw[ho] at h1;have h2:=jJ l i false hl (by omega)
 rw[hd] at h2;have hown:e=52∨(Sim.encL acc).isEmpty=true:=by
  rcases he with rfl|rfl
  ·exact .inl rfl
  ·exact .inr rfl
 have hlim:acc.length+1<bS:=by unfold bS;omega
 have hlv:=yN acc
 obtain⟨k,n,v,a,b,xl⟩:=x;unfold palp
 conv in ap _ _=>whnf
 conv in ap _ _=>whnf
 cases xl
 all_goals
  simp only[rb0,aQ,cO] at h1 h2 hs
  conv in exL _ _ _ (kc l i false cb e acc e5 ps)=>rw[aq]
  simp only[go_sem,reduceLT,reduceCtorEq,reduceEqDiff,Nat.reduceBEq,reduceAdd,reduceMul,af ae,ao (len:=1) ae dZ ab ⟨rfl,by decide,by decide⟩,bq qE,aU ae,h1,h2,hs,hf,gL,hown,hlim,hlv,CL,Ju,IA]
  first|rw[aR]|rw[aY]
  rotate_left
  ·kernel_rfl
  simp only[go_sem];rw[au];simp only[go_sem,reduceEqDiff,Nat.reduceBEq]
attribute [local go_sem] ix mH kK Kf Ox mM fC eB
theorem Px {x:TS}{et:Nat}{ct:List (List PV)}(hx:x.cell=.own et ct)(o:Option Tok):∃ et' ct',(iu x o).cell=.own et' ct'∧(iu x o).toks=x.toks++o.toList:=by
 cases o with
 | none=>exact⟨et,ct,hx,by simp[iu]⟩
 | some t=>exact⟨_,_,rfl,rfl⟩
theorem Oh {x:TS}{et:Nat}{ct:List (List PV)}(hx:x.cell=.own et ct):ct=x.toks.map Tok.enc:=by
 cases x with
 | nils=>cases hx
 | live=>cases hx;rfl
 | wr l=>cases hx;rfl
abbrev allH (s:List UInt8)(et:Nat)(ct:List (List PV)):St := { sl:=upd bot 3 (.c (.loc 6 0)),bx:=upd nobox 6 (some [.pv (.str s),.own et ct]),nt:=19 }
theorem Qe:∀ (s:List UInt8),s.length<4000000000→∀ (x:TS) (et:Nat) (ct:List (List PV)),x.cell=.own et ct→x.toks.length+s.length<4000000000 →
  Ends (exL K 99 (.loop (ap Tryz.f99 2)) (allH s et ct)) fun o S=>o=.exit 0∧S.nt=19∧S.sl 3=.c (.loc 6 0)∧∃ et',S.bx 6=some [.pv (.str []),.own et' ((x.toks++Tk.all s).map Tok.enc)]:=by
 refine Tk.rM (Q:=fun s=>s.length<4000000000→∀ (x:TS) (et:Nat) (ct:List (List PV)),x.cell=.own et ct→x.toks.length+s.length<4000000000 →
  Ends (exL K 99 (.loop (ap Tryz.f99 2)) (allH s et ct)) fun o S=>o=.exit 0∧S.nt=19∧S.sl 3=.c (.loc 6 0)∧∃ et',S.bx 6=some [.pv (.str []),.own et' ((x.toks++Tk.all s).map Tok.enc)]) ?_ ?_
 ·intro _ x et ct hx _;have hct:=Oh hx
  have hlt:decide ((0:Int)<((0:Nat):Int))=false:=by decide
  rw[Tk.all_nil,List.append_nil,←hct]
  conv in ap _ _=>whnf
  rw[aq];simp only[go_sem,reduceLT,reduceEqDiff,Nat.reduceBEq,reduceAdd,aE aB,aw,hlt];exact⟨_,rfl⟩
 ·intro c r ih hs x et ct hx hl;have hp:=Tk.mY c r
  have hle:=Tk.BT c r
  have hn:=MY (c::r) c r x et ct hx rfl hs (by omega)
  obtain⟨et2,ct2,h2,h3⟩:=Px hx (Tk.step c r).1;have ho:((Tk.step c r).1.toList).length≤1:=by cases (Tk.step c r).1<;>simp
  have ih':=ih (by rw[List.length_drop];omega) (iu x (Tk.step c r).1) et2 ct2 h2 (by rw[h3,List.length_append,List.length_drop];omega)
  rw[h3,List.append_assoc,←Tk.all_cons] at ih';have hlt:decide ((0:Int)<((c::r).length:Int))=true:=decide_eq_true (by simp only[List.length_cons];omega)
  simp only[scan,h2] at hn;generalize c::r=s at hn ih' hlt
  conv at ih' in ap _ _=>whnf
  conv in ap _ _=>whnf
  rw[aq];simp only[go_sem,reduceLT,reduceEqDiff,Nat.reduceBEq,reduceAdd,aE aB,hlt,hn];rw[au];simp only[go_sem,reduceEqDiff];exact ih'
theorem Rz (s:List UInt8)(hs:s.length<4000000000):den K 99 [T s] []=some (.ret (L ((Tk.all s).map Tok.enc)) []):=by
 refine ai rfl rfl Tryz.func99 rfl Tryz.ntmps99 ⟨by simp,by simp[LK]⟩ ?_
 have hr:Tryz.f99.results=#[.tmp 2]:=rfl
 have hl:=Qe s hs .live 0 [] rfl (by simp[TS.toks];omega)
 conv at hl in ap _ _=>whnf
 obtain⟨o,S',e2,rfl,hn,h3,et',hb⟩:=hl;simp only[TS.toks,List.nil_append] at hb;simp only[go_sem,reduceLT,reduceCtorEq,reduceEqDiff,Nat.reduceBEq,reduceAdd,reduceSub,reduceLeDiff,aa tm uW];rw[au];simp only[go_sem,reduceEqDiff,reduceSub,reduceLeDiff];erw [e2];simp only[go_sem,reduceLT,reduceEqDiff,Nat.reduceBEq,reduceAdd,hr,hn,h3,hb]
end Go.Abs
