/-
  WHAT THE FUNCTIONS COMPUTE, layer 4, the program's reader of selectors: sels.whole, the numbers of an nth, whole; an attribute.
  WHAT THE FUNCTIONS COMPUTE, layer 2: the document's reader of values.
  WHAT THE FUNCTIONS COMPUTE, layer 1: the scanner's number.
  WHAT THE DOCUMENT'S ANSWER COMPUTES, layer 1: classes of bytes, names, comments, strings.
-/
import Derived.Test.YtlomcifkckgneaaGreatDoorRc6
import Derived.Test.YtlomcifkckgneaaGreatDoorRc7
import Derived.Test.YtlomcifkckgneaaGreatDoorRc8
set_option linter.unusedSimpArgs false
set_option linter.unusedVariables false
namespace Go.Abs
open Go Go.Proofs
set_option maxRecDepth 10000
attribute [local go_sem] cM bt ck bJ bH cL cq co aR bU bO ci cN bF opd avOf cvOf St.degAt St.put okPV dA okAV cZ cY cX cG aH if_true Bool.false_eq_true if_false Option.map_some Option.map_none Option.bind_some Option.bind_none dC dr upd List.toList_toArray cA steal bm mvB c8 cF cE AV.deg CV.deg AV.gv AV.isIter cy cj bK List.length_nil List.length_cons List.filterMap_cons List.filterMap_nil beq_iff_eq List.getElem?_cons_zero List.getElem?_cons_succ Option.getD_some dE ev Bool.false_and Bool.and_false Bool.and_self K_P eN bZ cz bh lend back idx dedup AV.ren CV.ren TV.ren AV.ptrs CV.ptrs cH AV.flat CV.flat cf bQ aV cK cQ dM bW aM bX bc bv bR bd d8 CV.pv? content bo ownT aW reps pvs chunks bM leave dU cw cV bG bg TV.deg TV.av LK CV.plain CV.noBld cJ dX bound List.map_cons List.map_nil List.all_cons List.all_nil List.any_cons List.any_nil List.contains_cons List.contains_nil List.elem_cons List.elem_nil List.cons_append List.nil_append List.append_nil List.flatMap_cons List.flatMap_nil List.zip_cons_cons List.zip_nil_left List.zip_nil_right List.take_succ_cons List.take_zero List.take_nil List.drop_succ_cons List.drop_zero List.drop_nil List.isEmpty_nil List.isEmpty_cons Bool.and_true Bool.true_and Bool.or_true Bool.true_or Bool.or_false Bool.false_or Bool.not_true Bool.not_false Nat.add_zero Nat.zero_add Option.isNone_none Option.isNone_some Option.getD_none true_and and_true not_true_eq_false not_false_eq_true decide_true decide_false Nat.le_refl and_self Bool.not_eq_true Nat.sub_self or_true true_or Option.some.injEq List.length_map List.nil_eq and_false false_and AV.live CV.live CV.liveIn dq aX Option.orElse_some Option.orElse_none head a7 a6 Int.lt_irrefl List.length_append ite_self dz ce cO bu Key.clash Key.sees Key.writes Nat.lt_irrefl gt_iff_lt cg dc false_or or_false beq_self_eq_true Bool.true_beq Bool.false_beq I8 cx bC Bf kZ sU vE dw ag dS FS GJ qy dG aI qS qT gZ cR eD qv cu bf dH b7 cS dI
abbrev P1:AV := .c (.loc 100001 0)
abbrev P2:AV := .c (.loc 100002 0)
theorem s8 (m:List Val):(encL m).isEmpty=m.isEmpty:=by cases m<;>rfl
theorem ri {g:Nat} (hg:goods.contains g=true) {l:List Val} (hl:l.length≤100000000) {b b':List CV} (hb : ∀ f,b.map (CV.ren f)=b) (hb' : ∀ f,b'.map (CV.ren f)=b') {v:AV} {m:List Val}
  (h:den K g [P0,P1] [rdB (Sl.trim l),b]=some (.ret v [rdB m,b'])) :
  den K 37 [L (encL l),.c (.fn g [(100000,0)])] [b]=some (.ret (I (if m.isEmpty then 0 else 40)) [b']):=by
 have hT:=mO l hl
 rw[kC (K:=K) (F:=fx goods.contains) rfl rfl]
 have e1:lend (c9 [b]) 0=some 100000:=rfl
 have e2:lend (c9 [b]) 100000=some 100001:=rfl
 unfold fx
 simp only[Plan.run,hT,hg,if_true,List.map_cons,List.map_nil,AV.deg,CV.deg,AV.ren,CV.ren,e1,e2,hb,h,CV.pv?,jD,hb',s8]
theorem si {g:Nat} (hg:goods.contains g=true) {l:List Val} (hl:l.length≤100000000) {b b':List CV} (hb : ∀ f,b.map (CV.ren f)=b) (hb' : ∀ f,b'.map (CV.ren f)=b') {m:List Val}
  (h:den K g [P0,P1] [rdB (Sl.trim l),b]=some (.pan du [rdB m,b'])) :
  den K 37 [L (encL l),.c (.fn g [(100000,0)])] [b]=some (.ret (I 40) [b']):=by
 have hT:=mO l hl
 rw[kC (K:=K) (F:=fx goods.contains) rfl rfl]
 have e1:lend (c9 [b]) 0=some 100000:=rfl
 have e2:lend (c9 [b]) 100000=some 100001:=rfl
 unfold fx
 simp only[Plan.run,hT,hg,if_true,List.map_cons,List.map_nil,AV.deg,CV.deg,AV.ren,CV.ren,e1,e2,hb,h,jD,hb']
theorem zt {g:Nat} (hg:goods.contains g=true) {l:List Val} (hl:l.length≤100000000) {a a' b b':List CV} (ha : ∀ f,a.map (CV.ren f)=a) (ha' : ∀ f,a'.map (CV.ren f)=a') (hb : ∀ f,b.map (CV.ren f)=b) (hb' : ∀ f,b'.map (CV.ren f)=b') {v:AV} {m:List Val}
  (h:den K g [P0,P1,P2] [rdB (Sl.trim l),a,b]=some (.ret v [rdB m,a',b'])) :
  den K 37 [L (encL l),.c (.fn g [(100000,0),(100001,0)])] [a,b]=some (.ret (I (if m.isEmpty then 0 else 40)) [a',b']):=by
 have hT:=mO l hl
 rw[kC (K:=K) (F:=fx goods.contains) rfl rfl]
 have e1:lend (c9 [a,b]) 0=some 100000:=rfl
 have e2:lend (c9 [a,b]) 100000=some 100001:=rfl
 have e3:lend (c9 [a,b]) 100001=some 100002:=rfl
 unfold fx
 simp only[Plan.run,hT,hg,if_true,List.map_cons,List.map_nil,AV.deg,CV.deg,AV.ren,CV.ren,e1,e2,e3,ha,hb,h,CV.pv?,jD,ha',hb',s8]
theorem s9 {g:Nat} (hg:goods.contains g=true) {l:List Val} (hl:l.length≤100000000) {a a' b b':List CV} (ha : ∀ f,a.map (CV.ren f)=a) (ha' : ∀ f,a'.map (CV.ren f)=a') (hb : ∀ f,b.map (CV.ren f)=b) (hb' : ∀ f,b'.map (CV.ren f)=b') {m:List Val}
  (h:den K g [P0,P1,P2] [rdB (Sl.trim l),a,b]=some (.pan du [rdB m,a',b'])) :
  den K 37 [L (encL l),.c (.fn g [(100000,0),(100001,0)])] [a,b]=some (.ret (I 40) [a',b']):=by
 have hT:=mO l hl
 rw[kC (K:=K) (F:=fx goods.contains) rfl rfl]
 have e1:lend (c9 [a,b]) 0=some 100000:=rfl
 have e2:lend (c9 [a,b]) 100000=some 100001:=rfl
 have e3:lend (c9 [a,b]) 100001=some 100002:=rfl
 unfold fx
 simp only[Plan.run,hT,hg,if_true,List.map_cons,List.map_nil,AV.deg,CV.deg,AV.ren,CV.ren,e1,e2,e3,ha,hb,h,jD,ha',hb']
abbrev iB (n:Int):List CV:=[.pv (.int .i64 n)]
theorem Iy (n:Int):(decide (-9999≤n)&&decide (n≤9999))=decide (Sl.few n):=by
 rw[Bool.eq_iff_iff,Bool.and_eq_true,decide_eq_true_eq,decide_eq_true_eq,decide_eq_true_eq];rfl
set_option maxHeartbeats 4000000 in
theorem GN (l:List Val) (hl:l.length≤70000000) (ht:TSh l):match Sl.nthP l with
  | some (x,m)=>if Sl.few x.1∧Sl.few x.2 then den K 38 [P0,P1,P2] [rdB l,iB 0,iB 0]=some (.ret (.tup []) [rdB m,iB x.1,iB x.2])
   else den K 38 [P0,P1,P2] [rdB l,iB 0,iB 0]=some (.pan du [rdB m,iB x.1,iB x.2])
  | none => ∃ m,den K 38 [P0,P1,P2] [rdB l,iB 0,iB 0]=some (.pan du [rdB m,iB 0,iB 0]):=by
 have hr:Tryz.f38.results = #[]:=rfl
 have h:=CQ l hl ht
 have hmy:=eC
 have hmn:=gk
 cases hn:Sl.nthP l with
 | none =>
  rw[hn] at h
  obtain ⟨m,h⟩:=eR h
  refine ⟨m,?_⟩
  simp only[rdB,iB] at h ⊢
  refine ai rfl rfl Tryz.func38 rfl Tryz.ntmps38 ⟨by simp,by simp[LK]⟩ ?_
  simp only[go_sem,Nat.reduceLT,Nat.reduceEqDiff,Nat.reduceBEq,Nat.reduceAdd,Nat.reduceSub,Nat.reduceLeDiff,hr,h]
 | some y =>
  obtain ⟨⟨a,b⟩,m⟩:=y
  rw[hn] at h
  have h:=dP h
  have ha:=qH a
  have hb:=qH b
  rw[Iy] at ha hb
  simp only
  by_cases fa:Sl.few a
  ·rw[decide_eq_true fa] at ha
   by_cases fb:Sl.few b
   ·rw[decide_eq_true fb] at hb
    rw[if_pos ⟨fa,fb⟩]
    simp only[rdB,iB,twoI] at h ⊢
    refine ai rfl rfl Tryz.func38 rfl Tryz.ntmps38 ⟨by simp,by simp[LK]⟩ ?_
    simp only[go_sem,Nat.reduceLT,Nat.reduceEqDiff,Nat.reduceBEq,Nat.reduceAdd,Nat.reduceSub,Nat.reduceLeDiff,hr,h,ha,hb,hmy]
   ·rw[decide_eq_false fb] at hb
    rw[if_neg fun h=>fb h.2]
    simp only[rdB,iB,twoI] at h ⊢
    refine ai rfl rfl Tryz.func38 rfl Tryz.ntmps38 ⟨by simp,by simp[LK]⟩ ?_
    simp only[go_sem,Nat.reduceLT,Nat.reduceEqDiff,Nat.reduceBEq,Nat.reduceAdd,Nat.reduceSub,Nat.reduceLeDiff,hr,h,ha,hb,hmn]
  ·rw[decide_eq_false fa] at ha
   rw[if_neg fun h=>fa h.1]
   simp only[rdB,iB,twoI] at h ⊢
   refine ai rfl rfl Tryz.func38 rfl Tryz.ntmps38 ⟨by simp,by simp[LK]⟩ ?_
   simp only[go_sem,Nat.reduceLT,Nat.reduceEqDiff,Nat.reduceBEq,Nat.reduceAdd,Nat.reduceSub,Nat.reduceLeDiff,hr,h,ha,hmn]
theorem iV (n:Int) (f:Nat→Option Nat):(iB n).map (CV.ren f)=iB n:=rfl
theorem JF (v:List Val):Sl.nthM v=match Sl.nthP (Sl.trim v) with
  | some (x,[])=>if Sl.few x.1∧Sl.few x.2 then some x else none
  | _=>none:=by
 unfold Sl.nthM
 rw[←Sl.DL v]
 unfold Sl.fx
 generalize Sl.nthP (Sl.trim v)=y
 match y with
 | none=>rfl
 | some (x,[])=>rfl
 | some (x,_::_)=>rfl
set_option maxHeartbeats 4000000 in
theorem E1 (l:List Val) (hl:l.length≤70000000) (ht:TSh l):den K 13 [L (encL l)] []=some (.ret (nthA (Sl.nthM l)) []):=by
 have hr:Tryz.f13.results = #[.cell 2 3,.cell 3 3,.tmp 4]:=rfl
 have hc:=GN (Sl.trim l) (Nat.le_trans (Sl.wZ l) hl) (qz ht)
 have hg:goods.contains 38=true:=by kernel_rfl
 have key : ∀ (a b:Int) (e:Int),den K 37 [L (encL l),.c (.fn 38 [(100000,0),(100001,0)])] [iB 0,iB 0]=some (.ret (I e) [iB a,iB b])→(e=0∨e=40) →
   den K 13 [L (encL l)] []=some (.ret (nthA (if e=0 then some (a,b) else none)) []):=by
  intro a b e h he
  simp only[iB] at h
  rcases he with rfl|rfl
  ·rw[if_pos rfl]
   unfold nthA
   refine ai rfl rfl Tryz.func13 rfl Tryz.ntmps13 ⟨by simp,by simp[LK]⟩ ?_
   simp only[go_sem,Nat.reduceLT,reduceCtorEq,Nat.reduceEqDiff,Nat.reduceBEq,Nat.reduceAdd,Nat.reduceSub,Nat.reduceLeDiff,hr,h,gq,locs,jb,bne_self_eq_false]
   first|rw[aJ]|rw[aO]
   rotate_left
   ·kernel_rfl
   simp only[go_sem,Nat.reduceEqDiff,Nat.reduceSub,Nat.reduceLeDiff]
  ·rw[if_neg (by decide)]
   unfold nthA
   refine ai rfl rfl Tryz.func13 rfl Tryz.ntmps13 ⟨by simp,by simp[LK]⟩ ?_
   simp only[go_sem,Nat.reduceLT,reduceCtorEq,Nat.reduceEqDiff,Nat.reduceBEq,Nat.reduceAdd,Nat.reduceSub,Nat.reduceLeDiff,hr,h,gq,locs,jb,Int.reduceBNe]
 rw[JF]
 cases hn:Sl.nthP (Sl.trim l) with
 | none =>
  rw[hn] at hc
  obtain ⟨m,hc⟩:=hc
  exact key 0 0 40 (s9 hg (by omega) (iV _) (iV _) (iV _) (iV _) hc) (.inr rfl)
 | some y =>
  obtain ⟨⟨a,b⟩,m⟩:=y
  rw[hn] at hc
  simp only at hc
  by_cases hf:Sl.few a∧Sl.few b
  ·rw[if_pos hf] at hc
   have hw:=zt hg (by omega) (iV _) (iV _) (iV _) (iV _) hc
   cases m with
   | nil =>
    have:=key a b 0 hw (.inl rfl)
    simp only
    rw[if_pos hf]
    exact this
   | cons v m=>exact key a b 40 hw (.inr rfl)
  ·rw[if_neg hf] at hc
   have hw:=s9 hg (by omega) (iV _) (iV _) (iV _) (iV _) hc
   have:=key a b 40 hw (.inr rfl)
   cases m with
   | nil =>
    simp only
    rw[if_neg hf]
    exact this
   | cons v m=>exact this
theorem t7 : ∀ {ws:List (List Val)},(∀ w∈ws,w≠[])→kP (encP ws)=some (ws.map encL)
 | [],_=>rfl
 | w::ws,h=>by
  have hw:=h w (by simp)
  have h1:encL w≠[]:=by cases w with
   | nil=>exact absurd rfl hw
   | cons v r=>simp[encL]
  have h2:(encL w).all (fun el=>el.length==5)=true:=dD w
  have ih:=t7 (ws:=ws) fun x hx=>h x (by simp[hx])
  show kP ([.sl (encL w)]::encP ws)=_
  rw[kP]
  have h3:Ah [.sl (encL w)]=some (encL w):=if_pos ⟨h1,h2⟩
  rw[h3,ih]
  rfl
theorem xJ (ws:List (List Val)):(ws.map encL).flatten=encL ws.flatten:=by
 induction ws with
 | nil=>rfl
 | cons w ws ih=>rw[List.map_cons,List.flatten_cons,ih,List.flatten_cons,ig]
theorem Ae (ws:List (List Val)) (h : ∀ w∈ws,w≠[]) (hn:ws.length≤1000000000) (hf:ws.flatten.length≤1000000000) :
  den K 205 [L (encP ws)] []=some (.ret (L (encL ws.flatten)) []) :=
 eW (F:=od) rfl (by
  unfold od
  simp only
  rw[t7 h]
  simp only
  rw[xJ,if_pos ⟨by rw[List.length_map];exact hn,by rw[aY];exact hf⟩])
set_option maxHeartbeats 8000000 in
theorem Df (l:List Val) (hl:Ne.size l≤60000000):match Sl.attr l with
  | some x=>den K 172 [L (encL l)] []=some (.ret (.agg (ii x)) [])
  | none=>den K 172 [L (encL l)] []=some (.pan du []):=by
 have hr:Tryz.f172.results = #[.cell 2 52]:=rfl
 have hll:=Ne.cU l
 have hw:=AI l (by omega)
 have hwn:=Sl.ve l
 have hwf:=Sl.Ar l
 have hlen:(l.filter fun v => !Sl.aq v).length≤l.length:=List.length_filter_le _ _
 have hc:=Ae (Sl.words l) (fun w hw=>(Sl.Cm hw).1) (by omega) (by rw[hwf];omega)
 rw[hwf] at hc
 rw[Sl.zN]
 generalize hm:(l.filter fun v => !Sl.aq v)=m at *
 have hmy:=eC
 have hmn:=gk
 have hn:=iu m (by omega)
 unfold Sl.FD
 cases k1:Sl.name m with
 | none =>
  rw[k1] at hn
  obtain ⟨q,hn⟩:=eR hn
  simp only[rdB] at hn ⊢
  refine ai rfl rfl Tryz.func172 rfl Tryz.ntmps172 ⟨by simp,by simp[LK]⟩ ?_
  simp only[go_sem,Nat.reduceLT,reduceCtorEq,Nat.reduceEqDiff,Nat.reduceBEq,Nat.reduceAdd,Nat.reduceSub,Nat.reduceLeDiff,af ag ak,af bq bD,hr,hw,hc,hn]
 | some y =>
  obtain ⟨s,r⟩:=y
  rw[k1] at hn
  have hn:=dP hn
  have hrl:r.length≤m.length:=by
   unfold Sl.name at k1
   rw[Option.map_eq_some_iff] at k1
   obtain ⟨t,_,e⟩:=k1
   cases e
   rw[List.length_tail];omega
  simp only
  cases k2:Sl.sign [61] r with
  | none =>
   have hs:=eS (by omega) k2
   have q0:(([]:List UInt8)==[])=true:=rfl
   simp only
   cases r with
   | nil =>
    rw[if_pos rfl]
    have q1:(((0:Nat):Int)==0)=true:=rfl
    simp only[rdB,cT] at hn hs ⊢
    refine ai rfl rfl Tryz.func172 rfl Tryz.ntmps172 ⟨by simp,by simp[LK]⟩ ?_
    simp only[go_sem,Nat.reduceLT,reduceCtorEq,Nat.reduceEqDiff,Nat.reduceBEq,Nat.reduceAdd,Nat.reduceSub,Nat.reduceLeDiff,Nat.reduceMul,af ag ak,af bq bD,am (len:=1) aG aI aF ⟨rfl,by decide,by decide⟩,ah ap,hr,hw,hc,hn,hs,q0,q1,bne,hmy,aY]
   | cons v r =>
    rw[if_neg (by simp)]
    have q1:(((r.length+1:Nat):Int)==0)=false:=by rw[beq_eq_false_iff_ne];omega
    simp only[rdB] at hn hs ⊢
    refine ai rfl rfl Tryz.func172 rfl Tryz.ntmps172 ⟨by simp,by simp[LK]⟩ ?_
    simp only[go_sem,Nat.reduceLT,reduceCtorEq,Nat.reduceEqDiff,Nat.reduceBEq,Nat.reduceAdd,Nat.reduceSub,Nat.reduceLeDiff,Nat.reduceMul,af ag ak,af bq bD,am (len:=1) aG aI aF ⟨rfl,by decide,by decide⟩,ah ap,hr,hw,hc,hn,hs,q0,q1,bne,hmn,aY]
  | some r2 =>
   have hs:=gP (by omega) k2
   have q0:(([61]:List UInt8)==[])=false:=rfl
   have hr2:r2.length≤r.length:=by
    obtain ⟨v,e,_⟩:=Sl.fm k2
    rw[e,List.length_cons];omega
   have t1:=dk r2 1 (by omega)
   have t6:=dk r2 6 (by omega)
   simp only
   cases r2 with
   | nil =>
    show den K 172 [L (encL l)] []=some (.pan du [])
    simp only[rdB,tokB] at hn hs t1 t6 ⊢
    refine ai rfl rfl Tryz.func172 rfl Tryz.ntmps172 ⟨by simp,by simp[LK]⟩ ?_
    simp only[go_sem,Nat.reduceLT,reduceCtorEq,Nat.reduceEqDiff,Nat.reduceBEq,Nat.reduceAdd,Nat.reduceSub,Nat.reduceLeDiff,Nat.reduceMul,af ag ak,af bq bD,am (len:=1) aG aI aF ⟨rfl,by decide,by decide⟩,hr,hw,hc,hn,hs,q0,bne,t1,t6,hmn]
   | cons v r3 =>
    obtain ⟨k,u,c⟩:=v
    have htk:=eX k u c r3 (by rw[List.length_cons] at hr2;omega)
    rw[fy] at htk
    have e1:tokB 1 (.mk k u c::r3)=((k==1)&&(u.kind==1)):=rfl
    have e6:tokB 6 (.mk k u c::r3)=((k==1)&&(u.kind==6)):=rfl
    rw[e1] at t1
    rw[e6] at t6
    by_cases hu:k=1∧(u.kind=1∨u.kind=6)
    ·have q3:((k==1)&&(u.kind==1))=true∨(((k==1)&&(u.kind==1))=false∧((k==1)&&(u.kind==6))=true):=by
      obtain ⟨rfl,h|h⟩:=hu
      ·left;rw[h];rfl
      ·right;rw[h];exact ⟨rfl,rfl⟩
     cases r3 with
     | nil =>
      have q1:(((0:Nat):Int)==0)=true:=rfl
      have e:Sl.uh s [.mk k u c]=some (.mk 6 s u.text 0 0 []):=if_pos hu
      rw[e]
      simp only[rdB,cT] at hn hs t1 t6 htk ⊢
      rcases q3 with q3|⟨q3,q4⟩
      ·rw[q3] at t1
       refine ai rfl rfl Tryz.func172 rfl Tryz.ntmps172 ⟨by simp,by simp[LK]⟩ ?_
       simp only[go_sem,Nat.reduceLT,reduceCtorEq,Nat.reduceEqDiff,Nat.reduceBEq,Nat.reduceAdd,Nat.reduceSub,Nat.reduceLeDiff,Nat.reduceMul,af ag ak,af bq bD,am (len:=1) aG aI aF ⟨rfl,by decide,by decide⟩,ah ap,hr,hw,hc,hn,hs,q0,q1,bne,t1,htk,hmy,aY]
      ·rw[q3] at t1
       rw[q4] at t6
       refine ai rfl rfl Tryz.func172 rfl Tryz.ntmps172 ⟨by simp,by simp[LK]⟩ ?_
       simp only[go_sem,Nat.reduceLT,reduceCtorEq,Nat.reduceEqDiff,Nat.reduceBEq,Nat.reduceAdd,Nat.reduceSub,Nat.reduceLeDiff,Nat.reduceMul,af ag ak,af bq bD,am (len:=1) aG aI aF ⟨rfl,by decide,by decide⟩,ah ap,hr,hw,hc,hn,hs,q0,q1,bne,t1,t6,htk,hmy,aY]
     | cons z r4 =>
      have q1:(((r4.length+1:Nat):Int)==0)=false:=by rw[beq_eq_false_iff_ne];omega
      show den K 172 [L (encL l)] []=some (.pan du [])
      simp only[rdB] at hn hs t1 t6 htk ⊢
      rcases q3 with q3|⟨q3,q4⟩
      ·rw[q3] at t1
       refine ai rfl rfl Tryz.func172 rfl Tryz.ntmps172 ⟨by simp,by simp[LK]⟩ ?_
       simp only[go_sem,Nat.reduceLT,reduceCtorEq,Nat.reduceEqDiff,Nat.reduceBEq,Nat.reduceAdd,Nat.reduceSub,Nat.reduceLeDiff,Nat.reduceMul,af ag ak,af bq bD,am (len:=1) aG aI aF ⟨rfl,by decide,by decide⟩,ah ap,hr,hw,hc,hn,hs,q0,q1,bne,t1,htk,hmy,hmn,aY]
      ·rw[q3] at t1
       rw[q4] at t6
       refine ai rfl rfl Tryz.func172 rfl Tryz.ntmps172 ⟨by simp,by simp[LK]⟩ ?_
       simp only[go_sem,Nat.reduceLT,reduceCtorEq,Nat.reduceEqDiff,Nat.reduceBEq,Nat.reduceAdd,Nat.reduceSub,Nat.reduceLeDiff,Nat.reduceMul,af ag ak,af bq bD,am (len:=1) aG aI aF ⟨rfl,by decide,by decide⟩,ah ap,hr,hw,hc,hn,hs,q0,q1,bne,t1,t6,htk,hmy,hmn,aY]
    ·have q3:((k==1)&&(u.kind==1))=false:=by
      rw[Bool.and_eq_false_iff,beq_eq_false_iff_ne,beq_eq_false_iff_ne]
      by_cases h1:k=1
      ·exact .inr fun h2=>hu ⟨h1,.inl h2⟩
      ·exact .inl h1
     have q4:((k==1)&&(u.kind==6))=false:=by
      rw[Bool.and_eq_false_iff,beq_eq_false_iff_ne,beq_eq_false_iff_ne]
      by_cases h1:k=1
      ·exact .inr fun h2=>hu ⟨h1,.inr h2⟩
      ·exact .inl h1
     rw[q3] at t1
     rw[q4] at t6
     have e:Sl.uh s (.mk k u c::r3)=none:=by
      cases r3 with
      | nil=>exact if_neg hu
      | cons _ _=>rfl
     rw[e]
     simp only[rdB] at hn hs t1 t6 htk ⊢
     refine ai rfl rfl Tryz.func172 rfl Tryz.ntmps172 ⟨by simp,by simp[LK]⟩ ?_
     simp only[go_sem,Nat.reduceLT,reduceCtorEq,Nat.reduceEqDiff,Nat.reduceBEq,Nat.reduceAdd,Nat.reduceSub,Nat.reduceLeDiff,Nat.reduceMul,af ag ak,af bq bD,am (len:=1) aG aI aF ⟨rfl,by decide,by decide⟩,hr,hw,hc,hn,hs,q0,bne,t1,t6,hmn]
attribute [local go_sem] dJ fc nW CG tg p7 aQ ab EW Ew az a8 jJ kf jP dv fW BM iI
abbrev Jq (t:Tok):List CV:=[.pv (.int .i64 t.kind),.pv (.str t.text),.pv (.int .i64 t.n)]
theorem lD (t:Tok) (kind:Int):den K 113 [.agg (Jq t),I kind] []=some (.ret (B (decide (t=Ne.fw kind))) []):=by
 have hv:decide (t=Ne.fw kind)=((t.kind==7)&&((t.text==[Ne.gY kind])&&((t.n==0)&&true))):=(mL t (Ne.fw kind)).symm
 rw[hv]
 refine ai rfl rfl Tryz.func113 rfl Tryz.ntmps113 ⟨by simp,by simp[LK]⟩ ?_
 have hr:Tryz.f113.results = #[.tmp 4]:=rfl
 cases b1:(t.kind==7)
 ·have e1:(t.kind != 7)=true:=by rw[bne,b1];rfl
  simp only[go_sem,Nat.reduceLT,Nat.reduceEqDiff,Nat.reduceBEq,Nat.reduceAdd,Nat.reduceSub,Nat.reduceLeDiff,hr,e1]
 ·have e1:(t.kind != 7)=false:=by rw[bne,b1];rfl
  cases b2:(t.n==0)
  ·have e2:(t.n != 0)=true:=by rw[bne,b2];rfl
   simp only[go_sem,Nat.reduceLT,Nat.reduceEqDiff,Nat.reduceBEq,Nat.reduceAdd,Nat.reduceSub,Nat.reduceLeDiff,hr,e1,e2]
  ·have e2:(t.n != 0)=false:=by rw[bne,b2];rfl
   by_cases h3:kind=3
   ·subst h3
    have c3:Ne.gY 3=93:=rfl
    simp only[go_sem,Nat.reduceLT,Nat.reduceEqDiff,Nat.reduceBEq,Nat.reduceAdd,Nat.reduceSub,Nat.reduceLeDiff,hr,e1,e2,c3]
   ·have e3:(kind==3)=false:=by rw[beq_eq_false_iff_ne];exact h3
    by_cases h4:kind=4
    ·subst h4
     have c4:Ne.gY 4=125:=rfl
     have e43:((4:Int)==3)=false:=by decide
     have n43:((4:Int)=3)=False:=by decide
     simp only[go_sem,Nat.reduceLT,Nat.reduceEqDiff,Nat.reduceBEq,Nat.reduceAdd,Nat.reduceSub,Nat.reduceLeDiff,hr,e1,e2,c4,e43]
    ·have e4:(kind==4)=false:=by rw[beq_eq_false_iff_ne];exact h4
     have c:Ne.gY kind=41:=by simp[Ne.gY,h3,h4]
     simp only[go_sem,Nat.reduceLT,Nat.reduceEqDiff,Nat.reduceBEq,Nat.reduceAdd,Nat.reduceSub,Nat.reduceLeDiff,hr,e1,e2,e3,e4,c]
theorem ot (t:Tok):den K 114 [.agg (Jq t)] []=some (.ret (I (Ne.opens t)) []):=by
 obtain ⟨k,s,n⟩:=t
 have hv:Ne.opens ⟨k,s,n⟩=lm k s n:=rfl
 rw[hv]
 unfold lm
 refine ai rfl rfl Tryz.func114 rfl Tryz.ntmps114 ⟨by simp,by simp[LK]⟩ ?_
 have hr:Tryz.f114.results = #[.tmp 2]:=rfl
 by_cases h2:k=2
 ·subst h2
  simp only[go_sem,Nat.reduceLT,Nat.reduceEqDiff,Nat.reduceBEq,Nat.reduceAdd,Nat.reduceSub,Nat.reduceLeDiff,hr]
 ·rw[if_neg h2]
  have e2:(k==2)=false:=by rw[beq_eq_false_iff_ne];exact h2
  by_cases h7:k=7
  ·subst h7
   have e72:((7:Int)==2)=false:=by decide
   have n72:((7:Int)=2)=False:=by decide
   have e77:((7:Int) != 7)=false:=by decide
   by_cases hn:n=0
   ·subst hn
    have e0:((0:Int) != 0)=false:=by decide
    rw[if_pos ⟨rfl,rfl⟩]
    by_cases a1:s=[40]
    ·subst a1
     simp only[go_sem,Nat.reduceLT,Nat.reduceEqDiff,Nat.reduceBEq,Nat.reduceAdd,Nat.reduceSub,Nat.reduceLeDiff,hr,e72,e77,e0]
    ·have b1:(s==[40])=false:=by rw[beq_eq_false_iff_ne];exact a1
     rw[if_neg a1]
     by_cases a2:s=[91]
     ·subst a2
      simp only[go_sem,Nat.reduceLT,Nat.reduceEqDiff,Nat.reduceBEq,Nat.reduceAdd,Nat.reduceSub,Nat.reduceLeDiff,hr,e72,e77,e0,b1]
     ·have b2:(s==[91])=false:=by rw[beq_eq_false_iff_ne];exact a2
      rw[if_neg a2]
      by_cases a3:s=[123]
      ·subst a3
       simp only[go_sem,Nat.reduceLT,Nat.reduceEqDiff,Nat.reduceBEq,Nat.reduceAdd,Nat.reduceSub,Nat.reduceLeDiff,hr,e72,e77,e0,b1,b2]
      ·have b3:(s==[123])=false:=by rw[beq_eq_false_iff_ne];exact a3
       rw[if_neg a3]
       simp only[go_sem,Nat.reduceLT,Nat.reduceEqDiff,Nat.reduceBEq,Nat.reduceAdd,Nat.reduceSub,Nat.reduceLeDiff,hr,e72,e77,e0,b1,b2,b3]
   ·have e0:(n != 0)=true:=by rw[bne_iff_ne];exact hn
    rw[if_neg (fun h=>hn h.2)]
    simp only[go_sem,Nat.reduceLT,Nat.reduceEqDiff,Nat.reduceBEq,Nat.reduceAdd,Nat.reduceSub,Nat.reduceLeDiff,hr,e72,e77,e0]
  ·have e7:(k != 7)=true:=by rw[bne_iff_ne];exact h7
   rw[if_neg (fun h=>h7 h.1)]
   simp only[go_sem,Nat.reduceLT,Nat.reduceEqDiff,Nat.reduceBEq,Nat.reduceAdd,Nat.reduceSub,Nat.reduceLeDiff,hr,e2,e7]
theorem nr {t:Tok} (h:Ne.opens t≠0):0<Ne.opens t:=by
 rcases Ne.im t with h1|h1|h1|h1|h1<;>omega
abbrev u2H (l:List Tok) (kind left:Int) (i:Nat) (e:Nat) (acc:List Val):St :=
  { sl:=upd (upd (upd (upd (upd bot 9 (.c (.loc 9 0))) 8 (.c (.loc 8 0))) 3 (I left)) 2 (I kind)) 0 (L (l.map Tok.enc)),bx:=upd (upd nobox 9 (some [.own e (encL acc),.pv (.int .i64 i),.pv (.bool false)])) 8 (some [.own 0 [],.pv (.int .i64 0),.pv (.bool false)]),nt:=76 }
noncomputable def ulp2:Code := .loop (ao Tryz.f64 2)
def Ret2 (x:List (List PV)) (j:Int) (bad:Bool) (o:Out) (S:St):Prop:=o = .ret∧S.sl 8 = .c (.loc 8 0)∧S.bx 8=some [.pv (.sl x),.pv (.int .i64 j),.pv (.bool bad)]
theorem Gm (l:List Tok) (kind left:Int) (e:Nat) (acc:List Val) :
  Ends (exL K 64 ulp2 (u2H l kind left l.length e acc)) fun o S=>o = .exit 0∧S.nt=76∧S.sl 8 = .c (.loc 8 0)∧S.sl 9 = .c (.loc 9 0)∧S.bx 8=some [.own 0 [],.pv (.int .i64 0),.pv (.bool false)]∧S.bx 9=some [.own e (encL acc),.pv (.int .i64 l.length),.pv (.bool false)]:=by
 unfold ulp2
 conv in ao _ _=>whnf
 rw[aw]
 simp only[go_sem,Nat.reduceLT,reduceCtorEq,Nat.reduceEqDiff,Nat.reduceBEq,Nat.reduceAdd,ah aA,ay]
theorem sn (l:List Tok) (i:Nat) (t:Tok) (h:l[i]? = some t):(l.map Tok.enc)[(i:Int).toNat]? = some [.int .i64 t.kind,.str t.text,.int .i64 t.n]:=by
 simp[h,Tok.enc]
theorem Hw (l:List Tok) (kind left:Int) (i:Nat) (e:Nat) (acc:List Val) (t:Tok) (hi:l[i]? = some t) (hl:l.length≤100000000) (h:Ne.dL kind t=true) :
  Ends (exL K 64 ulp2 (u2H l kind left i e acc)) (Ret2 (encL acc) ((i+1:Nat):Int) false):=by
 have hil:i<l.length:=(List.getElem?_eq_some_iff.1 hi).1
 have hlt:decide ((i:Int)<(l.length:Int))=true:=decide_eq_true (by omega)
 have hget:=sn l i t hi
 have hw:IntKind.i64.wrap ((i:Int)+1)=((i+1:Nat):Int):=bA i (by omega)
 unfold Ne.dL at h
 rw[Bool.and_eq_true] at h
 obtain ⟨e1,e2⟩:=h
 have hld:=lD t kind
 rw[e2] at hld
 unfold ulp2 Ret2
 conv in ao _ _=>whnf
 rw[aw]
 simp only[go_sem,Nat.reduceLT,reduceCtorEq,Nat.reduceEqDiff,Nat.reduceBEq,Nat.reduceAdd,Nat.reduceLeDiff,ah aA,ae aA,hlt,hget,Int.natCast_nonneg,hw,e1,hld,ay]
theorem uf (acc:List Val) (k:Int) (t:Tok) (vs:List Val):encL acc++[[.int .i64 k,.int .i64 t.kind,.str t.text,.int .i64 t.n,.sl (encL vs)]]=encL (acc++[.mk k t vs]):=by
 rw[ig];rfl
theorem uG (acc:List Val) (k:Int) (t:Tok):encL acc++[[.int .i64 k,.int .i64 t.kind,.str t.text,.int .i64 t.n,.sl []]]=encL (acc++[.mk k t []]):=by
 rw[ig];rfl
theorem tD (acc:List Val) (k:Int) (vs:List Val):encL acc++[[.int .i64 k,.int .i64 0,.str [],.int .i64 0,.sl (encL vs)]]=encL (acc++[.mk k Ne.tok0 vs]):=by
 rw[ig];rfl
set_option maxHeartbeats 4000000 in
theorem Kx (l:List Tok) (kind left:Int) (i:Nat) (e:Nat) (acc:List Val) (t:Tok) (hi:l[i]? = some t) (hl:l.length≤100000000) (h:Ne.dL kind t=false) (he:e=93∨acc=[]) (hacc:acc.length<100000000) (h0:Ne.opens t=0) :
  exL K 64 ulp2 (u2H l kind left i e acc)=exL K 64 ulp2 (u2H l kind left (i+1) 93 (acc++[.mk 1 t []])):=by
 have hil:i<l.length:=(List.getElem?_eq_some_iff.1 hi).1
 have hlt:decide ((i:Int)<(l.length:Int))=true:=decide_eq_true (by omega)
 have hget:=sn l i t hi
 have hw:IntKind.i64.wrap ((i:Int)+1)=((i+1:Nat):Int):=bA i (by omega)
 have hld:=lD t kind
 have hop:=ot t
 rw[h0] at hop
 have hown:e=93∨(encL acc).isEmpty=true:=by
  rcases he with rfl|rfl
  ·exact .inl rfl
  ·exact .inr rfl
 have hlim:acc.length+1<cD:=by unfold cD;omega
 have hlv:=dD acc
 unfold ulp2
 conv in ao _ _=>whnf
 conv in ao _ _=>whnf
 conv in exL _ _ _ (u2H l kind left i e acc)=>rw[aw]
 unfold Ne.dL at h
 cases e1:decide (0<kind)
 ·simp only[go_sem,Nat.reduceLT,reduceCtorEq,Nat.reduceEqDiff,Nat.reduceBEq,Nat.reduceAdd,Nat.reduceLeDiff,Nat.reduceMul,ah aA,ae aA,af az bB,am (len:=1) ap a8 az ⟨rfl,by decide,by decide⟩,cB cI,br ap,hlt,hget,Int.natCast_nonneg,hw,e1,hop,aY,hlim,hlv,gS,hown,uG]
  rw[aB]
  simp only[go_sem,reduceCtorEq,Nat.reduceEqDiff,Nat.reduceBEq]
 ·rw[e1,Bool.true_and] at h
  rw[h] at hld
  simp only[go_sem,Nat.reduceLT,reduceCtorEq,Nat.reduceEqDiff,Nat.reduceBEq,Nat.reduceAdd,Nat.reduceLeDiff,Nat.reduceMul,ah aA,ae aA,af az bB,am (len:=1) ap a8 az ⟨rfl,by decide,by decide⟩,cB cI,br ap,hlt,hget,Int.natCast_nonneg,hw,e1,hld,hop,aY,hlim,hlv,gS,hown,uG]
  rw[aB]
  simp only[go_sem,reduceCtorEq,Nat.reduceEqDiff,Nat.reduceBEq]
set_option maxHeartbeats 4000000 in
theorem K3 (l:List Tok) (kind:Int) (n:Nat) (i j:Nat) (e:Nat) (acc:List Val) (t:Tok) (vs:List Val) (hi:l[i]? = some t) (hl:l.length≤100000000) (hn:n<1000) (h:Ne.dL kind t=false) (he:e=93∨acc=[]) (hacc:acc.length<100000000) (h0:Ne.opens t≠0)
  (hin:den K 64 [L (l.map Tok.enc),I ((i+1:Nat):Int),I (Ne.opens t),I n] []=some (.ret (.agg [.pv (.sl (encL vs)),.pv (.int .i64 j),.pv (.bool false)]) [])) :
  exL K 64 ulp2 (u2H l kind ((n+1:Nat):Int) i e acc)=exL K 64 ulp2 (u2H l kind ((n+1:Nat):Int) j 93 (acc++[.mk (Ne.opens t) (if Ne.opens t=5 then t else Ne.tok0) vs])):=by
 have hil:i<l.length:=(List.getElem?_eq_some_iff.1 hi).1
 have hlt:decide ((i:Int)<(l.length:Int))=true:=decide_eq_true (by omega)
 have hget:=sn l i t hi
 have hw:IntKind.i64.wrap ((i:Int)+1)=((i+1:Nat):Int):=bA i (by omega)
 have hld:=lD t kind
 have hop:=ot t
 have hpos:decide (0<Ne.opens t)=true:=decide_eq_true (nr h0)
 have hown:e=93∨(encL acc).isEmpty=true:=by
  rcases he with rfl|rfl
  ·exact .inl rfl
  ·exact .inr rfl
 have hlim:acc.length+1<cD:=by unfold cD;omega
 have hlv:=dD acc
 have hl0:(((n+1:Nat):Int)==0)=false:=by rw[beq_eq_false_iff_ne];omega
 have hwl:IntKind.i64.wrap (((n+1:Nat):Int) - 1)=(n:Int):=by rw[IntWalk.i64_in _ (by omega)];omega
 unfold ulp2
 conv in ao _ _=>whnf
 conv in ao _ _=>whnf
 conv in exL _ _ _ (u2H l kind _ i e acc)=>rw[aw]
 by_cases h5:Ne.opens t=5
 ·have e5:(Ne.opens t==5)=true:=by rw[beq_iff_eq];exact h5
  rw[if_pos h5]
  unfold Ne.dL at h
  cases e1:decide (0<kind)
  ·simp only[go_sem,Nat.reduceLT,reduceCtorEq,Nat.reduceEqDiff,Nat.reduceBEq,Nat.reduceAdd,Nat.reduceLeDiff,Nat.reduceMul,ah aA,ae aA,af az bB,am (len:=1) ap a8 az ⟨rfl,by decide,by decide⟩,cB cI,br ap,hlt,hget,Int.natCast_nonneg,hw,e1,hop,hpos,aY,hlim,hlv,gS,hown,hin,hwl,hl0,e5,uf]
   rw[aB]
   simp only[go_sem,reduceCtorEq,Nat.reduceEqDiff,Nat.reduceBEq]
  ·rw[e1,Bool.true_and] at h
   rw[h] at hld
   simp only[go_sem,Nat.reduceLT,reduceCtorEq,Nat.reduceEqDiff,Nat.reduceBEq,Nat.reduceAdd,Nat.reduceLeDiff,Nat.reduceMul,ah aA,ae aA,af az bB,am (len:=1) ap a8 az ⟨rfl,by decide,by decide⟩,cB cI,br ap,hlt,hget,Int.natCast_nonneg,hw,e1,hld,hop,hpos,aY,hlim,hlv,gS,hown,hin,hwl,hl0,e5,uf]
   rw[aB]
   simp only[go_sem,reduceCtorEq,Nat.reduceEqDiff,Nat.reduceBEq]
 ·have e5:(Ne.opens t==5)=false:=by rw[beq_eq_false_iff_ne];exact h5
  rw[if_neg h5]
  unfold Ne.dL at h
  cases e1:decide (0<kind)
  ·simp only[go_sem,Nat.reduceLT,reduceCtorEq,Nat.reduceEqDiff,Nat.reduceBEq,Nat.reduceAdd,Nat.reduceLeDiff,Nat.reduceMul,ah aA,ae aA,af az bB,am (len:=1) ap a8 az ⟨rfl,by decide,by decide⟩,cB cI,br ap,hlt,hget,Int.natCast_nonneg,hw,e1,hop,hpos,aY,hlim,hlv,gS,hown,hin,hwl,hl0,e5,tD]
   rw[aB]
   simp only[go_sem,reduceCtorEq,Nat.reduceEqDiff,Nat.reduceBEq]
  ·rw[e1,Bool.true_and] at h
   rw[h] at hld
   simp only[go_sem,Nat.reduceLT,reduceCtorEq,Nat.reduceEqDiff,Nat.reduceBEq,Nat.reduceAdd,Nat.reduceLeDiff,Nat.reduceMul,ah aA,ae aA,af az bB,am (len:=1) ap a8 az ⟨rfl,by decide,by decide⟩,cB cI,br ap,hlt,hget,Int.natCast_nonneg,hw,e1,hld,hop,hpos,aY,hlim,hlv,gS,hown,hin,hwl,hl0,e5,tD]
   rw[aB]
   simp only[go_sem,reduceCtorEq,Nat.reduceEqDiff,Nat.reduceBEq]
theorem HQ (l:List Tok) (kind:Int) (i:Nat) (e:Nat) (acc:List Val) (t:Tok) (hi:l[i]? = some t) (hl:l.length≤100000000) (h:Ne.dL kind t=false) (h0:Ne.opens t≠0) :
  Ends (exL K 64 ulp2 (u2H l kind ((0:Nat):Int) i e acc)) fun o S => ∃ a b,Ret2 a b true o S:=by
 have hil:i<l.length:=(List.getElem?_eq_some_iff.1 hi).1
 have hlt:decide ((i:Int)<(l.length:Int))=true:=decide_eq_true (by omega)
 have hget:=sn l i t hi
 have hw:IntKind.i64.wrap ((i:Int)+1)=((i+1:Nat):Int):=bA i (by omega)
 have hld:=lD t kind
 have hop:=ot t
 have hpos:decide (0<Ne.opens t)=true:=decide_eq_true (nr h0)
 have hl0:(((0:Nat):Int)==0)=true:=by decide
 unfold ulp2 Ret2
 conv in ao _ _=>whnf
 rw[aw]
 unfold Ne.dL at h
 cases e1:decide (0<kind)
 ·simp only[go_sem,Nat.reduceLT,reduceCtorEq,Nat.reduceEqDiff,Nat.reduceBEq,Nat.reduceAdd,Nat.reduceLeDiff,ah aA,ae aA,af az bB,hlt,hget,Int.natCast_nonneg,hw,e1,hop,hpos,hl0,ay]
  exact ⟨_,_,rfl⟩
 ·rw[e1,Bool.true_and] at h
  rw[h] at hld
  simp only[go_sem,Nat.reduceLT,reduceCtorEq,Nat.reduceEqDiff,Nat.reduceBEq,Nat.reduceAdd,Nat.reduceLeDiff,ah aA,ae aA,af az bB,hlt,hget,Int.natCast_nonneg,hw,e1,hld,hop,hpos,hl0,ay]
  exact ⟨_,_,rfl⟩
theorem KF (l:List Tok) (kind:Int) (n:Nat) (i:Nat) (e:Nat) (acc:List Val) (t:Tok) (hi:l[i]? = some t) (hl:l.length≤100000000) (hn:n<1000) (h:Ne.dL kind t=false) (h0:Ne.opens t≠0) (x:List (List PV)) (j:Int)
  (hin:den K 64 [L (l.map Tok.enc),I ((i+1:Nat):Int),I (Ne.opens t),I n] []=some (.ret (.agg [.pv (.sl x),.pv (.int .i64 j),.pv (.bool true)]) [])) :
  Ends (exL K 64 ulp2 (u2H l kind ((n+1:Nat):Int) i e acc)) fun o S => ∃ a b,Ret2 a b true o S:=by
 have hil:i<l.length:=(List.getElem?_eq_some_iff.1 hi).1
 have hlt:decide ((i:Int)<(l.length:Int))=true:=decide_eq_true (by omega)
 have hget:=sn l i t hi
 have hw:IntKind.i64.wrap ((i:Int)+1)=((i+1:Nat):Int):=bA i (by omega)
 have hld:=lD t kind
 have hop:=ot t
 have hpos:decide (0<Ne.opens t)=true:=decide_eq_true (nr h0)
 have hl0:(((n+1:Nat):Int)==0)=false:=by rw[beq_eq_false_iff_ne];omega
 have hwl:IntKind.i64.wrap (((n+1:Nat):Int) - 1)=(n:Int):=by rw[IntWalk.i64_in _ (by omega)];omega
 unfold ulp2 Ret2
 conv in ao _ _=>whnf
 rw[aw]
 unfold Ne.dL at h
 cases e1:decide (0<kind)
 ·simp only[go_sem,Nat.reduceLT,reduceCtorEq,Nat.reduceEqDiff,Nat.reduceBEq,Nat.reduceAdd,Nat.reduceLeDiff,ah aA,ae aA,af az bB,hlt,hget,Int.natCast_nonneg,hw,e1,hop,hpos,hl0,hwl,hin,ay]
  exact ⟨_,_,rfl⟩
 ·rw[e1,Bool.true_and] at h
  rw[h] at hld
  simp only[go_sem,Nat.reduceLT,reduceCtorEq,Nat.reduceEqDiff,Nat.reduceBEq,Nat.reduceAdd,Nat.reduceLeDiff,ah aA,ae aA,af az bB,hlt,hget,Int.natCast_nonneg,hw,e1,hld,hop,hpos,hl0,hwl,hin,ay]
  exact ⟨_,_,rfl⟩
def ULoop2 (l:List Tok) (kind:Int) (left:Nat) (i:Nat) (acc:List Val) (o:Out) (S:St):Prop :=
 match Ne.dQ kind left (l.drop i) with
 | some (vs,rest) => ∃ j:Nat,l.drop j=rest∧j≤l.length∧i≤j∧(Ret2 (encL (acc++vs)) (j:Int) false o S ∨
   (o = .exit 0∧S.nt=76∧S.sl 8 = .c (.loc 8 0)∧S.sl 9 = .c (.loc 9 0)∧S.bx 8=some [.own 0 [],.pv (.int .i64 0),.pv (.bool false)] ∧ ∃ e,S.bx 9=some [.own e (encL (acc++vs)),.pv (.int .i64 j),.pv (.bool false)]))
 | none => ∃ a b,Ret2 a b true o S
def UDen2 (l:List Tok) (kind:Int) (left:Nat) (i:Nat):Prop :=
 match Ne.dQ kind left (l.drop i) with
 | some (vs,rest) => ∃ j:Nat,l.drop j=rest∧j≤l.length∧i≤j∧den K 64 [L (l.map Tok.enc),I (i:Int),I kind,I left] []=some (.ret (.agg [.pv (.sl (encL vs)),.pv (.int .i64 j),.pv (.bool false)]) [])
 | none => ∃ a b,den K 64 [L (l.map Tok.enc),I (i:Int),I kind,I left] []=some (.ret (.agg [.pv (.sl a),.pv (.int .i64 b),.pv (.bool true)]) [])
theorem FX {l:List Tok} {kind:Int} {left i:Nat}
  (h:Ends (exL K 64 ulp2 (u2H l kind left i 0 [])) (ULoop2 l kind left i [])):UDen2 l kind left i:=by
 have hr:Tryz.f64.results = #[.cell 8 102]:=rfl
 unfold ulp2 at h
 conv at h in ao _ _=>whnf
 obtain ⟨o,S',w,hq⟩:=h
 unfold ULoop2 at hq
 unfold UDen2
 cases hu:Ne.dQ kind left (l.drop i) with
 | some x =>
  obtain ⟨vs,rest⟩:=x
  rw[hu] at hq
  obtain ⟨j,q1,q2,q3,hq⟩:=hq
  refine ⟨j,q1,q2,q3,?_⟩
  rw[List.nil_append] at hq
  refine ai rfl rfl Tryz.func64 rfl Tryz.ntmps64 ⟨by simp,by simp[LK]⟩ ?_
  simp only[go_sem,Nat.reduceLT,Nat.reduceEqDiff,Nat.reduceBEq,Nat.reduceAdd,Nat.reduceSub,Nat.reduceLeDiff,af fW lq]
  rw[aB]
  simp only[go_sem,reduceCtorEq,Nat.reduceEqDiff,Nat.reduceBEq,Nat.reduceSub,Nat.reduceLeDiff]
  erw [w]
  rcases hq with ⟨rfl,h1,h2⟩|⟨rfl,hn,h8,h9,b8,e,b9⟩
  ·simp only[go_sem,Nat.reduceAdd,hr,h1,h2]
  ·simp only[go_sem,Nat.reduceLT,Nat.reduceEqDiff,Nat.reduceBEq,Nat.reduceAdd,hr,hn,h8,h9,b8,b9]
 | none =>
  rw[hu] at hq
  obtain ⟨a,b,rfl,h1,h2⟩:=hq
  refine ⟨a,b,?_⟩
  refine ai rfl rfl Tryz.func64 rfl Tryz.ntmps64 ⟨by simp,by simp[LK]⟩ ?_
  simp only[go_sem,Nat.reduceLT,Nat.reduceEqDiff,Nat.reduceBEq,Nat.reduceAdd,Nat.reduceSub,Nat.reduceLeDiff,af fW lq]
  rw[aB]
  simp only[go_sem,reduceCtorEq,Nat.reduceEqDiff,Nat.reduceBEq,Nat.reduceSub,Nat.reduceLeDiff]
  erw [w]
  simp only[go_sem,Nat.reduceAdd,hr,h1,h2]
attribute [local go_sem] Am fL jU iz rH sG wX yk
def TS.live':TS→TS
 | .nils => .live
 | x=>x
theorem TS.live_toks (x:TS):x.live'.toks=x.toks:=by cases x<;>rfl
abbrev numH (s:List UInt8) (et:Nat) (ct:List (List PV)) (from_ e:Nat) (d:List UInt8) (n:Int) (i:Nat):St :=
  { sl:=upd (upd (upd (upd (upd bot 29 (.c (.iter d i))) 4 (I n)) 3 (I e)) 2 (I from_)) 0 P0,bx:=upd nobox 100000 (some [.pv (.str s),.own et ct]),nt:=72 }
theorem Bm (v:Int):(if (999999999:Int)<v then (999999999:Int) else v)=min v 999999999:=by
 split<;>omega
theorem E0 (s:List UInt8) (et:Nat) (ct:List (List PV)) (from_ e:Nat) (d:List UInt8) (hd : ∀ b∈d,Tk.digit b=true) : ∀ (rest:List UInt8) (i:Nat) (n:Int),d.drop i=rest→i≤d.length→0≤n→n≤999999999 →
  Ends (exL K 186 (.loop (ao Tryz.f186 6)) (numH s et ct from_ e d n i)) fun o S=>o = .exit 0∧S.sl 0=P0∧S.sl 2=I from_∧S.sl 3=I e∧S.sl 4=I (Tk.num n rest)∧S.nt=72∧S.bx=upd nobox 100000 (some [.pv (.str s),.own et ct]):=by
 intro rest
 induction rest with
 | nil =>
  intro i n hr hi h0 h1
  have hin:i=d.length:=by
   have:=List.drop_eq_nil_iff.1 hr
   omega
  subst hin
  have hlt:(d.length<d.length)=False:=by simp
  conv in ao _ _=>whnf
  rw[aw]
  simp only[go_sem,Nat.reduceLT,reduceCtorEq,Nat.reduceEqDiff,Nat.reduceBEq,Nat.reduceAdd,ay,hlt,Tk.num]
 | cons c rest ih =>
  intro i n hr hi h0 h1
  obtain ⟨g1,g2,g3⟩:=bS hr
  have hc:Tk.digit c=true:=hd c (List.mem_of_getElem? g1)
  have hcn:48≤c.toNat∧c.toNat≤57:=by simpa[Tk.digit] using hc
  obtain ⟨r,wd,hdec,hw1,hw2,hr2,hcase⟩:=uk d i g3
  have hrc:r=c.toNat∧wd=1:=by
   rcases hcase with ⟨_,hw,b,hb,hbr⟩|⟨_,hall⟩
   ·rw[g1] at hb;cases hb;exact ⟨hbr.symm,hw⟩
   ·have:=hall i c (Nat.le_refl _) (by omega) g1;omega
  obtain ⟨rfl,rfl⟩:=hrc
  have hit:iK d i=i+1:=by unfold iK;rw[hdec]
  have hlt:(i<d.length)=True:=eq_true g3
  have w1:IntKind.i64.wrap (10*n)=10*n:=IntWalk.i64_in _ (by omega)
  have w2:IntKind.i32.wrap ((c.toNat:Int) - 48)=(c.toNat:Int) - 48:=IntWalk.i32_in _ (by omega)
  have w3:IntKind.i64.wrap ((c.toNat:Int) - 48)=(c.toNat:Int) - 48:=IntWalk.i64_in _ (by omega)
  have w4:IntKind.i64.wrap (10*n+((c.toNat:Int) - 48))=10*n+((c.toNat:Int) - 48):=IntWalk.i64_in _ (by omega)
  have hv:Tk.num n (c::rest)=Tk.num (min (10*n+((c.toNat:Int) - 48)) 999999999) rest:=by rw[Tk.num,if_pos hc]
  rw[hv]
  have ih':=ih (i+1) (min (10*n+((c.toNat:Int) - 48)) 999999999) g2 (by omega) (by omega) (by omega)
  conv at ih' in ao _ _=>whnf
  conv in ao _ _=>whnf
  rw[aw]
  simp only[go_sem,Nat.reduceLT,reduceCtorEq,Nat.reduceEqDiff,Nat.reduceBEq,Nat.reduceAdd,dl u6 dF,hlt,hdec,hit,w1,w2,w3,w4,q9,jR,List.foldl_cons,List.foldl_nil,Bm]
  rw[aB]
  simp only[go_sem,reduceCtorEq,Nat.reduceEqDiff]
  exact ih'
set_option maxHeartbeats 8000000 in
theorem rr (s:List UInt8) (x:TS) (neg:Bool) (from_:Nat) (l:List UInt8) (hf:from_=if neg then 1 else 0) (hl:s.drop from_=l) (hle:from_≤s.length) (h45:(Tk.at0 s==45)=neg) (hs:s.length<4000000000) (hx:x.toks.length<4000000000) :
  den K 186 [P0] [scan s x]=some (.ret (.tup []) [scan (s.drop (from_+(Tk.number neg l).2)) (.wr (x.toks++[(Tk.number neg l).1]))]):=by
 have d0:=np s 0 (by omega)
 rw[List.drop_zero] at d0
 have e45:(((Tk.at0 s).toNat:Int)==45)=neg:=by rw[←h45];exact ey _ 45
 have hrun:=qK s (by omega) Tk.digit 185 qX rfl mr from_ hle
 rw[hl] at hrun
 have hrl:=Tk.run_le (p:=Tk.digit) l
 have hll:l.length=s.length - from_:=by rw[←hl,List.length_drop]
 have hnum:=Tk.mq (l:=l) (n:=0) (by omega) (by omega)
 have hdig:=Tk.oQ (p:=Tk.digit) l
 generalize hk:Tk.run Tk.digit l=k at hrun hrl hdig
 have hle2:from_+k≤s.length:=by omega
 have hde:s.drop (from_+k)=l.drop k:=by rw[←List.drop_drop,hl]
 have dn:=rV s (by omega) (from_+k) hle2
 have da:=np s (from_+k) (by omega)
 rw[hde] at dn da
 have hul:=Tk.vP (l.drop k)
 rw[List.length_drop] at hul
 have e37:(((Tk.at0 (l.drop k)).toNat:Int)==37)=(Tk.at0 (l.drop k)==37):=ey _ 37
 have hnn:Tk.num 0 (l.take k)=Tk.num 0 l:=by
  have:l=l.take k++l.drop k:=(List.take_append_drop k l).symm
  conv=>rhs;rw[this]
  rw[Tk.qt hdig]
  exact (Tk.yJ (n:=Tk.num 0 (l.take k)) (by rw[←hk];exact Tk.xG Tk.sH l)).symm
 have hin:=fun et ct=>E0 s et ct from_ (from_+k) (l.take k) hdig (l.take k) 0 0 rfl (Nat.zero_le _) (by omega) (by omega)
 rw[hnn] at hin
 conv at hin in ao _ _=>whnf
 have hsub:(s.take (from_+k)).drop from_=l.take k:=by rw[List.drop_take,hl];congr 1;omega
 unfold Tk.number
 simp only[hk]
 rw[←Nat.add_assoc]
 generalize hu:Tk.unit (l.drop k)=u at hul
 have hput:=fun v=>Bb s x.live' (from_+k+u) 5 ((l.drop k).take u) v (by omega) (by rw[TS.live_toks];exact hx)
 rw[TS.live_toks] at hput
 have hsub2:(s.take (from_+k+u)).drop (from_+k)=(l.drop k).take u:=by rw[List.drop_take,hde];congr 1;omega
 have b1:((0:Int)≤((from_+k:Nat):Int)∧((from_+k:Nat):Int)≤(s.length:Int))=True:=eq_true (by omega)
 have b2:((0:Int)≤(from_:Int)∧(from_:Int)≤((from_+k:Nat):Int))=True:=eq_true (by omega)
 have b3:((0:Int)≤((from_+k+u:Nat):Int)∧((from_+k+u:Nat):Int)≤(s.length:Int))=True:=eq_true (by omega)
 have b4:((0:Int)≤((from_+k:Nat):Int)∧((from_+k:Nat):Int)≤((from_+k+u:Nat):Int))=True:=eq_true (by omega)
 have w1:IntKind.i64.wrap ((from_:Int)+(k:Int))=((from_+k:Nat):Int):=by rw[IntWalk.i64_in _ (by omega)];rfl
 have w2:IntKind.i64.wrap (((from_+k:Nat):Int)+(u:Int))=((from_+k+u:Nat):Int):=by rw[IntWalk.i64_in _ (by omega)];rfl
 have w3:IntKind.i64.wrap (0 - Tk.num 0 l) = -Tk.num 0 l:=by rw[IntWalk.i64_in _ (by omega)];omega
 have t0:Int.toNat 0=0:=rfl
 have t1:Int.toNat 1=1:=rfl
 have z01:((0:Int)=1)=False:=by simp
 have z0:((0:Nat):Int)=0:=rfl
 have z1:((1:Nat):Int)=1:=rfl
 have hu37:(Tk.at0 (l.drop k)==37)=false→Tk.name (l.drop k)=u:=fun h=>by
  rw[←hu,Tk.unit,if_neg (by simpa using h)]
 have hu1:(Tk.at0 (l.drop k)==37)=true→u=1:=fun h=>by
  rw[←hu,Tk.unit,if_pos (by simpa using h)]
 refine ai rfl rfl Tryz.func186 rfl Tryz.ntmps186 ⟨by simp,by simp[LK]⟩ ?_
 have hr:Tryz.f186.results = #[]:=rfl
 cases neg
 all_goals (
  simp only[Bool.false_eq_true,if_true,if_false] at hf
  subst hf
  simp only[z0,z1,Nat.zero_add] at d0 hrun w1 b1 b2 b3 b4 w2 hin hsub hsub2 hput dn da hu37 hu1 e45
  first|(rw[List.drop_zero] at hl;subst hl)|skip
  cases x)
 ·obtain ⟨o,S',e,rfl,f0,f2,f3,f4,fn,fb⟩:=hin 0 []
  simp only[TS.cell,TS.live',TS.toks,scan,List.map_cons,List.map_nil,Tok.enc,List.nil_append] at hput ⊢
  simp only[go_sem,Nat.reduceLT,reduceCtorEq,Nat.reduceEqDiff,Nat.reduceBEq,Nat.reduceAdd,ar ax,jo ax,d0,e45,hrun,w1,b1,b2,Int.toNat_natCast,hsub,t0]
  rw[aB]
  simp only[go_sem,reduceCtorEq,Nat.reduceEqDiff]
  erw [e]
  cases h37:(Tk.at0 (s.drop k)==37)
  ·rw[h37] at e37
   rw[hu37 h37] at dn
   simp only[go_sem,Nat.reduceLT,reduceCtorEq,Nat.reduceEqDiff,Nat.reduceBEq,Nat.reduceAdd,ar ax,hr,z01,f0,f2,f3,f4,fn,fb,dn,da,e37,w2,w3,b3,b4,Int.toNat_natCast,hsub2,hput]
  ·rw[h37] at e37
   rw[hu1 h37] at w2 b3 b4 hput hsub2 ⊢
   simp only[z1] at w2
   simp only[go_sem,Nat.reduceLT,reduceCtorEq,Nat.reduceEqDiff,Nat.reduceBEq,Nat.reduceAdd,ar ax,hr,z01,f0,f2,f3,f4,fn,fb,dn,da,e37,w2,w3,b3,b4,Int.toNat_natCast,hsub2,hput]

 ·obtain ⟨o,S',e,rfl,f0,f2,f3,f4,fn,fb⟩:=hin 0 []
  simp only[TS.cell,TS.live',TS.toks,scan,List.map_cons,List.map_nil,Tok.enc,List.nil_append] at hput ⊢
  simp only[go_sem,Nat.reduceLT,reduceCtorEq,Nat.reduceEqDiff,Nat.reduceBEq,Nat.reduceAdd,ar ax,jo ax,d0,e45,hrun,w1,b1,b2,Int.toNat_natCast,hsub,t0]
  rw[aB]
  simp only[go_sem,reduceCtorEq,Nat.reduceEqDiff]
  erw [e]
  cases h37:(Tk.at0 (s.drop k)==37)
  ·rw[h37] at e37
   rw[hu37 h37] at dn
   simp only[go_sem,Nat.reduceLT,reduceCtorEq,Nat.reduceEqDiff,Nat.reduceBEq,Nat.reduceAdd,ar ax,hr,z01,f0,f2,f3,f4,fn,fb,dn,da,e37,w2,w3,b3,b4,Int.toNat_natCast,hsub2,hput]
  ·rw[h37] at e37
   rw[hu1 h37] at w2 b3 b4 hput hsub2 ⊢
   simp only[z1] at w2
   simp only[go_sem,Nat.reduceLT,reduceCtorEq,Nat.reduceEqDiff,Nat.reduceBEq,Nat.reduceAdd,ar ax,hr,z01,f0,f2,f3,f4,fn,fb,dn,da,e37,w2,w3,b3,b4,Int.toNat_natCast,hsub2,hput]

 ·rename_i lt
  obtain ⟨o,S',e,rfl,f0,f2,f3,f4,fn,fb⟩:=hin 91 (lt.map Tok.enc)
  simp only[TS.cell,TS.live',TS.toks,scan,List.map_append,List.map_cons,List.map_nil,Tok.enc] at hput ⊢
  simp only[go_sem,Nat.reduceLT,reduceCtorEq,Nat.reduceEqDiff,Nat.reduceBEq,Nat.reduceAdd,ar ax,jo ax,d0,e45,hrun,w1,b1,b2,Int.toNat_natCast,hsub,t0]
  rw[aB]
  simp only[go_sem,reduceCtorEq,Nat.reduceEqDiff]
  erw [e]
  cases h37:(Tk.at0 (s.drop k)==37)
  ·rw[h37] at e37
   rw[hu37 h37] at dn
   simp only[go_sem,Nat.reduceLT,reduceCtorEq,Nat.reduceEqDiff,Nat.reduceBEq,Nat.reduceAdd,ar ax,hr,z01,f0,f2,f3,f4,fn,fb,dn,da,e37,w2,w3,b3,b4,Int.toNat_natCast,hsub2,hput]
  ·rw[h37] at e37
   rw[hu1 h37] at w2 b3 b4 hput hsub2 ⊢
   simp only[z1] at w2
   simp only[go_sem,Nat.reduceLT,reduceCtorEq,Nat.reduceEqDiff,Nat.reduceBEq,Nat.reduceAdd,ar ax,hr,z01,f0,f2,f3,f4,fn,fb,dn,da,e37,w2,w3,b3,b4,Int.toNat_natCast,hsub2,hput]

 ·obtain ⟨o,S',e,rfl,f0,f2,f3,f4,fn,fb⟩:=hin 0 []
  simp only[TS.cell,TS.live',TS.toks,scan,List.map_cons,List.map_nil,Tok.enc,List.nil_append] at hput ⊢
  simp only[go_sem,Nat.reduceLT,reduceCtorEq,Nat.reduceEqDiff,Nat.reduceBEq,Nat.reduceAdd,ar ax,jo ax,d0,e45,hrun,w1,b1,b2,Int.toNat_natCast,hsub,t1]
  rw[aB]
  simp only[go_sem,reduceCtorEq,Nat.reduceEqDiff]
  erw [e]
  cases h37:(Tk.at0 (l.drop k)==37)
  ·rw[h37] at e37
   rw[hu37 h37] at dn
   simp only[go_sem,Nat.reduceLT,reduceCtorEq,Nat.reduceEqDiff,Nat.reduceBEq,Nat.reduceAdd,ar ax,hr,f0,f2,f3,f4,fn,fb,dn,da,e37,w2,w3,b3,b4,Int.toNat_natCast,hsub2,hput]
  ·rw[h37] at e37
   rw[hu1 h37] at w2 b3 b4 hput hsub2 ⊢
   simp only[z1] at w2
   simp only[go_sem,Nat.reduceLT,reduceCtorEq,Nat.reduceEqDiff,Nat.reduceBEq,Nat.reduceAdd,ar ax,hr,f0,f2,f3,f4,fn,fb,dn,da,e37,w2,w3,b3,b4,Int.toNat_natCast,hsub2,hput]

 ·obtain ⟨o,S',e,rfl,f0,f2,f3,f4,fn,fb⟩:=hin 0 []
  simp only[TS.cell,TS.live',TS.toks,scan,List.map_cons,List.map_nil,Tok.enc,List.nil_append] at hput ⊢
  simp only[go_sem,Nat.reduceLT,reduceCtorEq,Nat.reduceEqDiff,Nat.reduceBEq,Nat.reduceAdd,ar ax,jo ax,d0,e45,hrun,w1,b1,b2,Int.toNat_natCast,hsub,t1]
  rw[aB]
  simp only[go_sem,reduceCtorEq,Nat.reduceEqDiff]
  erw [e]
  cases h37:(Tk.at0 (l.drop k)==37)
  ·rw[h37] at e37
   rw[hu37 h37] at dn
   simp only[go_sem,Nat.reduceLT,reduceCtorEq,Nat.reduceEqDiff,Nat.reduceBEq,Nat.reduceAdd,ar ax,hr,f0,f2,f3,f4,fn,fb,dn,da,e37,w2,w3,b3,b4,Int.toNat_natCast,hsub2,hput]
  ·rw[h37] at e37
   rw[hu1 h37] at w2 b3 b4 hput hsub2 ⊢
   simp only[z1] at w2
   simp only[go_sem,Nat.reduceLT,reduceCtorEq,Nat.reduceEqDiff,Nat.reduceBEq,Nat.reduceAdd,ar ax,hr,f0,f2,f3,f4,fn,fb,dn,da,e37,w2,w3,b3,b4,Int.toNat_natCast,hsub2,hput]

 ·rename_i lt
  obtain ⟨o,S',e,rfl,f0,f2,f3,f4,fn,fb⟩:=hin 91 (lt.map Tok.enc)
  simp only[TS.cell,TS.live',TS.toks,scan,List.map_append,List.map_cons,List.map_nil,Tok.enc] at hput ⊢
  simp only[go_sem,Nat.reduceLT,reduceCtorEq,Nat.reduceEqDiff,Nat.reduceBEq,Nat.reduceAdd,ar ax,jo ax,d0,e45,hrun,w1,b1,b2,Int.toNat_natCast,hsub,t1]
  rw[aB]
  simp only[go_sem,reduceCtorEq,Nat.reduceEqDiff]
  erw [e]
  cases h37:(Tk.at0 (l.drop k)==37)
  ·rw[h37] at e37
   rw[hu37 h37] at dn
   simp only[go_sem,Nat.reduceLT,reduceCtorEq,Nat.reduceEqDiff,Nat.reduceBEq,Nat.reduceAdd,ar ax,hr,f0,f2,f3,f4,fn,fb,dn,da,e37,w2,w3,b3,b4,Int.toNat_natCast,hsub2,hput]
  ·rw[h37] at e37
   rw[hu1 h37] at w2 b3 b4 hput hsub2 ⊢
   simp only[z1] at w2
   simp only[go_sem,Nat.reduceLT,reduceCtorEq,Nat.reduceEqDiff,Nat.reduceBEq,Nat.reduceAdd,ar ax,hr,f0,f2,f3,f4,fn,fb,dn,da,e37,w2,w3,b3,b4,Int.toNat_natCast,hsub2,hput]
attribute [local go_sem] Fy rq zg AA
def eL (c:UInt8):Int:=if Tk.begins c then 1 else if Tk.digit c then 2 else if c==45 then 3 else if Tk.blank c then 4 else 0
def isI (v:Int):Option Res→Bool
 | some (.ret (.c (.pv (.int .i64 n))) [])=>n==v
 | _=>false
theorem Hh {v:Int} {r:Option Res} (h:isI v r=true):r=some (.ret (I v) []):=by
 unfold isI at h
 split at h
 ·rename_i n
  have:n=v:=by simpa using h
  rw[this]
 ·cases h
theorem B0:(List.range 256).all (fun n=>isI (eL (UInt8.ofNat n)) (dW K 5 157 [.c (.pv (.int .u8 (n:Nat)))] []))=true:=by kernel_rfl
theorem C2 (c:UInt8):den K 157 [U c] []=some (.ret (I (eL c)) []):=by
 have h:=List.all_eq_true.1 B0 c.toNat (List.mem_range.2 c.toNat_lt)
 have h2:=Hh h
 rw[UInt8.ofNat_toNat] at h2
 exact nH.2 ⟨5,h2⟩
theorem ql:(List.range 256).all (fun n=>let c:=UInt8.ofNat n;((eL c==1)==Tk.begins c)&&((eL c==2)==Tk.digit c)&&((eL c==3)==(c==45))&&((eL c==4)==Tk.blank c)&&((decide (1≤eL c)&&decide (eL c≤3))==Tk.within c))=true:=by kernel_rfl
theorem iQ (c:UInt8):(eL c==1)=Tk.begins c∧(eL c==2)=Tk.digit c∧(eL c==3)=(c==45)∧(eL c==4)=Tk.blank c∧(decide (1≤eL c)&&decide (eL c≤3))=Tk.within c:=by
 have h:=List.all_eq_true.1 ql c.toNat (List.mem_range.2 c.toNat_lt)
 simp only[UInt8.ofNat_toNat,Bool.and_eq_true,beq_iff_eq] at h
 obtain ⟨⟨⟨⟨h1,h2⟩,h3⟩,h4⟩,h5⟩:=h
 exact ⟨h1,h2,h3,h4,h5⟩
def atC:List UInt8→Int
 | [] => -1
 | c::_=>eL c
theorem py (l:List UInt8):(atC l==1)=Tk.begins (Tk.at0 l)∧(atC l==2)=Tk.digit (Tk.at0 l)∧(atC l==3)=(Tk.at0 l==45)∧(atC l==4)=Tk.blank (Tk.at0 l)∧(decide (1≤atC l)&&decide (atC l≤3))=Tk.within (Tk.at0 l):=by
 cases l with
 | nil=>decide
 | cons c r=>exact iQ c
theorem gi (s:List UInt8) (i:Nat) (hs:s.length<4000000000):den K 116 [T s,I i] []=some (.ret (I (atC (s.drop i))) []):=by
 refine ai rfl rfl Tryz.func116 rfl Tryz.ntmps116 ⟨by simp,by simp[LK]⟩ ?_
 have hr:Tryz.f116.results = #[.tmp 4]:=rfl
 by_cases h:i<s.length
 ·have hlt:decide ((i:Int)<(s.length:Int))=true:=decide_eq_true (by omega)
  have hd:=List.drop_eq_getElem_cons h
  have hg:s[i]? = some (s[i]'h):=List.getElem?_eq_getElem h
  generalize s[i]'h=c at hd hg
  rw[hd,atC]
  have hc:=C2 c
  simp only[go_sem,Nat.reduceLT,reduceCtorEq,Nat.reduceEqDiff,Nat.reduceBEq,Nat.reduceAdd,aE al,aZ al,hr,hlt,Int.natCast_nonneg,Int.toNat_natCast,hg,hc]
 ·have hlt:decide ((i:Int)<(s.length:Int))=false:=decide_eq_false (by omega)
  rw[List.drop_eq_nil_of_le (by omega),atC]
  simp only[go_sem,Nat.reduceLT,reduceCtorEq,Nat.reduceEqDiff,Nat.reduceBEq,Nat.reduceAdd,aE al,aZ al,hr,hlt]
theorem ng (s:List UInt8) (i:Nat) (hs:s.length<4000000000) (hi:i≤s.length):den K 119 [T s,I i] []=some (.ret (B (Tk.dR (s.drop i))) []):=by
 have d1:=gi s i hs
 have d2:=gi s (i+1) hs
 obtain ⟨f1,_,f3,_,_⟩:=py (s.drop i)
 obtain ⟨g1,_,g3,_,_⟩:=py (s.drop (i+1))
 have ht:(s.drop i).tail=s.drop (i+1):=List.tail_drop
 unfold Tk.dR
 rw[ht,←f1,←f3,←g1,←g3]
 generalize atC (s.drop i)=v at d1
 generalize atC (s.drop (i+1))=w at d2
 clear f1 f3 g1 g3 ht
 refine ai rfl rfl Tryz.func119 rfl Tryz.ntmps119 ⟨by simp,by simp[LK]⟩ ?_
 have hr:Tryz.f119.results = #[.tmp 4]:=rfl
 cases b1:(v==1)
 ·cases b3:(v==3)
  ·simp only[go_sem,Nat.reduceLT,reduceCtorEq,Nat.reduceEqDiff,Nat.reduceBEq,Nat.reduceAdd,hr,d1,b1,b3]
  ·cases c1:(w==1)
   ·cases c3:(w==3)<;>simp only[go_sem,Nat.reduceLT,reduceCtorEq,Nat.reduceEqDiff,Nat.reduceBEq,Nat.reduceAdd,hr,d1,d2,b1,b3,c1,c3,bA i (by omega)]
   ·simp only[go_sem,Nat.reduceLT,reduceCtorEq,Nat.reduceEqDiff,Nat.reduceBEq,Nat.reduceAdd,hr,d1,d2,b1,b3,c1,bA i (by omega)]
 ·simp only[go_sem,Nat.reduceLT,reduceCtorEq,Nat.reduceEqDiff,Nat.reduceBEq,Nat.reduceAdd,hr,d1,b1]
abbrev KH (s:List UInt8) (i:Nat):St := { sl:=upd (upd bot 1 (I i)) 0 (T s),bx:=nobox,nt:=18 }
theorem Aq (s:List UInt8) (hs:s.length<4000000000) : ∀ (rest:List UInt8) (i:Nat),s.drop i=rest→i≤s.length →
  Ends (exL K 118 (.loop (ao Tryz.f118 1)) (KH s i)) fun o S=>o = .exit 0∧S.nt=18∧S.sl 1=I (i+Tk.run Tk.within rest:Nat):=by
 intro rest
 induction rest with
 | nil =>
  intro i hd hi
  have d1:=gi s i hs
  rw[hd] at d1
  have v0:atC [] = -1:=rfl
  rw[v0] at d1
  have e0:decide ((1:Int) ≤ -1)=false:=by decide
  conv in ao _ _=>whnf
  rw[aw]
  simp only[go_sem,Nat.reduceLT,reduceCtorEq,Nat.reduceEqDiff,Nat.reduceBEq,Nat.reduceAdd,ay,d1,e0,Tk.qI]
 | cons c rest ih =>
  intro i hd hi
  obtain ⟨g1,g2,g3⟩:=bS hd
  have d1:=gi s i hs
  rw[hd] at d1
  have v0:atC (c::rest)=eL c:=rfl
  rw[v0] at d1
  obtain ⟨_,_,_,_,f⟩:=iQ c
  have ih':=ih (i+1) g2 (by omega)
  conv at ih' in ao _ _=>whnf
  conv in ao _ _=>whnf
  rw[aw]
  cases b1:decide (1≤eL c)
  ·rw[b1,Bool.false_and] at f
   have hv:Tk.run Tk.within (c::rest)=0:=by rw[Tk.run,←f];rfl
   simp only[go_sem,Nat.reduceLT,reduceCtorEq,Nat.reduceEqDiff,Nat.reduceBEq,Nat.reduceAdd,ay,d1,b1,hv]
  ·rw[b1,Bool.true_and] at f
   cases b2:decide (eL c≤3)
   ·rw[b2] at f
    have hv:Tk.run Tk.within (c::rest)=0:=by rw[Tk.run,←f];rfl
    simp only[go_sem,Nat.reduceLT,reduceCtorEq,Nat.reduceEqDiff,Nat.reduceBEq,Nat.reduceAdd,ay,d1,b1,b2,hv]
   ·rw[b2] at f
    have hv:i+1+Tk.run Tk.within rest=i+Tk.run Tk.within (c::rest):=by rw[Tk.run,if_pos f.symm];omega
    rw[hv] at ih'
    simp only[go_sem,Nat.reduceLT,reduceCtorEq,Nat.reduceEqDiff,Nat.reduceBEq,Nat.reduceAdd,d1,b1,b2,bA i (by omega)]
    rw[aB]
    simp only[go_sem,reduceCtorEq,Nat.reduceEqDiff]
    exact ih'
theorem o1 (s:List UInt8) (i:Nat) (hs:s.length<4000000000) (hi:i≤s.length):den K 118 [T s,I i] []=some (.ret (I (i+Tk.run Tk.within (s.drop i):Nat)) []):=by
 refine ai rfl rfl Tryz.func118 rfl Tryz.ntmps118 ⟨by simp,by simp[LK]⟩ ?_
 have hr:Tryz.f118.results = #[.tmp 4]:=rfl
 have hl:=Aq s hs (s.drop i) i rfl hi
 conv at hl in ao _ _=>whnf
 obtain ⟨o,S',w,rfl,hn,h1⟩:=hl
 simp only[go_sem,Nat.reduceLT,Nat.reduceBEq]
 rw[aB]
 simp only[go_sem,reduceCtorEq,Nat.reduceEqDiff]
 erw [w]
 simp only[go_sem,Nat.reduceLT,Nat.reduceEqDiff,Nat.reduceBEq,Nat.reduceAdd,hr,hn,h1]
abbrev comH (s:List UInt8) (k:Nat):St := { sl:=upd (upd bot 5 (I k)) 0 (T s),bx:=nobox,nt:=30 }
theorem Ei (s:List UInt8) (hs:s.length<4000000000) : ∀ (rest:List UInt8) (k:Nat),s.drop k=rest→k≤s.length →
  Ends (exL K 115 (.loop (ao Tryz.f115 2)) (comH s k)) fun o S=>(∃ n,Tk.shut rest=some n∧o = .ret∧S.sl 4=I (k+n:Nat))∨(Tk.shut rest=none∧o = .exit 0∧S.nt=30∧S.sl 0=T s):=by
 intro rest
 induction rest with
 | nil =>
  intro k hd hk
  have hin:k=s.length:=by
   have:=List.drop_eq_nil_iff.1 hd
   omega
  subst hin
  have w1:=bA s.length (by omega)
  have e0:decide (((s.length+1:Nat):Int)<(s.length:Int))=false:=decide_eq_false (by omega)
  have hv:Tk.shut []=none:=rfl
  conv in ao _ _=>whnf
  rw[aw]
  simp only[go_sem,Nat.reduceLT,reduceCtorEq,Nat.reduceEqDiff,Nat.reduceBEq,Nat.reduceAdd,aE al,ay,w1,e0,hv]
 | cons c rest ih =>
  intro k hd hk
  obtain ⟨g1,g2,g3⟩:=bS hd
  have w1:=bA k (by omega)
  have e42:((c.toNat:Int)==42)=(c==42):=ey c 42
  cases rest with
  | nil =>
   have hl:k+1=s.length:=by
    have:=List.drop_eq_nil_iff.1 g2
    omega
   have e0:decide (((k+1:Nat):Int)<(s.length:Int))=false:=decide_eq_false (by omega)
   have hv:Tk.shut [c]=none:=by
    rw[Tk.shut,if_neg (fun h=>absurd h.2 (by decide))];rfl
   conv in ao _ _=>whnf
   rw[aw]
   simp only[go_sem,Nat.reduceLT,reduceCtorEq,Nat.reduceEqDiff,Nat.reduceBEq,Nat.reduceAdd,aE al,ay,w1,e0,hv]
  | cons d rest =>
   obtain ⟨k1,k2,k3⟩:=bS g2
   have e0:decide (((k+1:Nat):Int)<(s.length:Int))=true:=decide_eq_true (by omega)
   have e47:((d.toNat:Int)==47)=(d==47):=ey d 47
   have w2:IntKind.i64.wrap ((k:Int)+2)=((k+2:Nat):Int):=by rw[IntWalk.i64_in _ (by omega)];rfl
   have ih':=ih (k+1) g2 (by omega)
   conv at ih' in ao _ _=>whnf
   conv in ao _ _=>whnf
   rw[aw]
   by_cases hc:c=42∧d=47
   ·have hv:Tk.shut (c::d::rest)=some 2:=by rw[Tk.shut,if_pos ⟨hc.1,hc.2⟩]
    have q1:(c==42)=true:=by simp[hc.1]
    have q2:(d==47)=true:=by simp[hc.2]
    rw[q1] at e42
    rw[q2] at e47
    simp only[go_sem,Nat.reduceLT,reduceCtorEq,Nat.reduceEqDiff,Nat.reduceBEq,Nat.reduceAdd,aE al,aZ al,ay,w1,w2,e0,hv,g1,k1,e42,e47,Int.natCast_nonneg,Int.toNat_natCast]
    simp
   ·have hv:Tk.shut (c::d::rest)=(Tk.shut (d::rest)).map (· + 1):=by rw[Tk.shut,if_neg (show ¬ (c=42∧Tk.at0 (d::rest)=47) from hc)]
    rw[hv]
    have fin : ∀ {r:Option (Out×St)},Ends r (fun o S=>(∃ n,Tk.shut (d::rest)=some n∧o = .ret∧S.sl 4=I (k+1+n:Nat))∨(Tk.shut (d::rest)=none∧o = .exit 0∧S.nt=30∧S.sl 0=T s))→Ends r (fun o S=>(∃ n,(Tk.shut (d::rest)).map (· + 1)=some n∧o = .ret∧S.sl 4=I (k+n:Nat))∨((Tk.shut (d::rest)).map (· + 1)=none∧o = .exit 0∧S.nt=30∧S.sl 0=T s)):=by
     rintro r ⟨o,S,e,h⟩
     refine ⟨o,S,e,?_⟩
     rcases h with ⟨n,h1,h2,h3⟩|⟨h1,h2⟩
     ·left;exact ⟨n+1,by rw[h1];rfl,h2,by rw[h3,show k+1+n=k+(n+1) by omega]⟩
     ·right;exact ⟨by rw[h1];rfl,h2⟩
    refine fin ?_
    cases q1:(c==42)
    ·rw[q1] at e42
     simp only[go_sem,Nat.reduceLT,reduceCtorEq,Nat.reduceEqDiff,Nat.reduceBEq,Nat.reduceAdd,aE al,aZ al,w1,e0,g1,e42,Int.natCast_nonneg,Int.toNat_natCast]
     rw[aB]
     simp only[go_sem,reduceCtorEq,Nat.reduceEqDiff]
     exact ih'
    ·rw[q1] at e42
     have q2:(d==47)=false:=by
      rw[beq_eq_false_iff_ne];intro h;exact hc ⟨by simpa using q1,h⟩
     rw[q2] at e47
     simp only[go_sem,Nat.reduceLT,reduceCtorEq,Nat.reduceEqDiff,Nat.reduceBEq,Nat.reduceAdd,aE al,aZ al,w1,e0,g1,k1,e42,e47,Int.natCast_nonneg,Int.toNat_natCast]
     rw[aB]
     simp only[go_sem,reduceCtorEq,Nat.reduceEqDiff]
     exact ih'
theorem wc (s:List UInt8) (i:Nat) (hs:s.length<4000000000) (hi:i+2≤s.length):den K 115 [T s,I i] []=some (.ret (I (i+Tk.comment (s.drop (i+2)):Nat)) []):=by
 refine ai rfl rfl Tryz.func115 rfl Tryz.ntmps115 ⟨by simp,by simp[LK]⟩ ?_
 have hr:Tryz.f115.results = #[.tmp 4]:=rfl
 have w2:IntKind.i64.wrap ((i:Int)+2)=((i+2:Nat):Int):=by rw[IntWalk.i64_in _ (by omega)];rfl
 have hl:=Ei s hs (s.drop (i+2)) (i+2) rfl hi
 conv at hl in ao _ _=>whnf
 obtain ⟨o,S',w,h⟩:=hl
 simp only[go_sem,Nat.reduceLT,Nat.reduceEqDiff,Nat.reduceBEq,Nat.reduceAdd,w2]
 rw[aB]
 simp only[go_sem,reduceCtorEq,Nat.reduceEqDiff]
 erw [w]
 unfold Tk.comment
 rcases h with ⟨n,h1,rfl,h2⟩|⟨h1,rfl,h2,h3⟩
 ·rw[h1]
  have e:i+2+n=i+(n+2):=by omega
  rw[e] at h2
  simp only[go_sem,hr,h2]
 ·rw[h1]
  have e:i+((s.drop (i+2)).length+2)=s.length:=by rw[List.length_drop];omega
  simp only[e]
  simp only[go_sem,Nat.reduceLT,Nat.reduceEqDiff,Nat.reduceBEq,Nat.reduceAdd,aE al,hr,h2,h3]
end Go.Abs
