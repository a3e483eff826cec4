/-
  WHAT THE FUNCTIONS COMPUTE, layer 4, the program's reader of selectors: sels.whole, the numbers of an nth, whole; an attribute.
-/
import Derived.Test.YtlomcifkckgneaaGreatDoorRa7
import Derived.Test.YtlomcifkckgneaaGreatDoorRa8
set_option linter.unusedSimpArgs false
set_option linter.unusedVariables false
namespace Go.Abs
open Go Go.Proofs
set_option maxRecDepth 10000
attribute [local go_sem] cA bm bU bD bB cz bQ bS aG bv bq bL cg br opd avOf cvOf St.degAt St.put okPV db okAV cN cM cO cd aq if_true Bool.false_eq_true if_false Option.map_some Option.map_none Option.bind_some Option.bind_none c9 c5 upd List.toList_toArray bO steal aZ mvB cR cf b7 AV.deg CV.deg AV.gv AV.isIter b9 bT bC List.length_nil List.length_cons List.filterMap_cons List.filterMap_nil beq_iff_eq List.getElem?_cons_zero List.getElem?_cons_succ Option.getD_some du d5 Bool.false_and Bool.and_false Bool.and_self K_P eF bF bV aW lend back idx dedup AV.ren CV.ren TV.ren AV.ptrs CV.ptrs ce AV.flat CV.flat bM bz aJ cj cx dp bE aE bK a7 bh bA a8 dP CV.pv? content bf ownT aL reps pvs chunks bu leave dL bW cJ bt aX TV.deg TV.av LK CV.plain CV.noBld cm dF bound List.map_cons List.map_nil List.all_cons List.all_nil List.any_cons List.any_nil List.contains_cons List.contains_nil List.elem_cons List.elem_nil List.cons_append List.nil_append List.append_nil List.flatMap_cons List.flatMap_nil List.zip_cons_cons List.zip_nil_left List.zip_nil_right List.take_succ_cons List.take_zero List.take_nil List.drop_succ_cons List.drop_zero List.drop_nil List.isEmpty_nil List.isEmpty_cons Bool.and_true Bool.true_and Bool.or_true Bool.true_or Bool.or_false Bool.false_or Bool.not_true Bool.not_false Nat.add_zero Nat.zero_add Option.isNone_none Option.isNone_some Option.getD_none true_and and_true not_true_eq_false not_false_eq_true decide_true decide_false Nat.le_refl and_self Bool.not_eq_true Nat.sub_self or_true true_or Option.some.injEq List.length_map List.nil_eq and_false false_and AV.live CV.live CV.liveIn dh aI Option.orElse_some Option.orElse_none head aO aN Int.lt_irrefl List.length_append ite_self dc bI ck bg Key.clash Key.sees Key.writes Nat.lt_irrefl gt_iff_lt bR cW false_or or_false beq_self_eq_true Bool.true_beq Bool.false_beq ES cy bN Dq ja ph sL fM ag dJ BE Bk nU i6 ar oh nY fT dM dU om bw aQ dB cu f5 iT
abbrev P1:AV := .c (.loc 100001 0)
abbrev P2:AV := .c (.loc 100002 0)
theorem oQ (m:List Val):(encL m).isEmpty=m.isEmpty:=by cases m<;>rfl
theorem oD {g:Nat} (hg:goods.contains g=true) {l:List Val} (hl:l.length≤100000000) {b b':List CV} (hb : ∀ f,b.map (CV.ren f)=b) (hb' : ∀ f,b'.map (CV.ren f)=b') {v:AV} {m:List Val}
  (h:den K g [P0,P1] [rdB (Sl.trim l),b]=some (.ret v [rdB m,b'])) :
  den K 37 [L (encL l),.c (.fn g [(100000,0)])] [b]=some (.ret (I (if m.isEmpty then 0 else 40)) [b']):=by
 have hT:=gJ l hl
 rw[iR (K:=K) (F:=ej goods.contains) rfl rfl]
 have e1:lend (cw [b]) 0=some 100000:=rfl
 have e2:lend (cw [b]) 100000=some 100001:=rfl
 unfold ej
 simp only[Plan.run,hT,hg,if_true,List.map_cons,List.map_nil,AV.deg,CV.deg,AV.ren,CV.ren,e1,e2,hb,h,CV.pv?,gU,hb',oQ]
theorem pg {g:Nat} (hg:goods.contains g=true) {l:List Val} (hl:l.length≤100000000) {b b':List CV} (hb : ∀ f,b.map (CV.ren f)=b) (hb' : ∀ f,b'.map (CV.ren f)=b') {m:List Val}
  (h:den K g [P0,P1] [rdB (Sl.trim l),b]=some (.pan cI [rdB m,b'])) :
  den K 37 [L (encL l),.c (.fn g [(100000,0)])] [b]=some (.ret (I 40) [b']):=by
 have hT:=gJ l hl
 rw[iR (K:=K) (F:=ej goods.contains) rfl rfl]
 have e1:lend (cw [b]) 0=some 100000:=rfl
 have e2:lend (cw [b]) 100000=some 100001:=rfl
 unfold ej
 simp only[Plan.run,hT,hg,if_true,List.map_cons,List.map_nil,AV.deg,CV.deg,AV.ren,CV.ren,e1,e2,hb,h,gU,hb']
theorem wR {g:Nat} (hg:goods.contains g=true) {l:List Val} (hl:l.length≤100000000) {a a' b b':List CV} (ha : ∀ f,a.map (CV.ren f)=a) (ha' : ∀ f,a'.map (CV.ren f)=a') (hb : ∀ f,b.map (CV.ren f)=b) (hb' : ∀ f,b'.map (CV.ren f)=b') {v:AV} {m:List Val}
  (h:den K g [P0,P1,P2] [rdB (Sl.trim l),a,b]=some (.ret v [rdB m,a',b'])) :
  den K 37 [L (encL l),.c (.fn g [(100000,0),(100001,0)])] [a,b]=some (.ret (I (if m.isEmpty then 0 else 40)) [a',b']):=by
 have hT:=gJ l hl
 rw[iR (K:=K) (F:=ej goods.contains) rfl rfl]
 have e1:lend (cw [a,b]) 0=some 100000:=rfl
 have e2:lend (cw [a,b]) 100000=some 100001:=rfl
 have e3:lend (cw [a,b]) 100001=some 100002:=rfl
 unfold ej
 simp only[Plan.run,hT,hg,if_true,List.map_cons,List.map_nil,AV.deg,CV.deg,AV.ren,CV.ren,e1,e2,e3,ha,hb,h,CV.pv?,gU,ha',hb',oQ]
theorem pK {g:Nat} (hg:goods.contains g=true) {l:List Val} (hl:l.length≤100000000) {a a' b b':List CV} (ha : ∀ f,a.map (CV.ren f)=a) (ha' : ∀ f,a'.map (CV.ren f)=a') (hb : ∀ f,b.map (CV.ren f)=b) (hb' : ∀ f,b'.map (CV.ren f)=b') {m:List Val}
  (h:den K g [P0,P1,P2] [rdB (Sl.trim l),a,b]=some (.pan cI [rdB m,a',b'])) :
  den K 37 [L (encL l),.c (.fn g [(100000,0),(100001,0)])] [a,b]=some (.ret (I 40) [a',b']):=by
 have hT:=gJ l hl
 rw[iR (K:=K) (F:=ej goods.contains) rfl rfl]
 have e1:lend (cw [a,b]) 0=some 100000:=rfl
 have e2:lend (cw [a,b]) 100000=some 100001:=rfl
 have e3:lend (cw [a,b]) 100001=some 100002:=rfl
 unfold ej
 simp only[Plan.run,hT,hg,if_true,List.map_cons,List.map_nil,AV.deg,CV.deg,AV.ren,CV.ren,e1,e2,e3,ha,hb,h,gU,ha',hb']
abbrev iB (n:Int):List CV:=[.pv (.int .i64 n)]
theorem DP (n:Int):(decide (-9999≤n)&&decide (n≤9999))=decide (Sl.few n):=by
 rw[Bool.eq_iff_iff,Bool.and_eq_true,decide_eq_true_eq,decide_eq_true_eq,decide_eq_true_eq];rfl
set_option maxHeartbeats 4000000 in
theorem Cp (l:List Val) (hl:l.length≤70000000) (ht:TSh l):match Sl.nthP l with
  | some (x,m)=>if Sl.few x.1∧Sl.few x.2 then den K 38 [P0,P1,P2] [rdB l,iB 0,iB 0]=some (.ret (.tup []) [rdB m,iB x.1,iB x.2])
   else den K 38 [P0,P1,P2] [rdB l,iB 0,iB 0]=some (.pan cI [rdB m,iB x.1,iB x.2])
  | none => ∃ m,den K 38 [P0,P1,P2] [rdB l,iB 0,iB 0]=some (.pan cI [rdB m,iB 0,iB 0]):=by
 have hr:Tryz.f38.results = #[]:=rfl
 have h:=zZ l hl ht
 have hmy:=dq
 have hmn:=e7
 cases hn:Sl.nthP l with
 | none =>
  rw[hn] at h
  obtain ⟨m,h⟩:=dH h
  refine ⟨m,?_⟩
  simp only[rdB,iB] at h ⊢
  refine ab rfl rfl Tryz.func38 rfl Tryz.ntmps38 ⟨by simp,by simp[LK]⟩ ?_
  simp only[go_sem,Nat.reduceLT,Nat.reduceEqDiff,Nat.reduceBEq,Nat.reduceAdd,Nat.reduceSub,Nat.reduceLeDiff,hr,h]
 | some y =>
  obtain ⟨⟨a,b⟩,m⟩:=y
  rw[hn] at h
  have h:=cS h
  have ha:=xK a
  have hb:=xK b
  rw[DP] at ha hb
  simp only
  by_cases fa:Sl.few a
  ·rw[decide_eq_true fa] at ha
   by_cases fb:Sl.few b
   ·rw[decide_eq_true fb] at hb
    rw[if_pos ⟨fa,fb⟩]
    simp only[rdB,iB,twoI] at h ⊢
    refine ab rfl rfl Tryz.func38 rfl Tryz.ntmps38 ⟨by simp,by simp[LK]⟩ ?_
    simp only[go_sem,Nat.reduceLT,Nat.reduceEqDiff,Nat.reduceBEq,Nat.reduceAdd,Nat.reduceSub,Nat.reduceLeDiff,hr,h,ha,hb,hmy]
   ·rw[decide_eq_false fb] at hb
    rw[if_neg fun h=>fb h.2]
    simp only[rdB,iB,twoI] at h ⊢
    refine ab rfl rfl Tryz.func38 rfl Tryz.ntmps38 ⟨by simp,by simp[LK]⟩ ?_
    simp only[go_sem,Nat.reduceLT,Nat.reduceEqDiff,Nat.reduceBEq,Nat.reduceAdd,Nat.reduceSub,Nat.reduceLeDiff,hr,h,ha,hb,hmn]
  ·rw[decide_eq_false fa] at ha
   rw[if_neg fun h=>fa h.1]
   simp only[rdB,iB,twoI] at h ⊢
   refine ab rfl rfl Tryz.func38 rfl Tryz.ntmps38 ⟨by simp,by simp[LK]⟩ ?_
   simp only[go_sem,Nat.reduceLT,Nat.reduceEqDiff,Nat.reduceBEq,Nat.reduceAdd,Nat.reduceSub,Nat.reduceLeDiff,hr,h,ha,hmn]
theorem gu (n:Int) (f:Nat→Option Nat):(iB n).map (CV.ren f)=iB n:=rfl
theorem Fe (v:List Val):Sl.nthM v=match Sl.nthP (Sl.trim v) with
  | some (x,[])=>if Sl.few x.1∧Sl.few x.2 then some x else none
  | _=>none:=by
 unfold Sl.nthM
 rw[←Sl.yH v]
 unfold Sl.ej
 generalize Sl.nthP (Sl.trim v)=y
 match y with
 | none=>rfl
 | some (x,[])=>rfl
 | some (x,_::_)=>rfl
set_option maxHeartbeats 4000000 in
theorem Bp (l:List Val) (hl:l.length≤70000000) (ht:TSh l):den K 13 [L (encL l)] []=some (.ret (nthA (Sl.nthM l)) []):=by
 have hr:Tryz.f13.results = #[.cell 2 3,.cell 3 3,.tmp 4]:=rfl
 have hc:=Cp (Sl.trim l) (Nat.le_trans (Sl.ve l) hl) (n7 ht)
 have hg:goods.contains 38=true:=by kernel_rfl
 have key : ∀ (a b:Int) (e:Int),den K 37 [L (encL l),.c (.fn 38 [(100000,0),(100001,0)])] [iB 0,iB 0]=some (.ret (I e) [iB a,iB b])→(e=0∨e=40) →
   den K 13 [L (encL l)] []=some (.ret (nthA (if e=0 then some (a,b) else none)) []):=by
  intro a b e h he
  simp only[iB] at h
  rcases he with rfl|rfl
  ·rw[if_pos rfl]
   unfold nthA
   refine ab rfl rfl Tryz.func13 rfl Tryz.ntmps13 ⟨by simp,by simp[LK]⟩ ?_
   simp only[go_sem,Nat.reduceLT,reduceCtorEq,Nat.reduceEqDiff,Nat.reduceBEq,Nat.reduceAdd,Nat.reduceSub,Nat.reduceLeDiff,hr,h,fK,locs,gD,bne_self_eq_false]
   first|rw[rN]|rw[o9]
   rotate_left
   ·kernel_rfl
   simp only[go_sem,Nat.reduceEqDiff,Nat.reduceSub,Nat.reduceLeDiff]
  ·rw[if_neg (by decide)]
   unfold nthA
   refine ab rfl rfl Tryz.func13 rfl Tryz.ntmps13 ⟨by simp,by simp[LK]⟩ ?_
   simp only[go_sem,Nat.reduceLT,reduceCtorEq,Nat.reduceEqDiff,Nat.reduceBEq,Nat.reduceAdd,Nat.reduceSub,Nat.reduceLeDiff,hr,h,fK,locs,gD,Int.reduceBNe]
 rw[Fe]
 cases hn:Sl.nthP (Sl.trim l) with
 | none =>
  rw[hn] at hc
  obtain ⟨m,hc⟩:=hc
  exact key 0 0 40 (pK hg (by omega) (gu _) (gu _) (gu _) (gu _) hc) (.inr rfl)
 | some y =>
  obtain ⟨⟨a,b⟩,m⟩:=y
  rw[hn] at hc
  simp only at hc
  by_cases hf:Sl.few a∧Sl.few b
  ·rw[if_pos hf] at hc
   have hw:=wR hg (by omega) (gu _) (gu _) (gu _) (gu _) hc
   cases m with
   | nil =>
    have:=key a b 0 hw (.inl rfl)
    simp only
    rw[if_pos hf]
    exact this
   | cons v m=>exact key a b 40 hw (.inr rfl)
  ·rw[if_neg hf] at hc
   have hw:=pK hg (by omega) (gu _) (gu _) (gu _) (gu _) hc
   have:=key a b 40 hw (.inr rfl)
   cases m with
   | nil =>
    simp only
    rw[if_neg hf]
    exact this
   | cons v m=>exact this
theorem q8 : ∀ {ws:List (List Val)},(∀ w∈ws,w≠[])→jp (encP ws)=some (ws.map encL)
 | [],_=>rfl
 | w::ws,h=>by
  have hw:=h w (by simp)
  have h1:encL w≠[]:=by cases w with
   | nil=>exact absurd rfl hw
   | cons v r=>simp[encL]
  have h2:(encL w).all (fun el=>el.length==5)=true:=gO w
  have ih:=q8 (ws:=ws) fun x hx=>h x (by simp[hx])
  show jp ([.sl (encL w)]::encP ws)=_
  rw[jp]
  have h3:wN [.sl (encL w)]=some (encL w):=if_pos ⟨h1,h2⟩
  rw[h3,ih]
  rfl
theorem u0 (ws:List (List Val)):(ws.map encL).flatten=encL ws.flatten:=by
 induction ws with
 | nil=>rfl
 | cons w ws ih=>rw[List.map_cons,List.flatten_cons,ih,List.flatten_cons,oE]
theorem wn (ws:List (List Val)) (h : ∀ w∈ws,w≠[]) (hn:ws.length≤1000000000) (hf:ws.flatten.length≤1000000000) :
  den K 205 [L (encP ws)] []=some (.ret (L (encL ws.flatten)) []) :=
 ey (F:=lZ) rfl (by
  unfold lZ
  simp only
  rw[q8 h]
  simp only
  rw[u0,if_pos ⟨by rw[List.length_map];exact hn,by rw[bc];exact hf⟩])
set_option maxHeartbeats 8000000 in
theorem Am (l:List Val) (hl:Ne.size l≤60000000):match Sl.attr l with
  | some x=>den K 172 [L (encL l)] []=some (.ret (.agg (fL x)) [])
  | none=>den K 172 [L (encL l)] []=some (.pan cI []):=by
 have hr:Tryz.f172.results = #[.cell 2 52]:=rfl
 have hll:=Ne.cB l
 have hw:=wF l (by omega)
 have hwn:=Sl.s7 l
 have hwf:=Sl.xk l
 have hlen:(l.filter fun v => !Sl.aa v).length≤l.length:=List.length_filter_le _ _
 have hc:=wn (Sl.words l) (fun w hw=>(Sl.zT hw).1) (by omega) (by rw[hwf];omega)
 rw[hwf] at hc
 rw[Sl.xg]
 generalize hm:(l.filter fun v => !Sl.aa v)=m at *
 have hmy:=dq
 have hmn:=e7
 have hn:=fY m (by omega)
 unfold Sl.Cm
 cases k1:Sl.name m with
 | none =>
  rw[k1] at hn
  obtain ⟨q,hn⟩:=dH hn
  simp only[rdB] at hn ⊢
  refine ab rfl rfl Tryz.func172 rfl Tryz.ntmps172 ⟨by simp,by simp[LK]⟩ ?_
  simp only[go_sem,Nat.reduceLT,reduceCtorEq,Nat.reduceEqDiff,Nat.reduceBEq,Nat.reduceAdd,Nat.reduceSub,Nat.reduceLeDiff,aj ag ao,aj aM a6,hr,hw,hc,hn]
 | some y =>
  obtain ⟨s,r⟩:=y
  rw[k1] at hn
  have hn:=cS hn
  have hrl:r.length≤m.length:=by
   unfold Sl.name at k1
   rw[Option.map_eq_some_iff] at k1
   obtain ⟨t,_,e⟩:=k1
   cases e
   rw[List.length_tail];omega
  simp only
  cases k2:Sl.sign [61] r with
  | none =>
   have hs:=dG (by omega) k2
   have q0:(([]:List UInt8)==[])=true:=rfl
   simp only
   cases r with
   | nil =>
    rw[if_pos rfl]
    have q1:(((0:Nat):Int)==0)=true:=rfl
    simp only[rdB,bZ] at hn hs ⊢
    refine ab rfl rfl Tryz.func172 rfl Tryz.ntmps172 ⟨by simp,by simp[LK]⟩ ?_
    simp only[go_sem,Nat.reduceLT,reduceCtorEq,Nat.reduceEqDiff,Nat.reduceBEq,Nat.reduceAdd,Nat.reduceSub,Nat.reduceLeDiff,Nat.reduceMul,aj ag ao,aj aM a6,ae (len:=1) al ar ah ⟨rfl,by decide,by decide⟩,ai ap,hr,hw,hc,hn,hs,q0,q1,bne,hmy,bc]
   | cons v r =>
    rw[if_neg (by simp)]
    have q1:(((r.length+1:Nat):Int)==0)=false:=by rw[beq_eq_false_iff_ne];omega
    simp only[rdB] at hn hs ⊢
    refine ab rfl rfl Tryz.func172 rfl Tryz.ntmps172 ⟨by simp,by simp[LK]⟩ ?_
    simp only[go_sem,Nat.reduceLT,reduceCtorEq,Nat.reduceEqDiff,Nat.reduceBEq,Nat.reduceAdd,Nat.reduceSub,Nat.reduceLeDiff,Nat.reduceMul,aj ag ao,aj aM a6,ae (len:=1) al ar ah ⟨rfl,by decide,by decide⟩,ai ap,hr,hw,hc,hn,hs,q0,q1,bne,hmn,bc]
  | some r2 =>
   have hs:=fD (by omega) k2
   have q0:(([61]:List UInt8)==[])=false:=rfl
   have hr2:r2.length≤r.length:=by
    obtain ⟨v,e,_⟩:=Sl.dZ k2
    rw[e,List.length_cons];omega
   have t1:=cE r2 1 (by omega)
   have t6:=cE r2 6 (by omega)
   simp only
   cases r2 with
   | nil =>
    show den K 172 [L (encL l)] []=some (.pan cI [])
    simp only[rdB,tokB] at hn hs t1 t6 ⊢
    refine ab rfl rfl Tryz.func172 rfl Tryz.ntmps172 ⟨by simp,by simp[LK]⟩ ?_
    simp only[go_sem,Nat.reduceLT,reduceCtorEq,Nat.reduceEqDiff,Nat.reduceBEq,Nat.reduceAdd,Nat.reduceSub,Nat.reduceLeDiff,Nat.reduceMul,aj ag ao,aj aM a6,ae (len:=1) al ar ah ⟨rfl,by decide,by decide⟩,hr,hw,hc,hn,hs,q0,bne,t1,t6,hmn]
   | cons v r3 =>
    obtain ⟨k,u,c⟩:=v
    have htk:=dT k u c r3 (by rw[List.length_cons] at hr2;omega)
    rw[eo] at htk
    have e1:tokB 1 (.mk k u c::r3)=((k==1)&&(u.kind==1)):=rfl
    have e6:tokB 6 (.mk k u c::r3)=((k==1)&&(u.kind==6)):=rfl
    rw[e1] at t1
    rw[e6] at t6
    by_cases hu:k=1∧(u.kind=1∨u.kind=6)
    ·have q3:((k==1)&&(u.kind==1))=true∨(((k==1)&&(u.kind==1))=false∧((k==1)&&(u.kind==6))=true):=by
      obtain ⟨rfl,h|h⟩:=hu
      ·left;rw[h];rfl
      ·right;rw[h];exact ⟨rfl,rfl⟩
     cases r3 with
     | nil =>
      have q1:(((0:Nat):Int)==0)=true:=rfl
      have e:Sl.rH s [.mk k u c]=some (.mk 6 s u.text 0 0 []):=if_pos hu
      rw[e]
      simp only[rdB,bZ] at hn hs t1 t6 htk ⊢
      rcases q3 with q3|⟨q3,q4⟩
      ·rw[q3] at t1
       refine ab rfl rfl Tryz.func172 rfl Tryz.ntmps172 ⟨by simp,by simp[LK]⟩ ?_
       simp only[go_sem,Nat.reduceLT,reduceCtorEq,Nat.reduceEqDiff,Nat.reduceBEq,Nat.reduceAdd,Nat.reduceSub,Nat.reduceLeDiff,Nat.reduceMul,aj ag ao,aj aM a6,ae (len:=1) al ar ah ⟨rfl,by decide,by decide⟩,ai ap,hr,hw,hc,hn,hs,q0,q1,bne,t1,htk,hmy,bc]
      ·rw[q3] at t1
       rw[q4] at t6
       refine ab rfl rfl Tryz.func172 rfl Tryz.ntmps172 ⟨by simp,by simp[LK]⟩ ?_
       simp only[go_sem,Nat.reduceLT,reduceCtorEq,Nat.reduceEqDiff,Nat.reduceBEq,Nat.reduceAdd,Nat.reduceSub,Nat.reduceLeDiff,Nat.reduceMul,aj ag ao,aj aM a6,ae (len:=1) al ar ah ⟨rfl,by decide,by decide⟩,ai ap,hr,hw,hc,hn,hs,q0,q1,bne,t1,t6,htk,hmy,bc]
     | cons z r4 =>
      have q1:(((r4.length+1:Nat):Int)==0)=false:=by rw[beq_eq_false_iff_ne];omega
      show den K 172 [L (encL l)] []=some (.pan cI [])
      simp only[rdB] at hn hs t1 t6 htk ⊢
      rcases q3 with q3|⟨q3,q4⟩
      ·rw[q3] at t1
       refine ab rfl rfl Tryz.func172 rfl Tryz.ntmps172 ⟨by simp,by simp[LK]⟩ ?_
       simp only[go_sem,Nat.reduceLT,reduceCtorEq,Nat.reduceEqDiff,Nat.reduceBEq,Nat.reduceAdd,Nat.reduceSub,Nat.reduceLeDiff,Nat.reduceMul,aj ag ao,aj aM a6,ae (len:=1) al ar ah ⟨rfl,by decide,by decide⟩,ai ap,hr,hw,hc,hn,hs,q0,q1,bne,t1,htk,hmy,hmn,bc]
      ·rw[q3] at t1
       rw[q4] at t6
       refine ab rfl rfl Tryz.func172 rfl Tryz.ntmps172 ⟨by simp,by simp[LK]⟩ ?_
       simp only[go_sem,Nat.reduceLT,reduceCtorEq,Nat.reduceEqDiff,Nat.reduceBEq,Nat.reduceAdd,Nat.reduceSub,Nat.reduceLeDiff,Nat.reduceMul,aj ag ao,aj aM a6,ae (len:=1) al ar ah ⟨rfl,by decide,by decide⟩,ai ap,hr,hw,hc,hn,hs,q0,q1,bne,t1,t6,htk,hmy,hmn,bc]
    ·have q3:((k==1)&&(u.kind==1))=false:=by
      rw[Bool.and_eq_false_iff,beq_eq_false_iff_ne,beq_eq_false_iff_ne]
      by_cases h1:k=1
      ·exact .inr fun h2=>hu ⟨h1,.inl h2⟩
      ·exact .inl h1
     have q4:((k==1)&&(u.kind==6))=false:=by
      rw[Bool.and_eq_false_iff,beq_eq_false_iff_ne,beq_eq_false_iff_ne]
      by_cases h1:k=1
      ·exact .inr fun h2=>hu ⟨h1,.inr h2⟩
      ·exact .inl h1
     rw[q3] at t1
     rw[q4] at t6
     have e:Sl.rH s (.mk k u c::r3)=none:=by
      cases r3 with
      | nil=>exact if_neg hu
      | cons _ _=>rfl
     rw[e]
     simp only[rdB] at hn hs t1 t6 htk ⊢
     refine ab rfl rfl Tryz.func172 rfl Tryz.ntmps172 ⟨by simp,by simp[LK]⟩ ?_
     simp only[go_sem,Nat.reduceLT,reduceCtorEq,Nat.reduceEqDiff,Nat.reduceBEq,Nat.reduceAdd,Nat.reduceSub,Nat.reduceLeDiff,Nat.reduceMul,aj ag ao,aj aM a6,ae (len:=1) al ar ah ⟨rfl,by decide,by decide⟩,hr,hw,hc,hn,hs,q0,bne,t1,t6,hmn]
end Go.Abs
