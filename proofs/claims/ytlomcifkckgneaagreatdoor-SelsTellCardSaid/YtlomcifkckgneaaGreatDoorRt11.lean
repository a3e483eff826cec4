/-
  WHAT THE FUNCTIONS COMPUTE, layer 4, the document's reader of selectors: an nth; attributes.
  (And 4 texts more.)
-/
import Derived.Test.YtlomcifkckgneaaGreatDoorRt9
import Derived.Test.YtlomcifkckgneaaGreatDoorRt10
set_option maxHeartbeats 8000000
open Nat (reduceEqDiff reduceAdd reduceLT reduceLeDiff reduceSub reduceMul)
set_option linter.unusedSimpArgs false
set_option linter.unusedVariables false
namespace Go.Abs
open Go Go.Proofs
set_option maxRecDepth 10000
attribute [local go_sem] c7 bF cD bW bZ db cJ cE a7 ck ce cF c8 bS opd avOf cvOf St.degAt St.put okPV d6 okAV du dv dt cU aM if_true Bool.false_eq_true if_false Option.map_some Option.map_none Option.bind_some Option.bind_none dY dV upd List.toList_toArray cR steal bz mvB dE cV cT AV.deg CV.deg AV.gv AV.isIter cN cI bU List.length_nil List.length_cons List.filterMap_cons List.filterMap_nil beq_iff_eq List.getElem?_cons_zero List.getElem?_cons_succ Option.getD_some d8 eV Bool.false_and Bool.and_false Bool.and_self K_P fq co cO bw lend back idx dedup AV.ren CV.ren TV.ren AV.ptrs CV.ptrs cX AV.flat CV.flat cz cg bc c9 dk eo cj aY cm bt bH cf br eF CV.pv? content bA ownT bd reps pvs chunks cd leave eB cK dr bT bv TV.deg TV.av LK CV.plain CV.noBld c5 eA bound List.map_cons List.map_nil List.all_cons List.all_nil List.any_cons List.any_nil List.contains_cons List.contains_nil List.elem_cons List.elem_nil List.cons_append List.nil_append List.append_nil List.flatMap_cons List.flatMap_nil List.zip_cons_cons List.zip_nil_left List.zip_nil_right List.take_succ_cons List.take_zero List.take_nil List.drop_succ_cons List.drop_zero List.drop_nil List.isEmpty_nil List.isEmpty_cons Bool.and_true Bool.true_and Bool.or_true Bool.true_or Bool.or_false Bool.false_or Bool.not_true Bool.not_false Nat.add_zero Nat.zero_add Option.isNone_none Option.isNone_some Option.getD_none true_and and_true not_true_eq_false not_false_eq_true decide_true decide_false Nat.le_refl and_self Bool.not_eq_true Nat.sub_self or_true true_or Option.some.injEq List.length_map List.nil_eq and_false false_and AV.live CV.live CV.liveIn dU bg Option.orElse_some Option.orElse_none head bm bh Int.lt_irrefl List.length_append ite_self dZ cA dc bC Key.clash Key.sees Key.writes Nat.lt_irrefl gt_iff_lt cH dH false_or or_false beq_self_eq_true Bool.true_beq Bool.false_beq Km bJ r8 bG pt
theorem Fs (v:List Val):match Sl.nth v with|some x=>nthG (Sl.trim v)=(x.1,x.2,true)|none=>(nthG (Sl.trim v)).2.2=false:=by
 unfold Sl.nth;generalize Sl.trim v=R;have t0k:(Ne.tok0).kind=0:=rfl
 match R with
 | []=>rfl
 | [.mk k t c] =>
  simp only;by_cases hk:k=1
  ·subst hk;rw[if_pos rfl];by_cases h1:t.kind=1
   ·have e1:tk0 1 [Val.mk 1 t c]=t:=ny ⟨rfl,h1⟩
    unfold nthG Sl.nth1;rw[if_pos h1,e1,if_pos (show [Val.mk 1 t c].length=1∧t.kind=1 from⟨rfl,h1⟩)]
    by_cases a1:t.text=[111,100,100]
    ·rw[if_pos a1,if_pos a1]
    ·rw[if_neg a1,if_neg a1];by_cases a2:t.text=[101,118,101,110]
     ·rw[if_pos a2,if_pos a2]
     ·rw[if_neg a2,if_neg a2];by_cases a3:t.text=[110]
      ·rw[if_pos a3,if_pos a3]
      ·rw[if_neg a3,if_neg a3]
   ·have e1:tk0 1 [Val.mk 1 t c]=Ne.tok0:=lW fun h=>h1 h.2
    by_cases h5:t.kind=5
    ·have e5:tk0 5 [Val.mk 1 t c]=t:=ny ⟨rfl,h5⟩
     unfold nthG Sl.nth1;rw[if_neg h1,if_pos h5,e1,e5,if_neg (show ¬([Val.mk 1 t c].length=1∧Ne.tok0.kind=1) from fun h=>by rw[t0k] at h;simp at h),if_neg (show ¬ t.kind=0 by rw[h5];decide)]
     by_cases a1:t.text=[]
     ·rw[if_pos a1,if_pos (show [Val.mk 1 t c].length=1∧t.text=[] from⟨rfl,a1⟩)]
     ·rw[if_neg a1,if_neg (show ¬([Val.mk 1 t c].length=1∧t.text=[]) from fun h=>a1 h.2)]
      by_cases a2:t.text=[110]
      ·rw[if_pos a2,if_pos (show [Val.mk 1 t c].length=1∧t.text=[110] from⟨rfl,a2⟩)]
      ·rw[if_neg a2,if_neg (show ¬([Val.mk 1 t c].length=1∧t.text=[110]) from fun h=>a2 h.2)]
       by_cases a3:2<t.text.length∧t.text.take 2=[110,45]∧0≤Sl.digits (t.text.drop 2)
       ·rw[if_pos a3,if_pos (show [Val.mk 1 t c].length=1∧2<t.text.length∧t.text.take 2=[110,45]∧0≤Sl.digits (t.text.drop 2) from⟨rfl,a3⟩)]
       ·rw[if_neg a3,if_neg (show ¬([Val.mk 1 t c].length=1∧2<t.text.length∧t.text.take 2=[110,45]∧0≤Sl.digits (t.text.drop 2)) from fun h=>a3 h.2),if_neg (fun h=>by simp at h)]
    ·have e5:tk0 5 [Val.mk 1 t c]=Ne.tok0:=lW fun h=>h5 h.2
     unfold nthG Sl.nth1;rw[if_neg h1,if_neg h5,e1,e5,if_neg (show ¬([Val.mk 1 t c].length=1∧Ne.tok0.kind=1) from fun h=>by rw[t0k] at h;simp at h),if_pos t0k]
  ·rw[if_neg hk];have e1:tk0 1 [Val.mk k t c]=Ne.tok0:=lW fun h=>hk h.1
   have e5:tk0 5 [Val.mk k t c]=Ne.tok0:=lW fun h=>hk h.1
   unfold nthG;simp only;rw[e1,e5,if_neg (show ¬([Val.mk k t c].length=1∧Ne.tok0.kind=1) from fun h=>by rw[t0k] at h;simp at h),if_pos t0k]
 | [a,b] =>
  simp only;unfold nthG;simp only[List.length_cons,List.length_nil,Nat.zero_add,reduceAdd,reduceEqDiff,false_and,if_false];split<;>rfl
 | [.mk k t c,s,.mk k' u c'] =>
  simp only;have hu:tk0 5 ([Val.mk k t c,s,Val.mk k' u c'].drop 2)=if k'=1∧u.kind=5 then u else Ne.tok0:=by
   have:[Val.mk k t c,s,Val.mk k' u c'].drop 2=[Val.mk k' u c']:=rfl
   rw[this];split
   ·rename_i h;exact ny h
   ·rename_i h;exact lW h
  have hs:(Sl.sign [43] ([Val.mk k t c,s,Val.mk k' u c'].drop 1)).isSome=Sl.aW [43] s:=by
   have:[Val.mk k t c,s,Val.mk k' u c'].drop 1=[s,Val.mk k' u c']:=rfl
   rw[this];unfold Sl.sign;simp only;cases Sl.aW [43] s<;>rfl
  unfold nthG;rw[hu,hs];simp only[List.length_cons,List.length_nil,Nat.zero_add,reduceAdd,reduceEqDiff,false_and,if_false,true_and];by_cases hk:k=1∧t.kind=5
  ·have e5:tk0 5 [Val.mk k t c,s,Val.mk k' u c']=t:=ny hk
   rw[e5,if_neg (show ¬ t.kind=0 by rw[hk.2];decide)]
   by_cases hn:t.text=[110]∧Sl.aW [43] s=true
   ·rw[if_pos hn];by_cases hb:k'=1∧u.kind=5
    ·rw[if_pos hb];by_cases hc:u.text=[]∧0≤u.n
     ·rw[if_pos (show k=1∧t.kind=5∧t.text=[110]∧Sl.aW [43] s=true∧k'=1∧u.kind=5∧u.text=[]∧0≤u.n from⟨hk.1,hk.2,hn.1,hn.2,hb.1,hb.2,hc.1,hc.2⟩)]
      simp[hb.2,hc.1,hc.2]
     ·rw[if_neg (show ¬(k=1∧t.kind=5∧t.text=[110]∧Sl.aW [43] s=true∧k'=1∧u.kind=5∧u.text=[]∧0≤u.n) from fun h=>hc ⟨h.2.2.2.2.2.2.1,h.2.2.2.2.2.2.2⟩)]
      simp only;cases h1:(u.text==[])
      ·simp
      ·cases h2:decide (0≤u.n)
       ·simp
       ·exact(hc ⟨by simpa using h1,of_decide_eq_true h2⟩).elim
    ·rw[if_neg hb,if_neg (show ¬(k=1∧t.kind=5∧t.text=[110]∧Sl.aW [43] s=true∧k'=1∧u.kind=5∧u.text=[]∧0≤u.n) from fun h=>hb ⟨h.2.2.2.2.1,h.2.2.2.2.2.1⟩)]
     rfl
   ·rw[if_neg hn,if_neg (show ¬(k=1∧t.kind=5∧t.text=[110]∧Sl.aW [43] s=true∧k'=1∧u.kind=5∧u.text=[]∧0≤u.n) from fun h=>hn ⟨h.2.2.1,h.2.2.2.1⟩)]
  ·have e5:tk0 5 [Val.mk k t c,s,Val.mk k' u c']=Ne.tok0:=lW hk
   rw[e5,if_pos t0k,if_neg (show ¬(k=1∧t.kind=5∧t.text=[110]∧Sl.aW [43] s=true∧k'=1∧u.kind=5∧u.text=[]∧0≤u.n) from fun h=>hk ⟨h.1,h.2.1⟩)]
 | a::b::c::d::l =>
  simp only;have h3:¬ ((a::b::c::d::l).length=1):=by simp
  have h4:¬ ((a::b::c::d::l).length=3):=by simp
  unfold nthG;simp only[h3,h4,false_and,if_false];split<;>rfl
def nthA (x:Option (Int×Int)):AV:=match x with
 | some x=>.tup [.c (.pv (.int .i64 x.1)),.c (.pv (.int .i64 x.2)),.c (.pv (.int .i64 0))]
 | none=>.tup [.c (.pv (.int .i64 0)),.c (.pv (.int .i64 0)),.c (.pv (.int .i64 40))]
theorem zC (l:List Val) (hl:l.length≤100000000):den K 21 [L (encL l)] []=some (.ret (nthA (Sl.nthM l)) []):=by
 have hr:Tryz.f21.results=#[.tmp 2,.tmp 3,.tmp 4]:=rfl
 have hn:=I9 l hl
 have hg:=Fs l
 have b0:((0:Int)≤0∧(0:Int)<((2:Nat):Int))=True:=by decide
 have b1:((0:Int)≤1∧(1:Int)<((2:Nat):Int))=True:=by decide
 have z0:(0:Int).toNat=0:=rfl
 have z1:(1:Int).toNat=1:=rfl
 unfold Sl.nthM;cases hv:Sl.nth l with
 | none =>
  rw[hv] at hg;simp only at hg ⊢;generalize nthG (Sl.trim l)=y at hn hg;obtain⟨a,b,ok⟩:=y;simp only at hg;subst hg;unfold nthA;refine ah rfl rfl Tryz.func21 rfl Tryz.ntmps21 ⟨by simp,by simp[LK]⟩ ?_
  simp only[go_sem,reduceLT,reduceCtorEq,reduceEqDiff,Nat.reduceBEq,reduceAdd,reduceSub,reduceLeDiff,hr,hn,TV.flat]
 | some x =>
  obtain⟨a,b⟩:=x;rw[hv] at hg;simp only at hg ⊢;rw[hg] at hn;have f1:=rx a
  have f2:=rx b
  cases h1:decide (Sl.few a)
  ·rw[h1] at f1
   rw[if_neg (fun h=>of_decide_eq_false h1 h.1)]
   unfold nthA;refine ah rfl rfl Tryz.func21 rfl Tryz.ntmps21 ⟨by simp,by simp[LK]⟩ ?_
   simp only[go_sem,reduceLT,reduceCtorEq,reduceEqDiff,Nat.reduceBEq,reduceAdd,reduceSub,reduceLeDiff,reduceMul,ja cS,hr,hn,TV.flat,b0,z0,f1]
  ·rw[h1] at f1
   cases h2:decide (Sl.few b)
   ·rw[h2] at f2
    rw[if_neg (fun h=>of_decide_eq_false h2 h.2)]
    unfold nthA;refine ah rfl rfl Tryz.func21 rfl Tryz.ntmps21 ⟨by simp,by simp[LK]⟩ ?_
    simp only[go_sem,reduceLT,reduceCtorEq,reduceEqDiff,Nat.reduceBEq,reduceAdd,reduceSub,reduceLeDiff,reduceMul,ja cS,hr,hn,TV.flat,b0,b1,z0,z1,f1,f2]
   ·rw[h2] at f2
    rw[if_pos ⟨of_decide_eq_true h1,of_decide_eq_true h2⟩];unfold nthA;refine ah rfl rfl Tryz.func21 rfl Tryz.ntmps21 ⟨by simp,by simp[LK]⟩ ?_
    simp only[go_sem,reduceLT,reduceCtorEq,reduceEqDiff,Nat.reduceBEq,reduceAdd,reduceSub,reduceLeDiff,reduceMul,ja cS,hr,hn,TV.flat,b0,b1,z0,z1,f1,f2]
attribute [local go_sem] JO cB C8 lQ rP wa dL ae dh HH Hd rv dK aL rH rr iL dP ff ro cu bo dz bX c6 dx
abbrev P1:AV:=.c (.loc 100001 0)
abbrev P2:AV:=.c (.loc 100002 0)
theorem s7 (m:List Val):(encL m).isEmpty=m.isEmpty:=by cases m<;>rfl
theorem sH {g:Nat} (hg:goods.contains g=true) {l:List Val} (hl:l.length≤100000000) {b b':List CV} (hb:∀ f,b.map (CV.ren f)=b) (hb':∀ f,b'.map (CV.ren f)=b') {v:AV} {m:List Val}
  (h:den K g [P0,P1] [rdB (Sl.trim l),b]=some (.ret v [rdB m,b'])) :
  den K 37 [L (encL l),.c (.fn g [(100000,0)])] [b]=some (.ret (I (if m.isEmpty then 0 else 40)) [b']):=by
 have hT:=jN l hl
 rw[kZ (K:=K) (F:=f8 goods.contains) rfl rfl];have e1:lend (dD [b]) 0=some 100000:=rfl
 have e2:lend (dD [b]) 100000=some 100001:=rfl
 unfold f8;simp only[Plan.run,hT,hg,if_true,List.map_cons,List.map_nil,AV.deg,CV.deg,AV.ren,CV.ren,e1,e2,hb,h,CV.pv?,j0,hb',s7]
theorem tq {g:Nat} (hg:goods.contains g=true) {l:List Val} (hl:l.length≤100000000) {b b':List CV} (hb:∀ f,b.map (CV.ren f)=b) (hb':∀ f,b'.map (CV.ren f)=b') {m:List Val}
  (h:den K g [P0,P1] [rdB (Sl.trim l),b]=some (.pan dW [rdB m,b'])) :
  den K 37 [L (encL l),.c (.fn g [(100000,0)])] [b]=some (.ret (I 40) [b']):=by
 have hT:=jN l hl
 rw[kZ (K:=K) (F:=f8 goods.contains) rfl rfl];have e1:lend (dD [b]) 0=some 100000:=rfl
 have e2:lend (dD [b]) 100000=some 100001:=rfl
 unfold f8;simp only[Plan.run,hT,hg,if_true,List.map_cons,List.map_nil,AV.deg,CV.deg,AV.ren,CV.ren,e1,e2,hb,h,j0,hb']
theorem AB {g:Nat} (hg:goods.contains g=true) {l:List Val} (hl:l.length≤100000000) {a a' b b':List CV} (ha:∀ f,a.map (CV.ren f)=a) (ha':∀ f,a'.map (CV.ren f)=a') (hb:∀ f,b.map (CV.ren f)=b) (hb':∀ f,b'.map (CV.ren f)=b') {v:AV} {m:List Val}
  (h:den K g [P0,P1,P2] [rdB (Sl.trim l),a,b]=some (.ret v [rdB m,a',b'])) :
  den K 37 [L (encL l),.c (.fn g [(100000,0),(100001,0)])] [a,b]=some (.ret (I (if m.isEmpty then 0 else 40)) [a',b']):=by
 have hT:=jN l hl
 rw[kZ (K:=K) (F:=f8 goods.contains) rfl rfl];have e1:lend (dD [a,b]) 0=some 100000:=rfl
 have e2:lend (dD [a,b]) 100000=some 100001:=rfl
 have e3:lend (dD [a,b]) 100001=some 100002:=rfl
 unfold f8;simp only[Plan.run,hT,hg,if_true,List.map_cons,List.map_nil,AV.deg,CV.deg,AV.ren,CV.ren,e1,e2,e3,ha,hb,h,CV.pv?,j0,ha',hb',s7]
theorem tH {g:Nat} (hg:goods.contains g=true) {l:List Val} (hl:l.length≤100000000) {a a' b b':List CV} (ha:∀ f,a.map (CV.ren f)=a) (ha':∀ f,a'.map (CV.ren f)=a') (hb:∀ f,b.map (CV.ren f)=b) (hb':∀ f,b'.map (CV.ren f)=b') {m:List Val}
  (h:den K g [P0,P1,P2] [rdB (Sl.trim l),a,b]=some (.pan dW [rdB m,a',b'])) :
  den K 37 [L (encL l),.c (.fn g [(100000,0),(100001,0)])] [a,b]=some (.ret (I 40) [a',b']):=by
 have hT:=jN l hl
 rw[kZ (K:=K) (F:=f8 goods.contains) rfl rfl];have e1:lend (dD [a,b]) 0=some 100000:=rfl
 have e2:lend (dD [a,b]) 100000=some 100001:=rfl
 have e3:lend (dD [a,b]) 100001=some 100002:=rfl
 unfold f8;simp only[Plan.run,hT,hg,if_true,List.map_cons,List.map_nil,AV.deg,CV.deg,AV.ren,CV.ren,e1,e2,e3,ha,hb,h,j0,ha',hb']
abbrev iB (n:Int):List CV:=[.pv (.int .i64 n)]
theorem KF (n:Int):(decide (-9999≤n)&&decide (n≤9999))=decide (Sl.few n):=by
 rw[Bool.eq_iff_iff,Bool.and_eq_true,decide_eq_true_eq,decide_eq_true_eq,decide_eq_true_eq];rfl
theorem GI (l:List Val) (hl:l.length≤70000000) (ht:TSh l):match Sl.nthP l with
  | some (x,m)=>if Sl.few x.1∧Sl.few x.2 then den K 38 [P0,P1,P2] [rdB l,iB 0,iB 0]=some (.ret (.tup []) [rdB m,iB x.1,iB x.2])
   else den K 38 [P0,P1,P2] [rdB l,iB 0,iB 0]=some (.pan dW [rdB m,iB x.1,iB x.2])
  | none=>∃ m,den K 38 [P0,P1,P2] [rdB l,iB 0,iB 0]=some (.pan dW [rdB m,iB 0,iB 0]):=by
 have hr:Tryz.f38.results=#[]:=rfl
 have h:=EO l hl ht
 have hmy:=fe
 have hmn:=gR
 cases hn:Sl.nthP l with
 | none =>
  rw[hn] at h;obtain⟨m,h⟩:=fm h;refine⟨m,?_⟩
  simp only[rdB,iB] at h ⊢;refine ah rfl rfl Tryz.func38 rfl Tryz.ntmps38 ⟨by simp,by simp[LK]⟩ ?_
  simp only[go_sem,reduceLT,reduceEqDiff,Nat.reduceBEq,reduceAdd,reduceSub,reduceLeDiff,hr,h]
 | some y =>
  obtain⟨⟨a,b⟩,m⟩:=y;rw[hn] at h;have h:=er h
  have ha:=rG a
  have hb:=rG b
  rw[KF] at ha hb;simp only;by_cases fa:Sl.few a
  ·rw[decide_eq_true fa] at ha;by_cases fb:Sl.few b
   ·rw[decide_eq_true fb] at hb;rw[if_pos ⟨fa,fb⟩];simp only[rdB,iB,twoI] at h ⊢;refine ah rfl rfl Tryz.func38 rfl Tryz.ntmps38 ⟨by simp,by simp[LK]⟩ ?_
    simp only[go_sem,reduceLT,reduceEqDiff,Nat.reduceBEq,reduceAdd,reduceSub,reduceLeDiff,hr,h,ha,hb,hmy]
   ·rw[decide_eq_false fb] at hb;rw[if_neg fun h=>fb h.2]
    simp only[rdB,iB,twoI] at h ⊢;refine ah rfl rfl Tryz.func38 rfl Tryz.ntmps38 ⟨by simp,by simp[LK]⟩ ?_
    simp only[go_sem,reduceLT,reduceEqDiff,Nat.reduceBEq,reduceAdd,reduceSub,reduceLeDiff,hr,h,ha,hb,hmn]
  ·rw[decide_eq_false fa] at ha;rw[if_neg fun h=>fa h.1]
   simp only[rdB,iB,twoI] at h ⊢;refine ah rfl rfl Tryz.func38 rfl Tryz.ntmps38 ⟨by simp,by simp[LK]⟩ ?_
   simp only[go_sem,reduceLT,reduceEqDiff,Nat.reduceBEq,reduceAdd,reduceSub,reduceLeDiff,hr,h,ha,hmn]
theorem jz (n:Int) (f:Nat→Option Nat):(iB n).map (CV.ren f)=iB n:=rfl
theorem Mi (v:List Val):Sl.nthM v=match Sl.nthP (Sl.trim v) with
  | some (x,[])=>if Sl.few x.1∧Sl.few x.2 then some x else none
  | _=>none:=by
 unfold Sl.nthM;rw[←Sl.Dj v];unfold Sl.f8;generalize Sl.nthP (Sl.trim v)=y
 match y with
 | none=>rfl
 | some (x,[])=>rfl
 | some (x,_::_)=>rfl
theorem xp (l:List Val) (hl:l.length≤70000000) (ht:TSh l):den K 13 [L (encL l)] []=some (.ret (nthA (Sl.nthM l)) []):=by
 have hr:Tryz.f13.results=#[.cell 2 3,.cell 3 3,.tmp 4]:=rfl
 have hc:=GI (Sl.trim l) (Nat.le_trans (Sl.yB l) hl) (kF ht)
 have hg:goods.contains 38=true:=by kernel_rfl
 have key:∀ (a b:Int) (e:Int),den K 37 [L (encL l),.c (.fn 38 [(100000,0),(100001,0)])] [iB 0,iB 0]=some (.ret (I e) [iB a,iB b])→(e=0∨e=40) →
   den K 13 [L (encL l)] []=some (.ret (nthA (if e=0 then some (a,b) else none)) []):=by
  intro a b e h he;simp only[iB] at h;rcases he with rfl|rfl
  ·rw[if_pos rfl];unfold nthA;refine ah rfl rfl Tryz.func13 rfl Tryz.ntmps13 ⟨by simp,by simp[LK]⟩ ?_
   simp only[go_sem,reduceLT,reduceCtorEq,reduceEqDiff,Nat.reduceBEq,reduceAdd,reduceSub,reduceLeDiff,hr,h,hZ,locs,jK,bne_self_eq_false]
   first|rw[aJ]|rw[aR]
   rotate_left
   ·kernel_rfl
   simp only[go_sem,reduceEqDiff,reduceSub,reduceLeDiff]
  ·rw[if_neg (by decide)]
   unfold nthA;refine ah rfl rfl Tryz.func13 rfl Tryz.ntmps13 ⟨by simp,by simp[LK]⟩ ?_
   simp only[go_sem,reduceLT,reduceCtorEq,reduceEqDiff,Nat.reduceBEq,reduceAdd,reduceSub,reduceLeDiff,hr,h,hZ,locs,jK,Int.reduceBNe]
 rw[Mi];cases hn:Sl.nthP (Sl.trim l) with
 | none =>
  rw[hn] at hc;obtain⟨m,hc⟩:=hc;exact key 0 0 40 (tH hg (by omega) (jz _) (jz _) (jz _) (jz _) hc) (.inr rfl)
 | some y =>
  obtain⟨⟨a,b⟩,m⟩:=y;rw[hn] at hc;simp only at hc;by_cases hf:Sl.few a∧Sl.few b
  ·rw[if_pos hf] at hc;have hw:=AB hg (by omega) (jz _) (jz _) (jz _) (jz _) hc
   cases m with
   | nil =>
    have:=key a b 0 hw (.inl rfl)
    simp only;rw[if_pos hf];exact this
   | cons v m=>exact key a b 40 hw (.inr rfl)
  ·rw[if_neg hf] at hc;have hw:=tH hg (by omega) (jz _) (jz _) (jz _) (jz _) hc
   have:=key a b 40 hw (.inr rfl)
   cases m with
   | nil =>
    simp only;rw[if_neg hf];exact this
   | cons v m=>exact this
theorem vy:∀ {ws:List (List Val)},(∀ w∈ws,w≠[])→lC (encP ws)=some (ws.map encL)
 | [],_=>rfl
 | w::ws,h=>by
  have hw:=h w (by simp)
  have h1:encL w≠[]:=by cases w with
   | nil=>exact absurd rfl hw
   | cons v r=>simp[encL]
  have h2:(encL w).all (fun el=>el.length==5)=true:=fu w
  have ih:=vy (ws:=ws) fun x hx=>h x (by simp[hx])
  show lC ([.sl (encL w)]::encP ws)=_
  rw[lC];have h3:AM [.sl (encL w)]=some (encL w):=if_pos ⟨h1,h2⟩
  rw[h3,ih];rfl
theorem yy (ws:List (List Val)):(ws.map encL).flatten=encL ws.flatten:=by
 induction ws with
 | nil=>rfl
 | cons w ws ih=>rw[List.map_cons,List.flatten_cons,ih,List.flatten_cons,ke]
theorem Az (ws:List (List Val)) (h:∀ w∈ws,w≠[]) (hn:ws.length≤1000000000) (hf:ws.flatten.length≤1000000000) :
  den K 205 [L (encP ws)] []=some (.ret (L (encL ws.flatten)) []) :=
 fB (F:=pB) rfl (by
  unfold pB;simp only;rw[vy h];simp only;rw[yy,if_pos ⟨by rw[List.length_map];exact hn,by rw[az];exact hf⟩])
theorem FB (l:List Val) (hl:Ne.size l≤60000000):match Sl.attr l with
  | some x=>den K 172 [L (encL l)] []=some (.ret (.agg (eL x)) [])
  | none=>den K 172 [L (encL l)] []=some (.pan dW []):=by
 have hr:Tryz.f172.results=#[.cell 2 52]:=rfl
 have hll:=Ne.bM l
 have hw:=BN l (by omega)
 have hwn:=Sl.vZ l
 have hwf:=Sl.B2 l
 have hlen:(l.filter fun v => !Sl.ay v).length≤l.length:=List.length_filter_le _ _
 have hc:=Az (Sl.words l) (fun w hw=>(Sl.Dd hw).1) (by omega) (by rw[hwf];omega)
 rw[hwf] at hc;rw[Sl.Bt];generalize hm:(l.filter fun v => !Sl.ay v)=m at *
 have hmy:=fe
 have hmn:=gR
 have hn:=iU m (by omega)
 unfold Sl.Hh;cases k1:Sl.name m with
 | none =>
  rw[k1] at hn;obtain⟨q,hn⟩:=fm hn;simp only[rdB] at hn ⊢;refine ah rfl rfl Tryz.func172 rfl Tryz.ntmps172 ⟨by simp,by simp[LK]⟩ ?_
  simp only[go_sem,reduceLT,reduceCtorEq,reduceEqDiff,Nat.reduceBEq,reduceAdd,reduceSub,reduceLeDiff,ab ae aj,ab bD bR,hr,hw,hc,hn]
 | some y =>
  obtain⟨s,r⟩:=y;rw[k1] at hn;have hn:=er hn
  have hrl:r.length≤m.length:=by
   unfold Sl.name at k1
   rw[Option.map_eq_some_iff] at k1
   obtain⟨t,_,e⟩:=k1;cases e;rw[List.length_tail];omega
  simp only;cases k2:Sl.sign [61] r with
  | none =>
   have hs:=fp (by omega) k2
   have q0:(([]:List UInt8)==[])=true:=rfl
   simp only;cases r with
   | nil =>
    rw[if_pos rfl];have q1:(((0:Nat):Int)==0)=true:=rfl
    simp only[rdB,aU] at hn hs ⊢;refine ah rfl rfl Tryz.func172 rfl Tryz.ntmps172 ⟨by simp,by simp[LK]⟩ ?_
    simp only[go_sem,reduceLT,reduceCtorEq,reduceEqDiff,Nat.reduceBEq,reduceAdd,reduceSub,reduceLeDiff,reduceMul,ab ae aj,ab bD bR,ao (len:=1) aK aL aH ⟨rfl,by decide,by decide⟩,af ak,hr,hw,hc,hn,hs,q0,q1,bne,hmy,az]
   | cons v r =>
    rw[if_neg (by simp)]
    have q1:(((r.length+1:Nat):Int)==0)=false:=by rw[beq_eq_false_iff_ne];omega
    simp only[rdB] at hn hs ⊢;refine ah rfl rfl Tryz.func172 rfl Tryz.ntmps172 ⟨by simp,by simp[LK]⟩ ?_
    simp only[go_sem,reduceLT,reduceCtorEq,reduceEqDiff,Nat.reduceBEq,reduceAdd,reduceSub,reduceLeDiff,reduceMul,ab ae aj,ab bD bR,ao (len:=1) aK aL aH ⟨rfl,by decide,by decide⟩,af ak,hr,hw,hc,hn,hs,q0,q1,bne,hmn,az]
  | some r2 =>
   have hs:=iH (by omega) k2
   have q0:(([61]:List UInt8)==[])=false:=rfl
   have hr2:r2.length≤r.length:=by
    obtain⟨v,e,_⟩:=Sl.fN k2;rw[e,List.length_cons];omega
   have t1:=dM r2 1 (by omega)
   have t6:=dM r2 6 (by omega)
   simp only;cases r2 with
   | nil =>
    show den K 172 [L (encL l)] []=some (.pan dW [])
    simp only[rdB,tokB] at hn hs t1 t6 ⊢;refine ah rfl rfl Tryz.func172 rfl Tryz.ntmps172 ⟨by simp,by simp[LK]⟩ ?_
    simp only[go_sem,reduceLT,reduceCtorEq,reduceEqDiff,Nat.reduceBEq,reduceAdd,reduceSub,reduceLeDiff,reduceMul,ab ae aj,ab bD bR,ao (len:=1) aK aL aH ⟨rfl,by decide,by decide⟩,hr,hw,hc,hn,hs,q0,bne,t1,t6,hmn]
   | cons v r3 =>
    obtain⟨k,u,c⟩:=v;have htk:=fA k u c r3 (by rw[List.length_cons] at hr2;omega)
    rw[fY] at htk;have e1:tokB 1 (.mk k u c::r3)=((k==1)&&(u.kind==1)):=rfl
    have e6:tokB 6 (.mk k u c::r3)=((k==1)&&(u.kind==6)):=rfl
    rw[e1] at t1
    rw[e6] at t6
    by_cases hu:k=1∧(u.kind=1∨u.kind=6)
    ·have q3:((k==1)&&(u.kind==1))=true∨(((k==1)&&(u.kind==1))=false∧((k==1)&&(u.kind==6))=true):=by
      obtain⟨rfl,h|h⟩:=hu
      ·left;rw[h];rfl
      ·right;rw[h];exact⟨rfl,rfl⟩
     cases r3 with
     | nil =>
      have q1:(((0:Nat):Int)==0)=true:=rfl
      have e:Sl.vE s [.mk k u c]=some (.mk 6 s u.text 0 0 []):=if_pos hu
      rw[e];simp only[rdB,aU] at hn hs t1 t6 htk ⊢;rcases q3 with q3|⟨q3,q4⟩
      ·rw[q3] at t1
       refine ah rfl rfl Tryz.func172 rfl Tryz.ntmps172 ⟨by simp,by simp[LK]⟩ ?_
       simp only[go_sem,reduceLT,reduceCtorEq,reduceEqDiff,Nat.reduceBEq,reduceAdd,reduceSub,reduceLeDiff,reduceMul,ab ae aj,ab bD bR,ao (len:=1) aK aL aH ⟨rfl,by decide,by decide⟩,af ak,hr,hw,hc,hn,hs,q0,q1,bne,t1,htk,hmy,az]
      ·rw[q3] at t1
       rw[q4] at t6
       refine ah rfl rfl Tryz.func172 rfl Tryz.ntmps172 ⟨by simp,by simp[LK]⟩ ?_
       simp only[go_sem,reduceLT,reduceCtorEq,reduceEqDiff,Nat.reduceBEq,reduceAdd,reduceSub,reduceLeDiff,reduceMul,ab ae aj,ab bD bR,ao (len:=1) aK aL aH ⟨rfl,by decide,by decide⟩,af ak,hr,hw,hc,hn,hs,q0,q1,bne,t1,t6,htk,hmy,az]
     | cons z r4 =>
      have q1:(((r4.length+1:Nat):Int)==0)=false:=by rw[beq_eq_false_iff_ne];omega
      show den K 172 [L (encL l)] []=some (.pan dW [])
      simp only[rdB] at hn hs t1 t6 htk ⊢;rcases q3 with q3|⟨q3,q4⟩
      ·rw[q3] at t1
       refine ah rfl rfl Tryz.func172 rfl Tryz.ntmps172 ⟨by simp,by simp[LK]⟩ ?_
       simp only[go_sem,reduceLT,reduceCtorEq,reduceEqDiff,Nat.reduceBEq,reduceAdd,reduceSub,reduceLeDiff,reduceMul,ab ae aj,ab bD bR,ao (len:=1) aK aL aH ⟨rfl,by decide,by decide⟩,af ak,hr,hw,hc,hn,hs,q0,q1,bne,t1,htk,hmy,hmn,az]
      ·rw[q3] at t1
       rw[q4] at t6
       refine ah rfl rfl Tryz.func172 rfl Tryz.ntmps172 ⟨by simp,by simp[LK]⟩ ?_
       simp only[go_sem,reduceLT,reduceCtorEq,reduceEqDiff,Nat.reduceBEq,reduceAdd,reduceSub,reduceLeDiff,reduceMul,ab ae aj,ab bD bR,ao (len:=1) aK aL aH ⟨rfl,by decide,by decide⟩,af ak,hr,hw,hc,hn,hs,q0,q1,bne,t1,t6,htk,hmy,hmn,az]
    ·have q3:((k==1)&&(u.kind==1))=false:=by
      rw[Bool.and_eq_false_iff,beq_eq_false_iff_ne,beq_eq_false_iff_ne];by_cases h1:k=1
      ·exact .inr fun h2=>hu ⟨h1,.inl h2⟩
      ·exact .inl h1
     have q4:((k==1)&&(u.kind==6))=false:=by
      rw[Bool.and_eq_false_iff,beq_eq_false_iff_ne,beq_eq_false_iff_ne];by_cases h1:k=1
      ·exact .inr fun h2=>hu ⟨h1,.inr h2⟩
      ·exact .inl h1
     rw[q3] at t1
     rw[q4] at t6
     have e:Sl.vE s (.mk k u c::r3)=none:=by
      cases r3 with
      | nil=>exact if_neg hu
      | cons _ _=>rfl
     rw[e];simp only[rdB] at hn hs t1 t6 htk ⊢;refine ah rfl rfl Tryz.func172 rfl Tryz.ntmps172 ⟨by simp,by simp[LK]⟩ ?_
     simp only[go_sem,reduceLT,reduceCtorEq,reduceEqDiff,Nat.reduceBEq,reduceAdd,reduceSub,reduceLeDiff,reduceMul,ab ae aj,ab bD bR,ao (len:=1) aK aL aH ⟨rfl,by decide,by decide⟩,hr,hw,hc,hn,hs,q0,bne,t1,t6,hmn]
attribute [local go_sem] dA eG om DZ uf ql aZ ai IH IR aF bq kw jQ ky dJ gN Cq ju
abbrev KP (t:Tok):List CV:=[.pv (.int .i64 t.kind),.pv (.str t.text),.pv (.int .i64 t.n)]
theorem mY (t:Tok) (kind:Int):den K 113 [.agg (KP t),I kind] []=some (.ret (B (decide (t=Ne.iq kind))) []):=by
 have hv:decide (t=Ne.iq kind)=((t.kind==7)&&((t.text==[Ne.jx kind])&&((t.n==0)&&true))):=(nA t (Ne.iq kind)).symm
 rw[hv];refine ah rfl rfl Tryz.func113 rfl Tryz.ntmps113 ⟨by simp,by simp[LK]⟩ ?_
 have hr:Tryz.f113.results=#[.tmp 4]:=rfl
 cases b1:(t.kind==7)
 ·have e1:(t.kind != 7)=true:=by rw[bne,b1];rfl
  simp only[go_sem,reduceLT,reduceEqDiff,Nat.reduceBEq,reduceAdd,reduceSub,reduceLeDiff,hr,e1]
 ·have e1:(t.kind != 7)=false:=by rw[bne,b1];rfl
  cases b2:(t.n==0)
  ·have e2:(t.n != 0)=true:=by rw[bne,b2];rfl
   simp only[go_sem,reduceLT,reduceEqDiff,Nat.reduceBEq,reduceAdd,reduceSub,reduceLeDiff,hr,e1,e2]
  ·have e2:(t.n != 0)=false:=by rw[bne,b2];rfl
   by_cases h3:kind=3
   ·subst h3;have c3:Ne.jx 3=93:=rfl
    simp only[go_sem,reduceLT,reduceEqDiff,Nat.reduceBEq,reduceAdd,reduceSub,reduceLeDiff,hr,e1,e2,c3]
   ·have e3:(kind==3)=false:=by rw[beq_eq_false_iff_ne];exact h3
    by_cases h4:kind=4
    ·subst h4;have c4:Ne.jx 4=125:=rfl
     have e43:((4:Int)==3)=false:=by decide
     have n43:((4:Int)=3)=False:=by decide
     simp only[go_sem,reduceLT,reduceEqDiff,Nat.reduceBEq,reduceAdd,reduceSub,reduceLeDiff,hr,e1,e2,c4,e43]
    ·have e4:(kind==4)=false:=by rw[beq_eq_false_iff_ne];exact h4
     have c:Ne.jx kind=41:=by simp[Ne.jx,h3,h4]
     simp only[go_sem,reduceLT,reduceEqDiff,Nat.reduceBEq,reduceAdd,reduceSub,reduceLeDiff,hr,e1,e2,e3,e4,c]
theorem oZ (t:Tok):den K 114 [.agg (KP t)] []=some (.ret (I (Ne.opens t)) []):=by
 obtain⟨k,s,n⟩:=t;have hv:Ne.opens ⟨k,s,n⟩=lV k s n:=rfl
 rw[hv];unfold lV;refine ah rfl rfl Tryz.func114 rfl Tryz.ntmps114 ⟨by simp,by simp[LK]⟩ ?_
 have hr:Tryz.f114.results=#[.tmp 2]:=rfl
 by_cases h2:k=2
 ·subst h2;simp only[go_sem,reduceLT,reduceEqDiff,Nat.reduceBEq,reduceAdd,reduceSub,reduceLeDiff,hr]
 ·rw[if_neg h2];have e2:(k==2)=false:=by rw[beq_eq_false_iff_ne];exact h2
  by_cases h7:k=7
  ·subst h7;have e72:((7:Int)==2)=false:=by decide
   have n72:((7:Int)=2)=False:=by decide
   have e77:((7:Int) != 7)=false:=by decide
   by_cases hn:n=0
   ·subst hn;have e0:((0:Int) != 0)=false:=by decide
    rw[if_pos ⟨rfl,rfl⟩];by_cases a1:s=[40]
    ·subst a1;simp only[go_sem,reduceLT,reduceEqDiff,Nat.reduceBEq,reduceAdd,reduceSub,reduceLeDiff,hr,e72,e77,e0]
    ·have b1:(s==[40])=false:=by rw[beq_eq_false_iff_ne];exact a1
     rw[if_neg a1];by_cases a2:s=[91]
     ·subst a2;simp only[go_sem,reduceLT,reduceEqDiff,Nat.reduceBEq,reduceAdd,reduceSub,reduceLeDiff,hr,e72,e77,e0,b1]
     ·have b2:(s==[91])=false:=by rw[beq_eq_false_iff_ne];exact a2
      rw[if_neg a2];by_cases a3:s=[123]
      ·subst a3;simp only[go_sem,reduceLT,reduceEqDiff,Nat.reduceBEq,reduceAdd,reduceSub,reduceLeDiff,hr,e72,e77,e0,b1,b2]
      ·have b3:(s==[123])=false:=by rw[beq_eq_false_iff_ne];exact a3
       rw[if_neg a3];simp only[go_sem,reduceLT,reduceEqDiff,Nat.reduceBEq,reduceAdd,reduceSub,reduceLeDiff,hr,e72,e77,e0,b1,b2,b3]
   ·have e0:(n != 0)=true:=by rw[bne_iff_ne];exact hn
    rw[if_neg (fun h=>hn h.2)]
    simp only[go_sem,reduceLT,reduceEqDiff,Nat.reduceBEq,reduceAdd,reduceSub,reduceLeDiff,hr,e72,e77,e0]
  ·have e7:(k != 7)=true:=by rw[bne_iff_ne];exact h7
   rw[if_neg (fun h=>h7 h.1)]
   simp only[go_sem,reduceLT,reduceEqDiff,Nat.reduceBEq,reduceAdd,reduceSub,reduceLeDiff,hr,e2,e7]
theorem oc {t:Tok} (h:Ne.opens t≠0):0<Ne.opens t:=by
 rcases Ne.i8 t with h1|h1|h1|h1|h1<;>omega
abbrev u2H (l:List Tok) (kind left:Int) (i:Nat) (e:Nat) (acc:List Val):St :=
  { sl:=upd (upd (upd (upd (upd bot 9 (.c (.loc 9 0))) 8 (.c (.loc 8 0))) 3 (I left)) 2 (I kind)) 0 (L (l.map Tok.enc)),bx:=upd (upd nobox 9 (some [.own e (encL acc),.pv (.int .i64 i),.pv (.bool false)])) 8 (some [.own 0 [],.pv (.int .i64 0),.pv (.bool false)]),nt:=76 }
noncomputable def ulp2:Code:=.loop (ap Tryz.f64 2)
def Ret2 (x:List (List PV)) (j:Int) (bad:Bool) (o:Out) (S:St):Prop:=o=.ret∧S.sl 8=.c (.loc 8 0)∧S.bx 8=some [.pv (.sl x),.pv (.int .i64 j),.pv (.bool bad)]
theorem Gj (l:List Tok) (kind left:Int) (e:Nat) (acc:List Val) :
  Ends (exL K 64 ulp2 (u2H l kind left l.length e acc)) fun o S=>o=.exit 0∧S.nt=76∧S.sl 8=.c (.loc 8 0)∧S.sl 9=.c (.loc 9 0)∧S.bx 8=some [.own 0 [],.pv (.int .i64 0),.pv (.bool false)]∧S.bx 9=some [.own e (encL acc),.pv (.int .i64 l.length),.pv (.bool false)]:=by
 unfold ulp2
 conv in ap _ _=>whnf
 rw[aq];simp only[go_sem,reduceLT,reduceCtorEq,reduceEqDiff,Nat.reduceBEq,reduceAdd,af aE,ar]
theorem rM (l:List Tok) (i:Nat) (t:Tok) (h:l[i]? = some t):(l.map Tok.enc)[(i:Int).toNat]? = some [.int .i64 t.kind,.str t.text,.int .i64 t.n]:=by
 simp[h,Tok.enc]
theorem Jd (l:List Tok) (kind left:Int) (i:Nat) (e:Nat) (acc:List Val) (t:Tok) (hi:l[i]? = some t) (hl:l.length≤100000000) (h:Ne.ef kind t=true) :
  Ends (exL K 64 ulp2 (u2H l kind left i e acc)) (Ret2 (encL acc) ((i+1:Nat):Int) false):=by
 have hil:i<l.length:=(List.getElem?_eq_some_iff.1 hi).1
 have hlt:decide ((i:Int)<(l.length:Int))=true:=decide_eq_true (by omega)
 have hget:=rM l i t hi
 have hw:IntKind.i64.wrap ((i:Int)+1)=((i+1:Nat):Int):=bf i (by omega)
 unfold Ne.ef at h;rw[Bool.and_eq_true] at h;obtain⟨e1,e2⟩:=h;have hld:=mY t kind
 rw[e2] at hld;unfold ulp2 Ret2
 conv in ap _ _=>whnf
 rw[aq];simp only[go_sem,reduceLT,reduceCtorEq,reduceEqDiff,Nat.reduceBEq,reduceAdd,reduceLeDiff,af aE,ag aE,hlt,hget,Int.natCast_nonneg,hw,e1,hld,ar]
theorem uX (acc:List Val) (k:Int) (t:Tok) (vs:List Val):encL acc++[[.int .i64 k,.int .i64 t.kind,.str t.text,.int .i64 t.n,.sl (encL vs)]]=encL (acc++[.mk k t vs]):=by
 rw[ke];rfl
theorem uF (acc:List Val) (k:Int) (t:Tok):encL acc++[[.int .i64 k,.int .i64 t.kind,.str t.text,.int .i64 t.n,.sl []]]=encL (acc++[.mk k t []]):=by
 rw[ke];rfl
theorem ux (acc:List Val) (k:Int) (vs:List Val):encL acc++[[.int .i64 k,.int .i64 0,.str [],.int .i64 0,.sl (encL vs)]]=encL (acc++[.mk k Ne.tok0 vs]):=by
 rw[ke];rfl
theorem LQ (l:List Tok) (kind left:Int) (i:Nat) (e:Nat) (acc:List Val) (t:Tok) (hi:l[i]? = some t) (hl:l.length≤100000000) (h:Ne.ef kind t=false) (he:e=93∨acc=[]) (hacc:acc.length<100000000) (h0:Ne.opens t=0) :
  exL K 64 ulp2 (u2H l kind left i e acc)=exL K 64 ulp2 (u2H l kind left (i+1) 93 (acc++[.mk 1 t []])):=by
 have hil:i<l.length:=(List.getElem?_eq_some_iff.1 hi).1
 have hlt:decide ((i:Int)<(l.length:Int))=true:=decide_eq_true (by omega)
 have hget:=rM l i t hi
 have hw:IntKind.i64.wrap ((i:Int)+1)=((i+1:Nat):Int):=bf i (by omega)
 have hld:=mY t kind
 have hop:=oZ t
 rw[h0] at hop;have hown:e=93∨(encL acc).isEmpty=true:=by
  rcases he with rfl|rfl
  ·exact .inl rfl
  ·exact .inr rfl
 have hlim:acc.length+1<cw:=by unfold cw;omega
 have hlv:=fu acc
 unfold ulp2
 conv in ap _ _=>whnf
 conv in ap _ _=>whnf
 conv in exL _ _ _ (u2H l kind left i e acc)=>rw[aq]
 unfold Ne.ef at h;cases e1:decide (0<kind)
 ·simp only[go_sem,reduceLT,reduceCtorEq,reduceEqDiff,Nat.reduceBEq,reduceAdd,reduceLeDiff,reduceMul,af aE,ag aE,ab aF bQ,ao (len:=1) ak bq aF ⟨rfl,by decide,by decide⟩,bB de,aX ak,hlt,hget,Int.natCast_nonneg,hw,e1,hop,az,hlim,hlv,ix,hown,uF]
  rw[au];simp only[go_sem,reduceCtorEq,reduceEqDiff,Nat.reduceBEq]
 ·rw[e1,Bool.true_and] at h;rw[h] at hld;simp only[go_sem,reduceLT,reduceCtorEq,reduceEqDiff,Nat.reduceBEq,reduceAdd,reduceLeDiff,reduceMul,af aE,ag aE,ab aF bQ,ao (len:=1) ak bq aF ⟨rfl,by decide,by decide⟩,bB de,aX ak,hlt,hget,Int.natCast_nonneg,hw,e1,hld,hop,az,hlim,hlv,ix,hown,uF]
  rw[au];simp only[go_sem,reduceCtorEq,reduceEqDiff,Nat.reduceBEq]
theorem MA (l:List Tok) (kind:Int) (n:Nat) (i j:Nat) (e:Nat) (acc:List Val) (t:Tok) (vs:List Val) (hi:l[i]? = some t) (hl:l.length≤100000000) (hn:n<1000) (h:Ne.ef kind t=false) (he:e=93∨acc=[]) (hacc:acc.length<100000000) (h0:Ne.opens t≠0)
  (hin:den K 64 [L (l.map Tok.enc),I ((i+1:Nat):Int),I (Ne.opens t),I n] []=some (.ret (.agg [.pv (.sl (encL vs)),.pv (.int .i64 j),.pv (.bool false)]) [])) :
  exL K 64 ulp2 (u2H l kind ((n+1:Nat):Int) i e acc)=exL K 64 ulp2 (u2H l kind ((n+1:Nat):Int) j 93 (acc++[.mk (Ne.opens t) (if Ne.opens t=5 then t else Ne.tok0) vs])):=by
 have hil:i<l.length:=(List.getElem?_eq_some_iff.1 hi).1
 have hlt:decide ((i:Int)<(l.length:Int))=true:=decide_eq_true (by omega)
 have hget:=rM l i t hi
 have hw:IntKind.i64.wrap ((i:Int)+1)=((i+1:Nat):Int):=bf i (by omega)
 have hld:=mY t kind
 have hop:=oZ t
 have hpos:decide (0<Ne.opens t)=true:=decide_eq_true (oc h0)
 have hown:e=93∨(encL acc).isEmpty=true:=by
  rcases he with rfl|rfl
  ·exact .inl rfl
  ·exact .inr rfl
 have hlim:acc.length+1<cw:=by unfold cw;omega
 have hlv:=fu acc
 have hl0:(((n+1:Nat):Int)==0)=false:=by rw[beq_eq_false_iff_ne];omega
 have hwl:IntKind.i64.wrap (((n+1:Nat):Int) - 1)=(n:Int):=by rw[IntWalk.i64_in _ (by omega)];omega
 unfold ulp2
 conv in ap _ _=>whnf
 conv in ap _ _=>whnf
 conv in exL _ _ _ (u2H l kind _ i e acc)=>rw[aq]
 by_cases h5:Ne.opens t=5
 ·have e5:(Ne.opens t==5)=true:=by rw[beq_iff_eq];exact h5
  rw[if_pos h5];unfold Ne.ef at h;cases e1:decide (0<kind)
  ·simp only[go_sem,reduceLT,reduceCtorEq,reduceEqDiff,Nat.reduceBEq,reduceAdd,reduceLeDiff,reduceMul,af aE,ag aE,ab aF bQ,ao (len:=1) ak bq aF ⟨rfl,by decide,by decide⟩,bB de,aX ak,hlt,hget,Int.natCast_nonneg,hw,e1,hop,hpos,az,hlim,hlv,ix,hown,hin,hwl,hl0,e5,uX]
   rw[au];simp only[go_sem,reduceCtorEq,reduceEqDiff,Nat.reduceBEq]
  ·rw[e1,Bool.true_and] at h;rw[h] at hld;simp only[go_sem,reduceLT,reduceCtorEq,reduceEqDiff,Nat.reduceBEq,reduceAdd,reduceLeDiff,reduceMul,af aE,ag aE,ab aF bQ,ao (len:=1) ak bq aF ⟨rfl,by decide,by decide⟩,bB de,aX ak,hlt,hget,Int.natCast_nonneg,hw,e1,hld,hop,hpos,az,hlim,hlv,ix,hown,hin,hwl,hl0,e5,uX]
   rw[au];simp only[go_sem,reduceCtorEq,reduceEqDiff,Nat.reduceBEq]
 ·have e5:(Ne.opens t==5)=false:=by rw[beq_eq_false_iff_ne];exact h5
  rw[if_neg h5];unfold Ne.ef at h;cases e1:decide (0<kind)
  ·simp only[go_sem,reduceLT,reduceCtorEq,reduceEqDiff,Nat.reduceBEq,reduceAdd,reduceLeDiff,reduceMul,af aE,ag aE,ab aF bQ,ao (len:=1) ak bq aF ⟨rfl,by decide,by decide⟩,bB de,aX ak,hlt,hget,Int.natCast_nonneg,hw,e1,hop,hpos,az,hlim,hlv,ix,hown,hin,hwl,hl0,e5,ux]
   rw[au];simp only[go_sem,reduceCtorEq,reduceEqDiff,Nat.reduceBEq]
  ·rw[e1,Bool.true_and] at h;rw[h] at hld;simp only[go_sem,reduceLT,reduceCtorEq,reduceEqDiff,Nat.reduceBEq,reduceAdd,reduceLeDiff,reduceMul,af aE,ag aE,ab aF bQ,ao (len:=1) ak bq aF ⟨rfl,by decide,by decide⟩,bB de,aX ak,hlt,hget,Int.natCast_nonneg,hw,e1,hld,hop,hpos,az,hlim,hlv,ix,hown,hin,hwl,hl0,e5,ux]
   rw[au];simp only[go_sem,reduceCtorEq,reduceEqDiff,Nat.reduceBEq]
theorem Jj (l:List Tok) (kind:Int) (i:Nat) (e:Nat) (acc:List Val) (t:Tok) (hi:l[i]? = some t) (hl:l.length≤100000000) (h:Ne.ef kind t=false) (h0:Ne.opens t≠0) :
  Ends (exL K 64 ulp2 (u2H l kind ((0:Nat):Int) i e acc)) fun o S=>∃ a b,Ret2 a b true o S:=by
 have hil:i<l.length:=(List.getElem?_eq_some_iff.1 hi).1
 have hlt:decide ((i:Int)<(l.length:Int))=true:=decide_eq_true (by omega)
 have hget:=rM l i t hi
 have hw:IntKind.i64.wrap ((i:Int)+1)=((i+1:Nat):Int):=bf i (by omega)
 have hld:=mY t kind
 have hop:=oZ t
 have hpos:decide (0<Ne.opens t)=true:=decide_eq_true (oc h0)
 have hl0:(((0:Nat):Int)==0)=true:=by decide
 unfold ulp2 Ret2
 conv in ap _ _=>whnf
 rw[aq];unfold Ne.ef at h;cases e1:decide (0<kind)
 ·simp only[go_sem,reduceLT,reduceCtorEq,reduceEqDiff,Nat.reduceBEq,reduceAdd,reduceLeDiff,af aE,ag aE,ab aF bQ,hlt,hget,Int.natCast_nonneg,hw,e1,hop,hpos,hl0,ar];exact⟨_,_,rfl⟩
 ·rw[e1,Bool.true_and] at h;rw[h] at hld;simp only[go_sem,reduceLT,reduceCtorEq,reduceEqDiff,Nat.reduceBEq,reduceAdd,reduceLeDiff,af aE,ag aE,ab aF bQ,hlt,hget,Int.natCast_nonneg,hw,e1,hld,hop,hpos,hl0,ar];exact⟨_,_,rfl⟩
theorem Mf (l:List Tok) (kind:Int) (n:Nat) (i:Nat) (e:Nat) (acc:List Val) (t:Tok) (hi:l[i]? = some t) (hl:l.length≤100000000) (hn:n<1000) (h:Ne.ef kind t=false) (h0:Ne.opens t≠0) (x:List (List PV)) (j:Int)
  (hin:den K 64 [L (l.map Tok.enc),I ((i+1:Nat):Int),I (Ne.opens t),I n] []=some (.ret (.agg [.pv (.sl x),.pv (.int .i64 j),.pv (.bool true)]) [])) :
  Ends (exL K 64 ulp2 (u2H l kind ((n+1:Nat):Int) i e acc)) fun o S=>∃ a b,Ret2 a b true o S:=by
 have hil:i<l.length:=(List.getElem?_eq_some_iff.1 hi).1
 have hlt:decide ((i:Int)<(l.length:Int))=true:=decide_eq_true (by omega)
 have hget:=rM l i t hi
 have hw:IntKind.i64.wrap ((i:Int)+1)=((i+1:Nat):Int):=bf i (by omega)
 have hld:=mY t kind
 have hop:=oZ t
 have hpos:decide (0<Ne.opens t)=true:=decide_eq_true (oc h0)
 have hl0:(((n+1:Nat):Int)==0)=false:=by rw[beq_eq_false_iff_ne];omega
 have hwl:IntKind.i64.wrap (((n+1:Nat):Int) - 1)=(n:Int):=by rw[IntWalk.i64_in _ (by omega)];omega
 unfold ulp2 Ret2
 conv in ap _ _=>whnf
 rw[aq];unfold Ne.ef at h;cases e1:decide (0<kind)
 ·simp only[go_sem,reduceLT,reduceCtorEq,reduceEqDiff,Nat.reduceBEq,reduceAdd,reduceLeDiff,af aE,ag aE,ab aF bQ,hlt,hget,Int.natCast_nonneg,hw,e1,hop,hpos,hl0,hwl,hin,ar];exact⟨_,_,rfl⟩
 ·rw[e1,Bool.true_and] at h;rw[h] at hld;simp only[go_sem,reduceLT,reduceCtorEq,reduceEqDiff,Nat.reduceBEq,reduceAdd,reduceLeDiff,af aE,ag aE,ab aF bQ,hlt,hget,Int.natCast_nonneg,hw,e1,hld,hop,hpos,hl0,hwl,hin,ar];exact⟨_,_,rfl⟩
def ULoop2 (l:List Tok) (kind:Int) (left:Nat) (i:Nat) (acc:List Val) (o:Out) (S:St):Prop :=
 match Ne.d7 kind left (l.drop i) with
 | some (vs,rest)=>∃ j:Nat,l.drop j=rest∧j≤l.length∧i≤j∧(Ret2 (encL (acc++vs)) (j:Int) false o S ∨
   (o=.exit 0∧S.nt=76∧S.sl 8=.c (.loc 8 0)∧S.sl 9=.c (.loc 9 0)∧S.bx 8=some [.own 0 [],.pv (.int .i64 0),.pv (.bool false)]∧∃ e,S.bx 9=some [.own e (encL (acc++vs)),.pv (.int .i64 j),.pv (.bool false)]))
 | none=>∃ a b,Ret2 a b true o S
def UDen2 (l:List Tok) (kind:Int) (left:Nat) (i:Nat):Prop :=
 match Ne.d7 kind left (l.drop i) with
 | some (vs,rest)=>∃ j:Nat,l.drop j=rest∧j≤l.length∧i≤j∧den K 64 [L (l.map Tok.enc),I (i:Int),I kind,I left] []=some (.ret (.agg [.pv (.sl (encL vs)),.pv (.int .i64 j),.pv (.bool false)]) [])
 | none=>∃ a b,den K 64 [L (l.map Tok.enc),I (i:Int),I kind,I left] []=some (.ret (.agg [.pv (.sl a),.pv (.int .i64 b),.pv (.bool true)]) [])
theorem F5 {l:List Tok} {kind:Int} {left i:Nat}
  (h:Ends (exL K 64 ulp2 (u2H l kind left i 0 [])) (ULoop2 l kind left i [])):UDen2 l kind left i:=by
 have hr:Tryz.f64.results=#[.cell 8 102]:=rfl
 unfold ulp2 at h
 conv at h in ap _ _=>whnf
 obtain⟨o,S',w,hq⟩:=h;unfold ULoop2 at hq;unfold UDen2;cases hu:Ne.d7 kind left (l.drop i) with
 | some x =>
  obtain⟨vs,rest⟩:=x;rw[hu] at hq;obtain⟨j,q1,q2,q3,hq⟩:=hq;refine⟨j,q1,q2,q3,?_⟩
  rw[List.nil_append] at hq;refine ah rfl rfl Tryz.func64 rfl Tryz.ntmps64 ⟨by simp,by simp[LK]⟩ ?_
  simp only[go_sem,reduceLT,reduceEqDiff,Nat.reduceBEq,reduceAdd,reduceSub,reduceLeDiff,ab gN ma];rw[au];simp only[go_sem,reduceCtorEq,reduceEqDiff,Nat.reduceBEq,reduceSub,reduceLeDiff];erw [w];rcases hq with⟨rfl,h1,h2⟩|⟨rfl,hn,h8,h9,b8,e,b9⟩
  ·simp only[go_sem,reduceAdd,hr,h1,h2]
  ·simp only[go_sem,reduceLT,reduceEqDiff,Nat.reduceBEq,reduceAdd,hr,hn,h8,h9,b8,b9]
 | none =>
  rw[hu] at hq;obtain⟨a,b,rfl,h1,h2⟩:=hq;refine⟨a,b,?_⟩
  refine ah rfl rfl Tryz.func64 rfl Tryz.ntmps64 ⟨by simp,by simp[LK]⟩ ?_
  simp only[go_sem,reduceLT,reduceEqDiff,Nat.reduceBEq,reduceAdd,reduceSub,reduceLeDiff,ab gN ma];rw[au];simp only[go_sem,reduceCtorEq,reduceEqDiff,Nat.reduceBEq,reduceSub,reduceLeDiff];erw [w];simp only[go_sem,reduceAdd,hr,h1,h2]
attribute [local go_sem] Ax fy jj ib rV rI zk Aa
def TS.live':TS→TS
 | .nils=>.live
 | x=>x
theorem TS.live_toks (x:TS):x.live'.toks=x.toks:=by cases x<;>rfl
abbrev numH (s:List UInt8) (et:Nat) (ct:List (List PV)) (from_ e:Nat) (d:List UInt8) (n:Int) (i:Nat):St :=
  { sl:=upd (upd (upd (upd (upd bot 29 (.c (.iter d i))) 4 (I n)) 3 (I e)) 2 (I from_)) 0 P0,bx:=upd nobox 100000 (some [.pv (.str s),.own et ct]),nt:=72 }
theorem C3 (v:Int):(if (999999999:Int)<v then(999999999:Int) else v)=min v 999999999:=by
 split<;>omega
theorem HE (s:List UInt8) (et:Nat) (ct:List (List PV)) (from_ e:Nat) (d:List UInt8) (hd:∀ b∈d,Tk.digit b=true):∀ (rest:List UInt8) (i:Nat) (n:Int),d.drop i=rest→i≤d.length→0≤n→n≤999999999 →
  Ends (exL K 186 (.loop (ap Tryz.f186 6)) (numH s et ct from_ e d n i)) fun o S=>o=.exit 0∧S.sl 0=P0∧S.sl 2=I from_∧S.sl 3=I e∧S.sl 4=I (Tk.num n rest)∧S.nt=72∧S.bx=upd nobox 100000 (some [.pv (.str s),.own et ct]):=by
 intro rest
 induction rest with
 | nil =>
  intro i n hr hi h0 h1;have hin:i=d.length:=by
   have:=List.drop_eq_nil_iff.1 hr
   omega
  subst hin;have hlt:(d.length<d.length)=False:=by simp
  conv in ap _ _=>whnf
  rw[aq];simp only[go_sem,reduceLT,reduceCtorEq,reduceEqDiff,Nat.reduceBEq,reduceAdd,ar,hlt,Tk.num]
 | cons c rest ih =>
  intro i n hr hi h0 h1;obtain⟨g1,g2,g3⟩:=bE hr;have hc:Tk.digit c=true:=hd c (List.mem_of_getElem? g1)
  have hcn:48≤c.toNat∧c.toNat≤57:=by simpa[Tk.digit] using hc
  obtain⟨r,wd,hdec,hw1,hw2,hr2,hcase⟩:=uJ d i g3;have hrc:r=c.toNat∧wd=1:=by
   rcases hcase with⟨_,hw,b,hb,hbr⟩|⟨_,hall⟩
   ·rw[g1] at hb;cases hb;exact⟨hbr.symm,hw⟩
   ·have:=hall i c (Nat.le_refl _) (by omega) g1;omega
  obtain⟨rfl,rfl⟩:=hrc;have hit:ji d i=i+1:=by unfold ji;rw[hdec]
  have hlt:(i<d.length)=True:=eq_true g3
  have w1:IntKind.i64.wrap (10*n)=10*n:=IntWalk.i64_in _ (by omega)
  have w2:IntKind.i32.wrap ((c.toNat:Int) - 48)=(c.toNat:Int) - 48:=IntWalk.i32_in _ (by omega)
  have w3:IntKind.i64.wrap ((c.toNat:Int) - 48)=(c.toNat:Int) - 48:=IntWalk.i64_in _ (by omega)
  have w4:IntKind.i64.wrap (10*n+((c.toNat:Int) - 48))=10*n+((c.toNat:Int) - 48):=IntWalk.i64_in _ (by omega)
  have hv:Tk.num n (c::rest)=Tk.num (min (10*n+((c.toNat:Int) - 48)) 999999999) rest:=by rw[Tk.num,if_pos hc]
  rw[hv];have ih':=ih (i+1) (min (10*n+((c.toNat:Int) - 48)) 999999999) g2 (by omega) (by omega) (by omega)
  conv at ih' in ap _ _=>whnf
  conv in ap _ _=>whnf
  rw[aq];simp only[go_sem,reduceLT,reduceCtorEq,reduceEqDiff,Nat.reduceBEq,reduceAdd,dG wx cQ,hlt,hdec,hit,w1,w2,w3,w4,sq,kC,List.foldl_cons,List.foldl_nil,C3];rw[au];simp only[go_sem,reduceCtorEq,reduceEqDiff];exact ih'
theorem td (s:List UInt8) (x:TS) (neg:Bool) (from_:Nat) (l:List UInt8) (hf:from_=if neg then 1 else 0) (hl:s.drop from_=l) (hle:from_≤s.length) (h45:(Tk.at0 s==45)=neg) (hs:s.length<4000000000) (hx:x.toks.length<4000000000) :
  den K 186 [P0] [scan s x]=some (.ret (.tup []) [scan (s.drop (from_+(Tk.number neg l).2)) (.wr (x.toks++[(Tk.number neg l).1]))]):=by
 have d0:=oa s 0 (by omega)
 rw[List.drop_zero] at d0
 have e45:(((Tk.at0 s).toNat:Int)==45)=neg:=by rw[←h45];exact eY _ 45
 have hrun:=rz s (by omega) Tk.digit 185 tF rfl nh from_ hle
 rw[hl] at hrun;have hrl:=Tk.run_le (p:=Tk.digit) l
 have hll:l.length=s.length - from_:=by rw[←hl,List.length_drop]
 have hnum:=Tk.nl (l:=l) (n:=0) (by omega) (by omega)
 have hdig:=Tk.oo (p:=Tk.digit) l
 generalize hk:Tk.run Tk.digit l=k at hrun hrl hdig;have hle2:from_+k≤s.length:=by omega
 have hde:s.drop (from_+k)=l.drop k:=by rw[←List.drop_drop,hl]
 have dn:=rX s (by omega) (from_+k) hle2
 have da:=oa s (from_+k) (by omega)
 rw[hde] at dn da
 have hul:=Tk.QZe (l.drop k)
 rw[List.length_drop] at hul;have e37:(((Tk.at0 (l.drop k)).toNat:Int)==37)=(Tk.at0 (l.drop k)==37):=eY _ 37
 have hnn:Tk.num 0 (l.take k)=Tk.num 0 l:=by
  have:l=l.take k++l.drop k:=(List.take_append_drop k l).symm
  conv=>rhs;rw[this]
  rw[Tk.Cy hdig];exact(Tk.FS (n:=Tk.num 0 (l.take k)) (by rw[←hk];exact Tk.zu Tk.sY l)).symm
 have hin:=fun et ct=>HE s et ct from_ (from_+k) (l.take k) hdig (l.take k) 0 0 rfl (Nat.zero_le _) (by omega) (by omega)
 rw[hnn] at hin
 conv at hin in ap _ _=>whnf
 have hsub:(s.take (from_+k)).drop from_=l.take k:=by rw[List.drop_take,hl];congr 1;omega
 unfold Tk.number;simp only[hk];rw[←Nat.add_assoc];generalize hu:Tk.unit (l.drop k)=u at hul;have hput:=fun v=>Cn s x.live' (from_+k+u) 5 ((l.drop k).take u) v (by omega) (by rw[TS.live_toks];exact hx)
 rw[TS.live_toks] at hput;have hsub2:(s.take (from_+k+u)).drop (from_+k)=(l.drop k).take u:=by rw[List.drop_take,hde];congr 1;omega
 have b1:((0:Int)≤((from_+k:Nat):Int)∧((from_+k:Nat):Int)≤(s.length:Int))=True:=eq_true (by omega)
 have b2:((0:Int)≤(from_:Int)∧(from_:Int)≤((from_+k:Nat):Int))=True:=eq_true (by omega)
 have b3:((0:Int)≤((from_+k+u:Nat):Int)∧((from_+k+u:Nat):Int)≤(s.length:Int))=True:=eq_true (by omega)
 have b4:((0:Int)≤((from_+k:Nat):Int)∧((from_+k:Nat):Int)≤((from_+k+u:Nat):Int))=True:=eq_true (by omega)
 have w1:IntKind.i64.wrap ((from_:Int)+(k:Int))=((from_+k:Nat):Int):=by rw[IntWalk.i64_in _ (by omega)];rfl
 have w2:IntKind.i64.wrap (((from_+k:Nat):Int)+(u:Int))=((from_+k+u:Nat):Int):=by rw[IntWalk.i64_in _ (by omega)];rfl
 have w3:IntKind.i64.wrap (0 - Tk.num 0 l) = -Tk.num 0 l:=by rw[IntWalk.i64_in _ (by omega)];omega
 have t0:Int.toNat 0=0:=rfl
 have t1:Int.toNat 1=1:=rfl
 have z01:((0:Int)=1)=False:=by simp
 have z0:((0:Nat):Int)=0:=rfl
 have z1:((1:Nat):Int)=1:=rfl
 have hu37:(Tk.at0 (l.drop k)==37)=false→Tk.name (l.drop k)=u:=fun h=>by
  rw[←hu,Tk.unit,if_neg (by simpa using h)]
 have hu1:(Tk.at0 (l.drop k)==37)=true→u=1:=fun h=>by
  rw[←hu,Tk.unit,if_pos (by simpa using h)]
 refine ah rfl rfl Tryz.func186 rfl Tryz.ntmps186 ⟨by simp,by simp[LK]⟩ ?_
 have hr:Tryz.f186.results=#[]:=rfl
 cases neg
 all_goals (
  simp only[Bool.false_eq_true,if_true,if_false] at hf;subst hf;simp only[z0,z1,Nat.zero_add] at d0 hrun w1 b1 b2 b3 b4 w2 hin hsub hsub2 hput dn da hu37 hu1 e45
  first|(rw[List.drop_zero] at hl;subst hl)|skip
  cases x)
 ·obtain⟨o,S',e,rfl,f0,f2,f3,f4,fn,fb⟩:=hin 0 [];simp only[TS.cell,TS.live',TS.toks,scan,List.map_cons,List.map_nil,Tok.enc,List.nil_append] at hput ⊢;simp only[go_sem,reduceLT,reduceCtorEq,reduceEqDiff,Nat.reduceBEq,reduceAdd,ax aD,kf aD,d0,e45,hrun,w1,b1,b2,Int.toNat_natCast,hsub,t0];rw[au];simp only[go_sem,reduceCtorEq,reduceEqDiff];erw [e];cases h37:(Tk.at0 (s.drop k)==37)
  ·rw[h37] at e37
   rw[hu37 h37] at dn
   simp only[go_sem,reduceLT,reduceCtorEq,reduceEqDiff,Nat.reduceBEq,reduceAdd,ax aD,hr,z01,f0,f2,f3,f4,fn,fb,dn,da,e37,w2,w3,b3,b4,Int.toNat_natCast,hsub2,hput]
  ·rw[h37] at e37
   rw[hu1 h37] at w2 b3 b4 hput hsub2 ⊢
   simp only[z1] at w2
   simp only[go_sem,reduceLT,reduceCtorEq,reduceEqDiff,Nat.reduceBEq,reduceAdd,ax aD,hr,z01,f0,f2,f3,f4,fn,fb,dn,da,e37,w2,w3,b3,b4,Int.toNat_natCast,hsub2,hput]

 ·obtain⟨o,S',e,rfl,f0,f2,f3,f4,fn,fb⟩:=hin 0 [];simp only[TS.cell,TS.live',TS.toks,scan,List.map_cons,List.map_nil,Tok.enc,List.nil_append] at hput ⊢;simp only[go_sem,reduceLT,reduceCtorEq,reduceEqDiff,Nat.reduceBEq,reduceAdd,ax aD,kf aD,d0,e45,hrun,w1,b1,b2,Int.toNat_natCast,hsub,t0];rw[au];simp only[go_sem,reduceCtorEq,reduceEqDiff];erw [e];cases h37:(Tk.at0 (s.drop k)==37)
  ·rw[h37] at e37
   rw[hu37 h37] at dn
   simp only[go_sem,reduceLT,reduceCtorEq,reduceEqDiff,Nat.reduceBEq,reduceAdd,ax aD,hr,z01,f0,f2,f3,f4,fn,fb,dn,da,e37,w2,w3,b3,b4,Int.toNat_natCast,hsub2,hput]
  ·rw[h37] at e37
   rw[hu1 h37] at w2 b3 b4 hput hsub2 ⊢
   simp only[z1] at w2
   simp only[go_sem,reduceLT,reduceCtorEq,reduceEqDiff,Nat.reduceBEq,reduceAdd,ax aD,hr,z01,f0,f2,f3,f4,fn,fb,dn,da,e37,w2,w3,b3,b4,Int.toNat_natCast,hsub2,hput]

 ·rename_i lt;obtain⟨o,S',e,rfl,f0,f2,f3,f4,fn,fb⟩:=hin 91 (lt.map Tok.enc);simp only[TS.cell,TS.live',TS.toks,scan,List.map_append,List.map_cons,List.map_nil,Tok.enc] at hput ⊢;simp only[go_sem,reduceLT,reduceCtorEq,reduceEqDiff,Nat.reduceBEq,reduceAdd,ax aD,kf aD,d0,e45,hrun,w1,b1,b2,Int.toNat_natCast,hsub,t0];rw[au];simp only[go_sem,reduceCtorEq,reduceEqDiff];erw [e];cases h37:(Tk.at0 (s.drop k)==37)
  ·rw[h37] at e37
   rw[hu37 h37] at dn
   simp only[go_sem,reduceLT,reduceCtorEq,reduceEqDiff,Nat.reduceBEq,reduceAdd,ax aD,hr,z01,f0,f2,f3,f4,fn,fb,dn,da,e37,w2,w3,b3,b4,Int.toNat_natCast,hsub2,hput]
  ·rw[h37] at e37
   rw[hu1 h37] at w2 b3 b4 hput hsub2 ⊢
   simp only[z1] at w2
   simp only[go_sem,reduceLT,reduceCtorEq,reduceEqDiff,Nat.reduceBEq,reduceAdd,ax aD,hr,z01,f0,f2,f3,f4,fn,fb,dn,da,e37,w2,w3,b3,b4,Int.toNat_natCast,hsub2,hput]

 ·obtain⟨o,S',e,rfl,f0,f2,f3,f4,fn,fb⟩:=hin 0 [];simp only[TS.cell,TS.live',TS.toks,scan,List.map_cons,List.map_nil,Tok.enc,List.nil_append] at hput ⊢;simp only[go_sem,reduceLT,reduceCtorEq,reduceEqDiff,Nat.reduceBEq,reduceAdd,ax aD,kf aD,d0,e45,hrun,w1,b1,b2,Int.toNat_natCast,hsub,t1];rw[au];simp only[go_sem,reduceCtorEq,reduceEqDiff];erw [e];cases h37:(Tk.at0 (l.drop k)==37)
  ·rw[h37] at e37
   rw[hu37 h37] at dn
   simp only[go_sem,reduceLT,reduceCtorEq,reduceEqDiff,Nat.reduceBEq,reduceAdd,ax aD,hr,f0,f2,f3,f4,fn,fb,dn,da,e37,w2,w3,b3,b4,Int.toNat_natCast,hsub2,hput]
  ·rw[h37] at e37
   rw[hu1 h37] at w2 b3 b4 hput hsub2 ⊢
   simp only[z1] at w2
   simp only[go_sem,reduceLT,reduceCtorEq,reduceEqDiff,Nat.reduceBEq,reduceAdd,ax aD,hr,f0,f2,f3,f4,fn,fb,dn,da,e37,w2,w3,b3,b4,Int.toNat_natCast,hsub2,hput]

 ·obtain⟨o,S',e,rfl,f0,f2,f3,f4,fn,fb⟩:=hin 0 [];simp only[TS.cell,TS.live',TS.toks,scan,List.map_cons,List.map_nil,Tok.enc,List.nil_append] at hput ⊢;simp only[go_sem,reduceLT,reduceCtorEq,reduceEqDiff,Nat.reduceBEq,reduceAdd,ax aD,kf aD,d0,e45,hrun,w1,b1,b2,Int.toNat_natCast,hsub,t1];rw[au];simp only[go_sem,reduceCtorEq,reduceEqDiff];erw [e];cases h37:(Tk.at0 (l.drop k)==37)
  ·rw[h37] at e37
   rw[hu37 h37] at dn
   simp only[go_sem,reduceLT,reduceCtorEq,reduceEqDiff,Nat.reduceBEq,reduceAdd,ax aD,hr,f0,f2,f3,f4,fn,fb,dn,da,e37,w2,w3,b3,b4,Int.toNat_natCast,hsub2,hput]
  ·rw[h37] at e37
   rw[hu1 h37] at w2 b3 b4 hput hsub2 ⊢
   simp only[z1] at w2
   simp only[go_sem,reduceLT,reduceCtorEq,reduceEqDiff,Nat.reduceBEq,reduceAdd,ax aD,hr,f0,f2,f3,f4,fn,fb,dn,da,e37,w2,w3,b3,b4,Int.toNat_natCast,hsub2,hput]

 ·rename_i lt;obtain⟨o,S',e,rfl,f0,f2,f3,f4,fn,fb⟩:=hin 91 (lt.map Tok.enc);simp only[TS.cell,TS.live',TS.toks,scan,List.map_append,List.map_cons,List.map_nil,Tok.enc] at hput ⊢;simp only[go_sem,reduceLT,reduceCtorEq,reduceEqDiff,Nat.reduceBEq,reduceAdd,ax aD,kf aD,d0,e45,hrun,w1,b1,b2,Int.toNat_natCast,hsub,t1];rw[au];simp only[go_sem,reduceCtorEq,reduceEqDiff];erw [e];cases h37:(Tk.at0 (l.drop k)==37)
  ·rw[h37] at e37
   rw[hu37 h37] at dn
   simp only[go_sem,reduceLT,reduceCtorEq,reduceEqDiff,Nat.reduceBEq,reduceAdd,ax aD,hr,f0,f2,f3,f4,fn,fb,dn,da,e37,w2,w3,b3,b4,Int.toNat_natCast,hsub2,hput]
  ·rw[h37] at e37
   rw[hu1 h37] at w2 b3 b4 hput hsub2 ⊢
   simp only[z1] at w2
   simp only[go_sem,reduceLT,reduceCtorEq,reduceEqDiff,Nat.reduceBEq,reduceAdd,ax aD,hr,f0,f2,f3,f4,fn,fb,dn,da,e37,w2,w3,b3,b4,Int.toNat_natCast,hsub2,hput]
attribute [local go_sem] Eu eK J7
def HN (l:List Val):Prop:=∀ deep left:Int,0≤left→left≤1000000→0≤deep→deep≤1000→den K 42 [L (encL l),I left,I deep] []=some (.ret (I (Ne.few deep left l)) [])
abbrev fewH (l:List Val) (left deep:Int) (i:Nat):St := { sl:=upd (upd (upd (upd bot 7 (I i)) 2 (I deep)) 1 (I left)) 0 (L (encL l)),bx:=nobox,nt:=51 }
theorem oC (l:List Val) (hin:∀ k t l',Val.mk k t l'∈l→HN l') (deep:Int) (hd1:1≤deep) (hd2:deep≤1000):∀ (rest:List Val) (i:Nat) (left:Int),l.drop i=rest→i≤l.length → -1≤left→i+left≤1000000 →
  Ends (exL K 42 (.loop (ap Tryz.f42 4)) (fewH l left deep i)) fun o S=>(o=.exit 0∧S.nt=51∧S.sl 1=I (Ne.fewL deep left rest))∨(o=.ret∧S.sl 6=I (Ne.fewL deep left rest))
 | [],i,left,hd,hi,h1,h2=>by
  have hin:i=l.length:=by
   have:=List.drop_eq_nil_iff.1 hd
   omega
  subst hin
  conv in ap _ _=>whnf
  rw[aq];simp only[go_sem,reduceLT,reduceCtorEq,reduceEqDiff,Nat.reduceBEq,reduceAdd,af ak,ar,az,Ne.fewL]
 | .mk k t l'::rest,i,left,hd,hi,h1,h2=>by
  obtain⟨g1,g2,g3⟩:=bE hd;have hmem:Val.mk k t l'∈l:=List.mem_of_getElem? g1
  have hf:=hin k t l' hmem
  have hlt:decide ((i:Int)<(l.length:Int))=true:=decide_eq_true (by omega)
  have hget:=fJ l i k t l' g1
  rw[pS]
  conv in ap _ _=>whnf
  rw[aq];by_cases hneg:left<0
  ·have e1:decide (0≤left)=false:=decide_eq_false (by omega)
   rw[if_pos hneg];simp only[go_sem,reduceLT,reduceCtorEq,reduceEqDiff,Nat.reduceBEq,reduceAdd,af ak,ar,az,hlt,e1]
  ·have e1:decide (0≤left)=true:=decide_eq_true (by omega)
   rw[if_neg hneg];have hw:IntKind.i64.wrap (left - 1)=left - 1:=IntWalk.i64_in _ (by omega)
   have hwi:IntKind.i64.wrap ((i:Int)+1)=((i+1:Nat):Int):=bf i (by omega)
   by_cases ht:100<t.text.length
   ·have e2:decide ((100:Int)<(t.text.length:Int))=true:=decide_eq_true (by omega)
    rw[if_pos ht];simp only[go_sem,reduceLT,reduceCtorEq,reduceEqDiff,Nat.reduceBEq,reduceAdd,af ak,ag ak,aA al,ar,az,hlt,hget,Int.natCast_nonneg,e1,e2,hw]
   ·have e2:decide ((100:Int)<(t.text.length:Int))=false:=decide_eq_false (by omega)
    rw[if_neg ht];by_cases h0:0≤left - 1
    ·have e3:decide (0≤left - 1)=true:=decide_eq_true h0
     cases he:l'.isEmpty
     ·rw[if_pos ⟨h0,rfl⟩];have e4:decide ((0:Int)<(l'.length:Int))=true:=decide_eq_true (by cases l' with|nil=>cases he|cons x y=>simp only[List.length_cons];omega)
      have hwd:IntKind.i64.wrap (deep - 1)=deep - 1:=IntWalk.i64_in _ (by omega)
      have hfd:=hf (deep - 1) (left - 1) h0 (by omega) (by omega) (by omega)
      have hb:=(Ek l' (deep - 1) (left - 1) (by omega)).2.2 h0
      have ih:=oC l hin deep hd1 hd2 rest (i+1) (Ne.few (deep - 1) (left - 1) l') g2 (by omega) hb.1 (by omega)
      conv at ih in ap _ _=>whnf
      simp only[go_sem,reduceLT,reduceCtorEq,reduceEqDiff,Nat.reduceBEq,reduceAdd,af ak,ag ak,aA al,az,hlt,hget,Int.natCast_nonneg,e1,e2,e3,e4,hw,hwd,hwi,hfd];rw[au];simp only[go_sem,reduceCtorEq,reduceEqDiff];exact ih
     ·rw[if_neg (fun h=>by cases h.2)]
      have e4:decide ((0:Int)<(l'.length:Int))=false:=decide_eq_false (by cases l' with|nil=>simp|cons x y=>cases he)
      have ih:=oC l hin deep hd1 hd2 rest (i+1) (left - 1) g2 (by omega) (by omega) (by omega)
      conv at ih in ap _ _=>whnf
      simp only[go_sem,reduceLT,reduceCtorEq,reduceEqDiff,Nat.reduceBEq,reduceAdd,af ak,ag ak,aA al,az,hlt,hget,Int.natCast_nonneg,e1,e2,e3,e4,hw,hwi];rw[au];simp only[go_sem,reduceCtorEq,reduceEqDiff];exact ih
    ·have e3:decide (0≤left - 1)=false:=decide_eq_false h0
     rw[if_neg (fun h=>h0 h.1)]
     have ih:=oC l hin deep hd1 hd2 rest (i+1) (left - 1) g2 (by omega) (by omega) (by omega)
     conv at ih in ap _ _=>whnf
     simp only[go_sem,reduceLT,reduceCtorEq,reduceEqDiff,Nat.reduceBEq,reduceAdd,af ak,ag ak,aA al,az,hlt,hget,Int.natCast_nonneg,e1,e2,e3,hw,hwi];rw[au];simp only[go_sem,reduceCtorEq,reduceEqDiff];exact ih
theorem Hb (l:List Val):HN l:=by
 refine sM (fun l hin => ?_) l
 intro deep left h1 h2 h3 h4;refine ah rfl rfl Tryz.func42 rfl Tryz.ntmps42 ⟨by simp,by simp[LK]⟩ ?_
 have hr:Tryz.f42.results=#[.tmp 6]:=rfl
 unfold Ne.few;by_cases hd:deep<1
 ·have e0:decide (deep<1)=true:=decide_eq_true hd
  rw[if_pos hd];simp only[go_sem,reduceLT,reduceEqDiff,Nat.reduceBEq,reduceAdd,hr,e0]
 ·have e0:decide (deep<1)=false:=decide_eq_false hd
  rw[if_neg hd];have h:=oC l hin deep (by omega) h4 l 0 left rfl (Nat.zero_le _) (by omega) (by omega)
  conv at h in ap _ _=>whnf
  obtain⟨o,S',w,hq⟩:=h;simp only[go_sem,reduceLT,reduceEqDiff,Nat.reduceBEq,reduceAdd,e0];rw[au];simp only[go_sem,reduceCtorEq,reduceEqDiff];erw [w];rcases hq with⟨rfl,hn,hv⟩|⟨rfl,hv⟩
  ·simp only[go_sem,reduceLT,reduceEqDiff,Nat.reduceBEq,reduceAdd,hr,hn,hv]
  ·simp only[go_sem,hr,hv]
theorem A8 (l:List Val) (m:Int) (h1:0≤m) (h2:m≤1000000):den K 14 [L (encL l),I m] []=some (.ret (B (decide (0≤Ne.few 100 m l))) []):=by
 have h:=Hb l 100 m h1 h2 (by omega) (by omega)
 refine ah rfl rfl Tryz.func14 rfl Tryz.ntmps14 ⟨by simp,by simp[LK]⟩ ?_
 have hr:Tryz.f14.results=#[.tmp 4]:=rfl
 simp only[go_sem,reduceLT,reduceCtorEq,reduceEqDiff,Nat.reduceBEq,reduceAdd,hr,h]
end Go.Abs
