/-
  WHAT THE FUNCTIONS COMPUTE, layer 4, the program's reader of selectors: sels.whole, the numbers of an nth, whole; an attribute.
  WHAT THE FUNCTIONS COMPUTE, layer 2: the document's reader of values.
  WHAT THE DOCUMENT'S ANSWER COMPUTES, layer 1: classes of bytes, names, comments, strings.
  WHAT THE DOCUMENT'S ANSWER COMPUTES, layer 1: strings, numbers.
  WHAT THE DOCUMENT'S ANSWER COMPUTES, layer 1: digits, a token's text.
-/
import Derived.Test.YtlomcifkckgneaaGreatDoorRh6
import Derived.Test.YtlomcifkckgneaaGreatDoorRh7
set_option linter.unusedSimpArgs false
set_option linter.unusedVariables false
namespace Go.Abs
open Go Go.Proofs
set_option maxRecDepth 10000
attribute [local go_sem] cS bA ck bM bL cT cq co aI a6 aX bt bV bf opd avOf cvOf St.degAt St.put okPV dD okAV cX cZ cY cx al if_true Bool.false_eq_true if_false Option.map_some Option.map_none Option.bind_some Option.bind_none dE dp upd List.toList_toArray bu steal aN mvB dt cA bW AV.deg CV.deg AV.gv AV.isIter cj ct bJ List.length_nil List.length_cons List.filterMap_cons List.filterMap_nil beq_iff_eq List.getElem?_cons_zero List.getElem?_cons_succ Option.getD_some eL fe Bool.false_and Bool.and_false Bool.and_self K_P fZ bv bS aR lend back idx dedup AV.ren CV.ren TV.ren AV.ptrs CV.ptrs b6 AV.flat CV.flat bI bz aJ bU cF dU bD aF bR aY bh bw aZ eD CV.pv? content aV ownT aM reps pvs chunks a7 leave ek b5 cU bd aQ TV.deg TV.av LK CV.plain CV.noBld ci ei bound List.map_cons List.map_nil List.all_cons List.all_nil List.any_cons List.any_nil List.contains_cons List.contains_nil List.elem_cons List.elem_nil List.cons_append List.nil_append List.append_nil List.flatMap_cons List.flatMap_nil List.zip_cons_cons List.zip_nil_left List.zip_nil_right List.take_succ_cons List.take_zero List.take_nil List.drop_succ_cons List.drop_zero List.drop_nil List.isEmpty_nil List.isEmpty_cons Bool.and_true Bool.true_and Bool.or_true Bool.true_or Bool.or_false Bool.false_or Bool.not_true Bool.not_false Nat.add_zero Nat.zero_add Option.isNone_none Option.isNone_some Option.getD_none true_and and_true not_true_eq_false not_false_eq_true decide_true decide_false Nat.le_refl and_self Bool.not_eq_true Nat.sub_self or_true true_or Option.some.injEq List.length_map List.nil_eq and_false false_and AV.live CV.live CV.liveIn ev aH Option.orElse_some Option.orElse_none head aU aP Int.lt_irrefl List.length_append ite_self dx bo bX a8 Key.clash Key.sees Key.writes Nat.lt_irrefl gt_iff_lt cm dG false_or or_false beq_self_eq_true Bool.true_beq Bool.false_beq zg cd bl zR pB nf yT
abbrev P1:AV := .c (.loc 100001 0)
abbrev P2:AV := .c (.loc 100002 0)
theorem su (m:List Val):(encL m).isEmpty=m.isEmpty:=by cases m<;>rfl
theorem sa {g:Nat} (hg:goods.contains g=true) {l:List Val} (hl:l.length≤100000000) {a a' b b':List CV} (ha : ∀ f,a.map (CV.ren f)=a) (ha' : ∀ f,a'.map (CV.ren f)=a') (hb : ∀ f,b.map (CV.ren f)=b) (hb' : ∀ f,b'.map (CV.ren f)=b') {v:AV} {m:List Val}
  (h:den K g [P0,P1,P2] [rdB (Sl.trim l),a,b]=some (.ret v [rdB m,a',b'])) :
  den K 37 [L (encL l),.c (.fn g [(100000,0),(100001,0)])] [a,b]=some (.ret (I (if m.isEmpty then 0 else 40)) [a',b']):=by
 have hT:=nU l hl
 rw[rC (K:=K) (F:=fm goods.contains) rfl rfl]
 have e1:lend (bO [a,b]) 0=some 100000:=rfl
 have e2:lend (bO [a,b]) 100000=some 100001:=rfl
 have e3:lend (bO [a,b]) 100001=some 100002:=rfl
 unfold fm
 simp only[Plan.run,hT,hg,if_true,List.map_cons,List.map_nil,AV.deg,CV.deg,AV.ren,CV.ren,e1,e2,e3,ha,hb,h,CV.pv?,gK,ha',hb',su]
theorem m7 {g:Nat} (hg:goods.contains g=true) {l:List Val} (hl:l.length≤100000000) {a a' b b':List CV} (ha : ∀ f,a.map (CV.ren f)=a) (ha' : ∀ f,a'.map (CV.ren f)=a') (hb : ∀ f,b.map (CV.ren f)=b) (hb' : ∀ f,b'.map (CV.ren f)=b') {m:List Val}
  (h:den K g [P0,P1,P2] [rdB (Sl.trim l),a,b]=some (.pan jy [rdB m,a',b'])) :
  den K 37 [L (encL l),.c (.fn g [(100000,0),(100001,0)])] [a,b]=some (.ret (I 40) [a',b']):=by
 have hT:=nU l hl
 rw[rC (K:=K) (F:=fm goods.contains) rfl rfl]
 have e1:lend (bO [a,b]) 0=some 100000:=rfl
 have e2:lend (bO [a,b]) 100000=some 100001:=rfl
 have e3:lend (bO [a,b]) 100001=some 100002:=rfl
 unfold fm
 simp only[Plan.run,hT,hg,if_true,List.map_cons,List.map_nil,AV.deg,CV.deg,AV.ren,CV.ren,e1,e2,e3,ha,hb,h,gK,ha',hb']
abbrev iB (n:Int):List CV:=[.pv (.int .i64 n)]
theorem yY (n:Int):(decide (-9999≤n)&&decide (n≤9999))=decide (Sl.few n):=by
 rw[Bool.eq_iff_iff,Bool.and_eq_true,decide_eq_true_eq,decide_eq_true_eq,decide_eq_true_eq];rfl
set_option maxHeartbeats 4000000 in
theorem yi (l:List Val) (hl:l.length≤70000000) (ht:TSh l):match Sl.nthP l with
  | some (x,m)=>if Sl.few x.1∧Sl.few x.2 then den K 38 [P0,P1,P2] [rdB l,iB 0,iB 0]=some (.ret (.tup []) [rdB m,iB x.1,iB x.2])
   else den K 38 [P0,P1,P2] [rdB l,iB 0,iB 0]=some (.pan jy [rdB m,iB x.1,iB x.2])
  | none => ∃ m,den K 38 [P0,P1,P2] [rdB l,iB 0,iB 0]=some (.pan jy [rdB m,iB 0,iB 0]):=by
 have hr:Tryz.f38.results = #[]:=rfl
 have h:=vE l hl ht
 have hmy:=iq
 have hmn:=iZ
 cases hn:Sl.nthP l with
 | none =>
  rw[hn] at h
  obtain ⟨m,h⟩:=m9 h
  refine ⟨m,?_⟩
  simp only[rdB,iB] at h ⊢
  refine ae rfl rfl Tryz.func38 rfl Tryz.ntmps38 ⟨by simp,by simp[LK]⟩ ?_
  simp only[go_sem,Nat.reduceLT,Nat.reduceEqDiff,Nat.reduceBEq,Nat.reduceAdd,Nat.reduceSub,Nat.reduceLeDiff,hr,h]
 | some y =>
  obtain ⟨⟨a,b⟩,m⟩:=y
  rw[hn] at h
  have h:=gY h
  have ha:=tB a
  have hb:=tB b
  rw[yY] at ha hb
  simp only
  by_cases fa:Sl.few a
  ·rw[decide_eq_true fa] at ha
   by_cases fb:Sl.few b
   ·rw[decide_eq_true fb] at hb
    rw[if_pos ⟨fa,fb⟩]
    simp only[rdB,iB,twoI] at h ⊢
    refine ae rfl rfl Tryz.func38 rfl Tryz.ntmps38 ⟨by simp,by simp[LK]⟩ ?_
    simp only[go_sem,Nat.reduceLT,Nat.reduceEqDiff,Nat.reduceBEq,Nat.reduceAdd,Nat.reduceSub,Nat.reduceLeDiff,hr,h,ha,hb,hmy]
   ·rw[decide_eq_false fb] at hb
    rw[if_neg fun h=>fb h.2]
    simp only[rdB,iB,twoI] at h ⊢
    refine ae rfl rfl Tryz.func38 rfl Tryz.ntmps38 ⟨by simp,by simp[LK]⟩ ?_
    simp only[go_sem,Nat.reduceLT,Nat.reduceEqDiff,Nat.reduceBEq,Nat.reduceAdd,Nat.reduceSub,Nat.reduceLeDiff,hr,h,ha,hb,hmn]
  ·rw[decide_eq_false fa] at ha
   rw[if_neg fun h=>fa h.1]
   simp only[rdB,iB,twoI] at h ⊢
   refine ae rfl rfl Tryz.func38 rfl Tryz.ntmps38 ⟨by simp,by simp[LK]⟩ ?_
   simp only[go_sem,Nat.reduceLT,Nat.reduceEqDiff,Nat.reduceBEq,Nat.reduceAdd,Nat.reduceSub,Nat.reduceLeDiff,hr,h,ha,hmn]
theorem fl (n:Int) (f:Nat→Option Nat):(iB n).map (CV.ren f)=iB n:=rfl
theorem AX (v:List Val):Sl.nthM v=match Sl.nthP (Sl.trim v) with
  | some (x,[])=>if Sl.few x.1∧Sl.few x.2 then some x else none
  | _=>none:=by
 unfold Sl.nthM
 rw[←Sl.vt v]
 unfold Sl.fm
 generalize Sl.nthP (Sl.trim v)=y
 match y with
 | none=>rfl
 | some (x,[])=>rfl
 | some (x,_::_)=>rfl
set_option maxHeartbeats 4000000 in
theorem xb (l:List Val) (hl:l.length≤70000000) (ht:TSh l):den K 13 [L (encL l)] []=some (.ret (nthA (Sl.nthM l)) []):=by
 have hr:Tryz.f13.results = #[.cell 2 3,.cell 3 3,.tmp 4]:=rfl
 have hc:=yi (Sl.trim l) (Nat.le_trans (Sl.qM l) hl) (s6 ht)
 have hg:goods.contains 38=true:=by kernel_rfl
 have key : ∀ (a b:Int) (e:Int),den K 37 [L (encL l),.c (.fn 38 [(100000,0),(100001,0)])] [iB 0,iB 0]=some (.ret (I e) [iB a,iB b])→(e=0∨e=40) →
   den K 13 [L (encL l)] []=some (.ret (nthA (if e=0 then some (a,b) else none)) []):=by
  intro a b e h he
  simp only[iB] at h
  rcases he with rfl|rfl
  ·rw[if_pos rfl]
   unfold nthA
   refine ae rfl rfl Tryz.func13 rfl Tryz.ntmps13 ⟨by simp,by simp[LK]⟩ ?_
   simp only[go_sem,Nat.reduceLT,reduceCtorEq,Nat.reduceEqDiff,Nat.reduceBEq,Nat.reduceAdd,Nat.reduceSub,Nat.reduceLeDiff,hr,h,jF,locs,tG,bne_self_eq_false]
   first|rw[vA]|rw[qO]
   rotate_left
   ·kernel_rfl
   simp only[go_sem,Nat.reduceEqDiff,Nat.reduceSub,Nat.reduceLeDiff]
  ·rw[if_neg (by decide)]
   unfold nthA
   refine ae rfl rfl Tryz.func13 rfl Tryz.ntmps13 ⟨by simp,by simp[LK]⟩ ?_
   simp only[go_sem,Nat.reduceLT,reduceCtorEq,Nat.reduceEqDiff,Nat.reduceBEq,Nat.reduceAdd,Nat.reduceSub,Nat.reduceLeDiff,hr,h,jF,locs,tG,Int.reduceBNe]
 rw[AX]
 cases hn:Sl.nthP (Sl.trim l) with
 | none =>
  rw[hn] at hc
  obtain ⟨m,hc⟩:=hc
  exact key 0 0 40 (m7 hg (by omega) (fl _) (fl _) (fl _) (fl _) hc) (.inr rfl)
 | some y =>
  obtain ⟨⟨a,b⟩,m⟩:=y
  rw[hn] at hc
  simp only at hc
  by_cases hf:Sl.few a∧Sl.few b
  ·rw[if_pos hf] at hc
   have hw:=sa hg (by omega) (fl _) (fl _) (fl _) (fl _) hc
   cases m with
   | nil =>
    have:=key a b 0 hw (.inl rfl)
    simp only
    rw[if_pos hf]
    exact this
   | cons v m=>exact key a b 40 hw (.inr rfl)
  ·rw[if_neg hf] at hc
   have hw:=m7 hg (by omega) (fl _) (fl _) (fl _) (fl _) hc
   have:=key a b 40 hw (.inr rfl)
   cases m with
   | nil =>
    simp only
    rw[if_neg hf]
    exact this
   | cons v m=>exact this
attribute [local go_sem] cP eN eP cO cL jS uz nA lm au az ab xj wa ah aE fW ou ga eO gQ bT d8 tr lF aW
abbrev zX (t:Tok):List CV:=[.pv (.int .i64 t.kind),.pv (.str t.text),.pv (.int .i64 t.n)]
theorem iH (t:Tok) (kind:Int):den K 113 [.agg (zX t),I kind] []=some (.ret (B (decide (t=Ne.dh kind))) []):=by
 have hv:decide (t=Ne.dh kind)=((t.kind==7)&&((t.text==[Ne.eH kind])&&((t.n==0)&&true))):=(pE t (Ne.dh kind)).symm
 rw[hv]
 refine ae rfl rfl Tryz.func113 rfl Tryz.ntmps113 ⟨by simp,by simp[LK]⟩ ?_
 have hr:Tryz.f113.results = #[.tmp 4]:=rfl
 cases b1:(t.kind==7)
 ·have e1:(t.kind != 7)=true:=by rw[bne,b1];rfl
  simp only[go_sem,Nat.reduceLT,Nat.reduceEqDiff,Nat.reduceBEq,Nat.reduceAdd,Nat.reduceSub,Nat.reduceLeDiff,hr,e1]
 ·have e1:(t.kind != 7)=false:=by rw[bne,b1];rfl
  cases b2:(t.n==0)
  ·have e2:(t.n != 0)=true:=by rw[bne,b2];rfl
   simp only[go_sem,Nat.reduceLT,Nat.reduceEqDiff,Nat.reduceBEq,Nat.reduceAdd,Nat.reduceSub,Nat.reduceLeDiff,hr,e1,e2]
  ·have e2:(t.n != 0)=false:=by rw[bne,b2];rfl
   by_cases h3:kind=3
   ·subst h3
    have c3:Ne.eH 3=93:=rfl
    simp only[go_sem,Nat.reduceLT,Nat.reduceEqDiff,Nat.reduceBEq,Nat.reduceAdd,Nat.reduceSub,Nat.reduceLeDiff,hr,e1,e2,c3]
   ·have e3:(kind==3)=false:=by rw[beq_eq_false_iff_ne];exact h3
    by_cases h4:kind=4
    ·subst h4
     have c4:Ne.eH 4=125:=rfl
     have e43:((4:Int)==3)=false:=by decide
     have n43:((4:Int)=3)=False:=by decide
     simp only[go_sem,Nat.reduceLT,Nat.reduceEqDiff,Nat.reduceBEq,Nat.reduceAdd,Nat.reduceSub,Nat.reduceLeDiff,hr,e1,e2,c4,e43]
    ·have e4:(kind==4)=false:=by rw[beq_eq_false_iff_ne];exact h4
     have c:Ne.eH kind=41:=by simp[Ne.eH,h3,h4]
     simp only[go_sem,Nat.reduceLT,Nat.reduceEqDiff,Nat.reduceBEq,Nat.reduceAdd,Nat.reduceSub,Nat.reduceLeDiff,hr,e1,e2,e3,e4,c]
theorem jX (t:Tok):den K 114 [.agg (zX t)] []=some (.ret (I (Ne.opens t)) []):=by
 obtain ⟨k,s,n⟩:=t
 have hv:Ne.opens ⟨k,s,n⟩=fE k s n:=rfl
 rw[hv]
 unfold fE
 refine ae rfl rfl Tryz.func114 rfl Tryz.ntmps114 ⟨by simp,by simp[LK]⟩ ?_
 have hr:Tryz.f114.results = #[.tmp 2]:=rfl
 by_cases h2:k=2
 ·subst h2
  simp only[go_sem,Nat.reduceLT,Nat.reduceEqDiff,Nat.reduceBEq,Nat.reduceAdd,Nat.reduceSub,Nat.reduceLeDiff,hr]
 ·rw[if_neg h2]
  have e2:(k==2)=false:=by rw[beq_eq_false_iff_ne];exact h2
  by_cases h7:k=7
  ·subst h7
   have e72:((7:Int)==2)=false:=by decide
   have n72:((7:Int)=2)=False:=by decide
   have e77:((7:Int) != 7)=false:=by decide
   by_cases hn:n=0
   ·subst hn
    have e0:((0:Int) != 0)=false:=by decide
    rw[if_pos ⟨rfl,rfl⟩]
    by_cases a1:s=[40]
    ·subst a1
     simp only[go_sem,Nat.reduceLT,Nat.reduceEqDiff,Nat.reduceBEq,Nat.reduceAdd,Nat.reduceSub,Nat.reduceLeDiff,hr,e72,e77,e0]
    ·have b1:(s==[40])=false:=by rw[beq_eq_false_iff_ne];exact a1
     rw[if_neg a1]
     by_cases a2:s=[91]
     ·subst a2
      simp only[go_sem,Nat.reduceLT,Nat.reduceEqDiff,Nat.reduceBEq,Nat.reduceAdd,Nat.reduceSub,Nat.reduceLeDiff,hr,e72,e77,e0,b1]
     ·have b2:(s==[91])=false:=by rw[beq_eq_false_iff_ne];exact a2
      rw[if_neg a2]
      by_cases a3:s=[123]
      ·subst a3
       simp only[go_sem,Nat.reduceLT,Nat.reduceEqDiff,Nat.reduceBEq,Nat.reduceAdd,Nat.reduceSub,Nat.reduceLeDiff,hr,e72,e77,e0,b1,b2]
      ·have b3:(s==[123])=false:=by rw[beq_eq_false_iff_ne];exact a3
       rw[if_neg a3]
       simp only[go_sem,Nat.reduceLT,Nat.reduceEqDiff,Nat.reduceBEq,Nat.reduceAdd,Nat.reduceSub,Nat.reduceLeDiff,hr,e72,e77,e0,b1,b2,b3]
   ·have e0:(n != 0)=true:=by rw[bne_iff_ne];exact hn
    rw[if_neg (fun h=>hn h.2)]
    simp only[go_sem,Nat.reduceLT,Nat.reduceEqDiff,Nat.reduceBEq,Nat.reduceAdd,Nat.reduceSub,Nat.reduceLeDiff,hr,e72,e77,e0]
  ·have e7:(k != 7)=true:=by rw[bne_iff_ne];exact h7
   rw[if_neg (fun h=>h7 h.1)]
   simp only[go_sem,Nat.reduceLT,Nat.reduceEqDiff,Nat.reduceBEq,Nat.reduceAdd,Nat.reduceSub,Nat.reduceLeDiff,hr,e2,e7]
theorem jC {t:Tok} (h:Ne.opens t≠0):0<Ne.opens t:=by
 rcases Ne.eV t with h1|h1|h1|h1|h1<;>omega
abbrev u2H (l:List Tok) (kind left:Int) (i:Nat) (e:Nat) (acc:List Val):St :=
  { sl:=upd (upd (upd (upd (upd bot 9 (.c (.loc 9 0))) 8 (.c (.loc 8 0))) 3 (I left)) 2 (I kind)) 0 (L (l.map Tok.enc)),bx:=upd (upd nobox 9 (some [.own e (encL acc),.pv (.int .i64 i),.pv (.bool false)])) 8 (some [.own 0 [],.pv (.int .i64 0),.pv (.bool false)]),nt:=76 }
noncomputable def ulp2:Code := .loop (an Tryz.f64 2)
def Ret2 (x:List (List PV)) (j:Int) (bad:Bool) (o:Out) (S:St):Prop:=o = .ret∧S.sl 8 = .c (.loc 8 0)∧S.bx 8=some [.pv (.sl x),.pv (.int .i64 j),.pv (.bool bad)]
theorem wX (l:List Tok) (kind left:Int) (e:Nat) (acc:List Val) :
  Ends (exL K 64 ulp2 (u2H l kind left l.length e acc)) fun o S=>o = .exit 0∧S.nt=76∧S.sl 8 = .c (.loc 8 0)∧S.sl 9 = .c (.loc 9 0)∧S.bx 8=some [.own 0 [],.pv (.int .i64 0),.pv (.bool false)]∧S.bx 9=some [.own e (encL acc),.pv (.int .i64 l.length),.pv (.bool false)]:=by
 unfold ulp2
 conv in an _ _=>whnf
 rw[aq]
 simp only[go_sem,Nat.reduceLT,reduceCtorEq,Nat.reduceEqDiff,Nat.reduceBEq,Nat.reduceAdd,aD ag,aw]
theorem mC (l:List Tok) (i:Nat) (t:Tok) (h:l[i]? = some t):(l.map Tok.enc)[(i:Int).toNat]? = some [.int .i64 t.kind,.str t.text,.int .i64 t.n]:=by
 simp[h,Tok.enc]
theorem yD (l:List Tok) (kind left:Int) (i:Nat) (e:Nat) (acc:List Val) (t:Tok) (hi:l[i]? = some t) (hl:l.length≤100000000) (h:Ne.bE kind t=true) :
  Ends (exL K 64 ulp2 (u2H l kind left i e acc)) (Ret2 (encL acc) ((i+1:Nat):Int) false):=by
 have hil:i<l.length:=(List.getElem?_eq_some_iff.1 hi).1
 have hlt:decide ((i:Int)<(l.length:Int))=true:=decide_eq_true (by omega)
 have hget:=mC l i t hi
 have hw:IntKind.i64.wrap ((i:Int)+1)=((i+1:Nat):Int):=bQ i (by omega)
 unfold Ne.bE at h
 rw[Bool.and_eq_true] at h
 obtain ⟨e1,e2⟩:=h
 have hld:=iH t kind
 rw[e2] at hld
 unfold ulp2 Ret2
 conv in an _ _=>whnf
 rw[aq]
 simp only[go_sem,Nat.reduceLT,reduceCtorEq,Nat.reduceEqDiff,Nat.reduceBEq,Nat.reduceAdd,Nat.reduceLeDiff,aD ag,ao ag,hlt,hget,Int.natCast_nonneg,hw,e1,hld,aw]
theorem nY (acc:List Val) (k:Int) (t:Tok) (vs:List Val):encL acc++[[.int .i64 k,.int .i64 t.kind,.str t.text,.int .i64 t.n,.sl (encL vs)]]=encL (acc++[.mk k t vs]):=by
 rw[iM];rfl
theorem oM (acc:List Val) (k:Int) (t:Tok):encL acc++[[.int .i64 k,.int .i64 t.kind,.str t.text,.int .i64 t.n,.sl []]]=encL (acc++[.mk k t []]):=by
 rw[iM];rfl
theorem og (acc:List Val) (k:Int) (vs:List Val):encL acc++[[.int .i64 k,.int .i64 0,.str [],.int .i64 0,.sl (encL vs)]]=encL (acc++[.mk k Ne.tok0 vs]):=by
 rw[iM];rfl
set_option maxHeartbeats 4000000 in
theorem AN (l:List Tok) (kind left:Int) (i:Nat) (e:Nat) (acc:List Val) (t:Tok) (hi:l[i]? = some t) (hl:l.length≤100000000) (h:Ne.bE kind t=false) (he:e=93∨acc=[]) (hacc:acc.length<100000000) (h0:Ne.opens t=0) :
  exL K 64 ulp2 (u2H l kind left i e acc)=exL K 64 ulp2 (u2H l kind left (i+1) 93 (acc++[.mk 1 t []])):=by
 have hil:i<l.length:=(List.getElem?_eq_some_iff.1 hi).1
 have hlt:decide ((i:Int)<(l.length:Int))=true:=decide_eq_true (by omega)
 have hget:=mC l i t hi
 have hw:IntKind.i64.wrap ((i:Int)+1)=((i+1:Nat):Int):=bQ i (by omega)
 have hld:=iH t kind
 have hop:=jX t
 rw[h0] at hop
 have hown:e=93∨(encL acc).isEmpty=true:=by
  rcases he with rfl|rfl
  ·exact .inl rfl
  ·exact .inr rfl
 have hlim:acc.length+1<dF:=by unfold dF;omega
 have hlv:=dQ acc
 unfold ulp2
 conv in an _ _=>whnf
 conv in an _ _=>whnf
 conv in exL _ _ _ (u2H l kind left i e acc)=>rw[aq]
 unfold Ne.bE at h
 cases e1:decide (0<kind)
 ·simp only[go_sem,Nat.reduceLT,reduceCtorEq,Nat.reduceEqDiff,Nat.reduceBEq,Nat.reduceAdd,Nat.reduceLeDiff,Nat.reduceMul,aD ag,ao ag,am ah aG,ay (len:=1) af aE ah ⟨rfl,by decide,by decide⟩,cI bC,bq af,hlt,hget,Int.natCast_nonneg,hw,e1,hop,aL,hlim,hlv,fy,hown,oM]
  rw[aO]
  simp only[go_sem,reduceCtorEq,Nat.reduceEqDiff,Nat.reduceBEq]
 ·rw[e1,Bool.true_and] at h
  rw[h] at hld
  simp only[go_sem,Nat.reduceLT,reduceCtorEq,Nat.reduceEqDiff,Nat.reduceBEq,Nat.reduceAdd,Nat.reduceLeDiff,Nat.reduceMul,aD ag,ao ag,am ah aG,ay (len:=1) af aE ah ⟨rfl,by decide,by decide⟩,cI bC,bq af,hlt,hget,Int.natCast_nonneg,hw,e1,hld,hop,aL,hlim,hlv,fy,hown,oM]
  rw[aO]
  simp only[go_sem,reduceCtorEq,Nat.reduceEqDiff,Nat.reduceBEq]
set_option maxHeartbeats 4000000 in
theorem A0 (l:List Tok) (kind:Int) (n:Nat) (i j:Nat) (e:Nat) (acc:List Val) (t:Tok) (vs:List Val) (hi:l[i]? = some t) (hl:l.length≤100000000) (hn:n<1000) (h:Ne.bE kind t=false) (he:e=93∨acc=[]) (hacc:acc.length<100000000) (h0:Ne.opens t≠0)
  (hin:den K 64 [L (l.map Tok.enc),I ((i+1:Nat):Int),I (Ne.opens t),I n] []=some (.ret (.agg [.pv (.sl (encL vs)),.pv (.int .i64 j),.pv (.bool false)]) [])) :
  exL K 64 ulp2 (u2H l kind ((n+1:Nat):Int) i e acc)=exL K 64 ulp2 (u2H l kind ((n+1:Nat):Int) j 93 (acc++[.mk (Ne.opens t) (if Ne.opens t=5 then t else Ne.tok0) vs])):=by
 have hil:i<l.length:=(List.getElem?_eq_some_iff.1 hi).1
 have hlt:decide ((i:Int)<(l.length:Int))=true:=decide_eq_true (by omega)
 have hget:=mC l i t hi
 have hw:IntKind.i64.wrap ((i:Int)+1)=((i+1:Nat):Int):=bQ i (by omega)
 have hld:=iH t kind
 have hop:=jX t
 have hpos:decide (0<Ne.opens t)=true:=decide_eq_true (jC h0)
 have hown:e=93∨(encL acc).isEmpty=true:=by
  rcases he with rfl|rfl
  ·exact .inl rfl
  ·exact .inr rfl
 have hlim:acc.length+1<dF:=by unfold dF;omega
 have hlv:=dQ acc
 have hl0:(((n+1:Nat):Int)==0)=false:=by rw[beq_eq_false_iff_ne];omega
 have hwl:IntKind.i64.wrap (((n+1:Nat):Int) - 1)=(n:Int):=by rw[IntWalk.i64_in _ (by omega)];omega
 unfold ulp2
 conv in an _ _=>whnf
 conv in an _ _=>whnf
 conv in exL _ _ _ (u2H l kind _ i e acc)=>rw[aq]
 by_cases h5:Ne.opens t=5
 ·have e5:(Ne.opens t==5)=true:=by rw[beq_iff_eq];exact h5
  rw[if_pos h5]
  unfold Ne.bE at h
  cases e1:decide (0<kind)
  ·simp only[go_sem,Nat.reduceLT,reduceCtorEq,Nat.reduceEqDiff,Nat.reduceBEq,Nat.reduceAdd,Nat.reduceLeDiff,Nat.reduceMul,aD ag,ao ag,am ah aG,ay (len:=1) af aE ah ⟨rfl,by decide,by decide⟩,cI bC,bq af,hlt,hget,Int.natCast_nonneg,hw,e1,hop,hpos,aL,hlim,hlv,fy,hown,hin,hwl,hl0,e5,nY]
   rw[aO]
   simp only[go_sem,reduceCtorEq,Nat.reduceEqDiff,Nat.reduceBEq]
  ·rw[e1,Bool.true_and] at h
   rw[h] at hld
   simp only[go_sem,Nat.reduceLT,reduceCtorEq,Nat.reduceEqDiff,Nat.reduceBEq,Nat.reduceAdd,Nat.reduceLeDiff,Nat.reduceMul,aD ag,ao ag,am ah aG,ay (len:=1) af aE ah ⟨rfl,by decide,by decide⟩,cI bC,bq af,hlt,hget,Int.natCast_nonneg,hw,e1,hld,hop,hpos,aL,hlim,hlv,fy,hown,hin,hwl,hl0,e5,nY]
   rw[aO]
   simp only[go_sem,reduceCtorEq,Nat.reduceEqDiff,Nat.reduceBEq]
 ·have e5:(Ne.opens t==5)=false:=by rw[beq_eq_false_iff_ne];exact h5
  rw[if_neg h5]
  unfold Ne.bE at h
  cases e1:decide (0<kind)
  ·simp only[go_sem,Nat.reduceLT,reduceCtorEq,Nat.reduceEqDiff,Nat.reduceBEq,Nat.reduceAdd,Nat.reduceLeDiff,Nat.reduceMul,aD ag,ao ag,am ah aG,ay (len:=1) af aE ah ⟨rfl,by decide,by decide⟩,cI bC,bq af,hlt,hget,Int.natCast_nonneg,hw,e1,hop,hpos,aL,hlim,hlv,fy,hown,hin,hwl,hl0,e5,og]
   rw[aO]
   simp only[go_sem,reduceCtorEq,Nat.reduceEqDiff,Nat.reduceBEq]
  ·rw[e1,Bool.true_and] at h
   rw[h] at hld
   simp only[go_sem,Nat.reduceLT,reduceCtorEq,Nat.reduceEqDiff,Nat.reduceBEq,Nat.reduceAdd,Nat.reduceLeDiff,Nat.reduceMul,aD ag,ao ag,am ah aG,ay (len:=1) af aE ah ⟨rfl,by decide,by decide⟩,cI bC,bq af,hlt,hget,Int.natCast_nonneg,hw,e1,hld,hop,hpos,aL,hlim,hlv,fy,hown,hin,hwl,hl0,e5,og]
   rw[aO]
   simp only[go_sem,reduceCtorEq,Nat.reduceEqDiff,Nat.reduceBEq]
theorem y6 (l:List Tok) (kind:Int) (i:Nat) (e:Nat) (acc:List Val) (t:Tok) (hi:l[i]? = some t) (hl:l.length≤100000000) (h:Ne.bE kind t=false) (h0:Ne.opens t≠0) :
  Ends (exL K 64 ulp2 (u2H l kind ((0:Nat):Int) i e acc)) fun o S => ∃ a b,Ret2 a b true o S:=by
 have hil:i<l.length:=(List.getElem?_eq_some_iff.1 hi).1
 have hlt:decide ((i:Int)<(l.length:Int))=true:=decide_eq_true (by omega)
 have hget:=mC l i t hi
 have hw:IntKind.i64.wrap ((i:Int)+1)=((i+1:Nat):Int):=bQ i (by omega)
 have hld:=iH t kind
 have hop:=jX t
 have hpos:decide (0<Ne.opens t)=true:=decide_eq_true (jC h0)
 have hl0:(((0:Nat):Int)==0)=true:=by decide
 unfold ulp2 Ret2
 conv in an _ _=>whnf
 rw[aq]
 unfold Ne.bE at h
 cases e1:decide (0<kind)
 ·simp only[go_sem,Nat.reduceLT,reduceCtorEq,Nat.reduceEqDiff,Nat.reduceBEq,Nat.reduceAdd,Nat.reduceLeDiff,aD ag,ao ag,am ah aG,hlt,hget,Int.natCast_nonneg,hw,e1,hop,hpos,hl0,aw]
  exact ⟨_,_,rfl⟩
 ·rw[e1,Bool.true_and] at h
  rw[h] at hld
  simp only[go_sem,Nat.reduceLT,reduceCtorEq,Nat.reduceEqDiff,Nat.reduceBEq,Nat.reduceAdd,Nat.reduceLeDiff,aD ag,ao ag,am ah aG,hlt,hget,Int.natCast_nonneg,hw,e1,hld,hop,hpos,hl0,aw]
  exact ⟨_,_,rfl⟩
theorem Ao (l:List Tok) (kind:Int) (n:Nat) (i:Nat) (e:Nat) (acc:List Val) (t:Tok) (hi:l[i]? = some t) (hl:l.length≤100000000) (hn:n<1000) (h:Ne.bE kind t=false) (h0:Ne.opens t≠0) (x:List (List PV)) (j:Int)
  (hin:den K 64 [L (l.map Tok.enc),I ((i+1:Nat):Int),I (Ne.opens t),I n] []=some (.ret (.agg [.pv (.sl x),.pv (.int .i64 j),.pv (.bool true)]) [])) :
  Ends (exL K 64 ulp2 (u2H l kind ((n+1:Nat):Int) i e acc)) fun o S => ∃ a b,Ret2 a b true o S:=by
 have hil:i<l.length:=(List.getElem?_eq_some_iff.1 hi).1
 have hlt:decide ((i:Int)<(l.length:Int))=true:=decide_eq_true (by omega)
 have hget:=mC l i t hi
 have hw:IntKind.i64.wrap ((i:Int)+1)=((i+1:Nat):Int):=bQ i (by omega)
 have hld:=iH t kind
 have hop:=jX t
 have hpos:decide (0<Ne.opens t)=true:=decide_eq_true (jC h0)
 have hl0:(((n+1:Nat):Int)==0)=false:=by rw[beq_eq_false_iff_ne];omega
 have hwl:IntKind.i64.wrap (((n+1:Nat):Int) - 1)=(n:Int):=by rw[IntWalk.i64_in _ (by omega)];omega
 unfold ulp2 Ret2
 conv in an _ _=>whnf
 rw[aq]
 unfold Ne.bE at h
 cases e1:decide (0<kind)
 ·simp only[go_sem,Nat.reduceLT,reduceCtorEq,Nat.reduceEqDiff,Nat.reduceBEq,Nat.reduceAdd,Nat.reduceLeDiff,aD ag,ao ag,am ah aG,hlt,hget,Int.natCast_nonneg,hw,e1,hop,hpos,hl0,hwl,hin,aw]
  exact ⟨_,_,rfl⟩
 ·rw[e1,Bool.true_and] at h
  rw[h] at hld
  simp only[go_sem,Nat.reduceLT,reduceCtorEq,Nat.reduceEqDiff,Nat.reduceBEq,Nat.reduceAdd,Nat.reduceLeDiff,aD ag,ao ag,am ah aG,hlt,hget,Int.natCast_nonneg,hw,e1,hld,hop,hpos,hl0,hwl,hin,aw]
  exact ⟨_,_,rfl⟩
def ULoop2 (l:List Tok) (kind:Int) (left:Nat) (i:Nat) (acc:List Val) (o:Out) (S:St):Prop :=
 match Ne.bF kind left (l.drop i) with
 | some (vs,rest) => ∃ j:Nat,l.drop j=rest∧j≤l.length∧i≤j∧(Ret2 (encL (acc++vs)) (j:Int) false o S ∨
   (o = .exit 0∧S.nt=76∧S.sl 8 = .c (.loc 8 0)∧S.sl 9 = .c (.loc 9 0)∧S.bx 8=some [.own 0 [],.pv (.int .i64 0),.pv (.bool false)] ∧ ∃ e,S.bx 9=some [.own e (encL (acc++vs)),.pv (.int .i64 j),.pv (.bool false)]))
 | none => ∃ a b,Ret2 a b true o S
def UDen2 (l:List Tok) (kind:Int) (left:Nat) (i:Nat):Prop :=
 match Ne.bF kind left (l.drop i) with
 | some (vs,rest) => ∃ j:Nat,l.drop j=rest∧j≤l.length∧i≤j∧den K 64 [L (l.map Tok.enc),I (i:Int),I kind,I left] []=some (.ret (.agg [.pv (.sl (encL vs)),.pv (.int .i64 j),.pv (.bool false)]) [])
 | none => ∃ a b,den K 64 [L (l.map Tok.enc),I (i:Int),I kind,I left] []=some (.ret (.agg [.pv (.sl a),.pv (.int .i64 b),.pv (.bool true)]) [])
theorem wO {l:List Tok} {kind:Int} {left i:Nat}
  (h:Ends (exL K 64 ulp2 (u2H l kind left i 0 [])) (ULoop2 l kind left i [])):UDen2 l kind left i:=by
 have hr:Tryz.f64.results = #[.cell 8 102]:=rfl
 unfold ulp2 at h
 conv at h in an _ _=>whnf
 obtain ⟨o,S',w,hq⟩:=h
 unfold ULoop2 at hq
 unfold UDen2
 cases hu:Ne.bF kind left (l.drop i) with
 | some x =>
  obtain ⟨vs,rest⟩:=x
  rw[hu] at hq
  obtain ⟨j,q1,q2,q3,hq⟩:=hq
  refine ⟨j,q1,q2,q3,?_⟩
  rw[List.nil_append] at hq
  refine ae rfl rfl Tryz.func64 rfl Tryz.ntmps64 ⟨by simp,by simp[LK]⟩ ?_
  simp only[go_sem,Nat.reduceLT,Nat.reduceEqDiff,Nat.reduceBEq,Nat.reduceAdd,Nat.reduceSub,Nat.reduceLeDiff,am d8 ig]
  rw[aO]
  simp only[go_sem,reduceCtorEq,Nat.reduceEqDiff,Nat.reduceBEq,Nat.reduceSub,Nat.reduceLeDiff]
  erw [w]
  rcases hq with ⟨rfl,h1,h2⟩|⟨rfl,hn,h8,h9,b8,e,b9⟩
  ·simp only[go_sem,Nat.reduceAdd,hr,h1,h2]
  ·simp only[go_sem,Nat.reduceLT,Nat.reduceEqDiff,Nat.reduceBEq,Nat.reduceAdd,hr,hn,h8,h9,b8,b9]
 | none =>
  rw[hu] at hq
  obtain ⟨a,b,rfl,h1,h2⟩:=hq
  refine ⟨a,b,?_⟩
  refine ae rfl rfl Tryz.func64 rfl Tryz.ntmps64 ⟨by simp,by simp[LK]⟩ ?_
  simp only[go_sem,Nat.reduceLT,Nat.reduceEqDiff,Nat.reduceBEq,Nat.reduceAdd,Nat.reduceSub,Nat.reduceLeDiff,am d8 ig]
  rw[aO]
  simp only[go_sem,reduceCtorEq,Nat.reduceEqDiff,Nat.reduceBEq,Nat.reduceSub,Nat.reduceLeDiff]
  erw [w]
  simp only[go_sem,Nat.reduceAdd,hr,h1,h2]
attribute [local go_sem] wG qU sN sq
def cQ (c:UInt8):Int:=if Tk.begins c then 1 else if Tk.digit c then 2 else if c==45 then 3 else if Tk.blank c then 4 else 0
def isI (v:Int):Option Res→Bool
 | some (.ret (.c (.pv (.int .i64 n))) [])=>n==v
 | _=>false
theorem yA {v:Int} {r:Option Res} (h:isI v r=true):r=some (.ret (I v) []):=by
 unfold isI at h
 split at h
 ·rename_i n
  have:n=v:=by simpa using h
  rw[this]
 ·cases h
theorem vz:(List.range 256).all (fun n=>isI (cQ (UInt8.ofNat n)) (ce K 5 157 [.c (.pv (.int .u8 (n:Nat)))] []))=true:=by kernel_rfl
theorem vb (c:UInt8):den K 157 [U c] []=some (.ret (I (cQ c)) []):=by
 have h:=List.all_eq_true.1 vz c.toNat (List.mem_range.2 c.toNat_lt)
 have h2:=yA h
 rw[UInt8.ofNat_toNat] at h2
 exact ke.2 ⟨5,h2⟩
theorem lH:(List.range 256).all (fun n=>let c:=UInt8.ofNat n;((cQ c==1)==Tk.begins c)&&((cQ c==2)==Tk.digit c)&&((cQ c==3)==(c==45))&&((cQ c==4)==Tk.blank c)&&((decide (1≤cQ c)&&decide (cQ c≤3))==Tk.within c))=true:=by kernel_rfl
theorem fh (c:UInt8):(cQ c==1)=Tk.begins c∧(cQ c==2)=Tk.digit c∧(cQ c==3)=(c==45)∧(cQ c==4)=Tk.blank c∧(decide (1≤cQ c)&&decide (cQ c≤3))=Tk.within c:=by
 have h:=List.all_eq_true.1 lH c.toNat (List.mem_range.2 c.toNat_lt)
 simp only[UInt8.ofNat_toNat,Bool.and_eq_true,beq_iff_eq] at h
 obtain ⟨⟨⟨⟨h1,h2⟩,h3⟩,h4⟩,h5⟩:=h
 exact ⟨h1,h2,h3,h4,h5⟩
def atC:List UInt8→Int
 | [] => -1
 | c::_=>cQ c
theorem kW (l:List UInt8):(atC l==1)=Tk.begins (Tk.at0 l)∧(atC l==2)=Tk.digit (Tk.at0 l)∧(atC l==3)=(Tk.at0 l==45)∧(atC l==4)=Tk.blank (Tk.at0 l)∧(decide (1≤atC l)&&decide (atC l≤3))=Tk.within (Tk.at0 l):=by
 cases l with
 | nil=>decide
 | cons c r=>exact fh c
theorem ec (s:List UInt8) (i:Nat) (hs:s.length<4000000000):den K 116 [T s,I i] []=some (.ret (I (atC (s.drop i))) []):=by
 refine ae rfl rfl Tryz.func116 rfl Tryz.ntmps116 ⟨by simp,by simp[LK]⟩ ?_
 have hr:Tryz.f116.results = #[.tmp 4]:=rfl
 by_cases h:i<s.length
 ·have hlt:decide ((i:Int)<(s.length:Int))=true:=decide_eq_true (by omega)
  have hd:=List.drop_eq_getElem_cons h
  have hg:s[i]? = some (s[i]'h):=List.getElem?_eq_getElem h
  generalize s[i]'h=c at hd hg
  rw[hd,atC]
  have hc:=vb c
  simp only[go_sem,Nat.reduceLT,reduceCtorEq,Nat.reduceEqDiff,Nat.reduceBEq,Nat.reduceAdd,aj aa,ax aa,hr,hlt,Int.natCast_nonneg,Int.toNat_natCast,hg,hc]
 ·have hlt:decide ((i:Int)<(s.length:Int))=false:=decide_eq_false (by omega)
  rw[List.drop_eq_nil_of_le (by omega),atC]
  simp only[go_sem,Nat.reduceLT,reduceCtorEq,Nat.reduceEqDiff,Nat.reduceBEq,Nat.reduceAdd,aj aa,ax aa,hr,hlt]
theorem jD (s:List UInt8) (i:Nat) (hs:s.length<4000000000) (hi:i≤s.length):den K 119 [T s,I i] []=some (.ret (B (Tk.cw (s.drop i))) []):=by
 have d1:=ec s i hs
 have d2:=ec s (i+1) hs
 obtain ⟨f1,_,f3,_,_⟩:=kW (s.drop i)
 obtain ⟨g1,_,g3,_,_⟩:=kW (s.drop (i+1))
 have ht:(s.drop i).tail=s.drop (i+1):=List.tail_drop
 unfold Tk.cw
 rw[ht,←f1,←f3,←g1,←g3]
 generalize atC (s.drop i)=v at d1
 generalize atC (s.drop (i+1))=w at d2
 clear f1 f3 g1 g3 ht
 refine ae rfl rfl Tryz.func119 rfl Tryz.ntmps119 ⟨by simp,by simp[LK]⟩ ?_
 have hr:Tryz.f119.results = #[.tmp 4]:=rfl
 cases b1:(v==1)
 ·cases b3:(v==3)
  ·simp only[go_sem,Nat.reduceLT,reduceCtorEq,Nat.reduceEqDiff,Nat.reduceBEq,Nat.reduceAdd,hr,d1,b1,b3]
  ·cases c1:(w==1)
   ·cases c3:(w==3)<;>simp only[go_sem,Nat.reduceLT,reduceCtorEq,Nat.reduceEqDiff,Nat.reduceBEq,Nat.reduceAdd,hr,d1,d2,b1,b3,c1,c3,bQ i (by omega)]
   ·simp only[go_sem,Nat.reduceLT,reduceCtorEq,Nat.reduceEqDiff,Nat.reduceBEq,Nat.reduceAdd,hr,d1,d2,b1,b3,c1,bQ i (by omega)]
 ·simp only[go_sem,Nat.reduceLT,reduceCtorEq,Nat.reduceEqDiff,Nat.reduceBEq,Nat.reduceAdd,hr,d1,b1]
abbrev Aw (s:List UInt8) (i:Nat):St := { sl:=upd (upd bot 1 (I i)) 0 (T s),bx:=nobox,nt:=18 }
theorem sK (s:List UInt8) (hs:s.length<4000000000) : ∀ (rest:List UInt8) (i:Nat),s.drop i=rest→i≤s.length →
  Ends (exL K 118 (.loop (an Tryz.f118 1)) (Aw s i)) fun o S=>o = .exit 0∧S.nt=18∧S.sl 1=I (i+Tk.run Tk.within rest:Nat):=by
 intro rest
 induction rest with
 | nil =>
  intro i hd hi
  have d1:=ec s i hs
  rw[hd] at d1
  have v0:atC [] = -1:=rfl
  rw[v0] at d1
  have e0:decide ((1:Int) ≤ -1)=false:=by decide
  conv in an _ _=>whnf
  rw[aq]
  simp only[go_sem,Nat.reduceLT,reduceCtorEq,Nat.reduceEqDiff,Nat.reduceBEq,Nat.reduceAdd,aw,d1,e0,Tk.o6]
 | cons c rest ih =>
  intro i hd hi
  obtain ⟨g1,g2,g3⟩:=cv hd
  have d1:=ec s i hs
  rw[hd] at d1
  have v0:atC (c::rest)=cQ c:=rfl
  rw[v0] at d1
  obtain ⟨_,_,_,_,f⟩:=fh c
  have ih':=ih (i+1) g2 (by omega)
  conv at ih' in an _ _=>whnf
  conv in an _ _=>whnf
  rw[aq]
  cases b1:decide (1≤cQ c)
  ·rw[b1,Bool.false_and] at f
   have hv:Tk.run Tk.within (c::rest)=0:=by rw[Tk.run,←f];rfl
   simp only[go_sem,Nat.reduceLT,reduceCtorEq,Nat.reduceEqDiff,Nat.reduceBEq,Nat.reduceAdd,aw,d1,b1,hv]
  ·rw[b1,Bool.true_and] at f
   cases b2:decide (cQ c≤3)
   ·rw[b2] at f
    have hv:Tk.run Tk.within (c::rest)=0:=by rw[Tk.run,←f];rfl
    simp only[go_sem,Nat.reduceLT,reduceCtorEq,Nat.reduceEqDiff,Nat.reduceBEq,Nat.reduceAdd,aw,d1,b1,b2,hv]
   ·rw[b2] at f
    have hv:i+1+Tk.run Tk.within rest=i+Tk.run Tk.within (c::rest):=by rw[Tk.run,if_pos f.symm];omega
    rw[hv] at ih'
    simp only[go_sem,Nat.reduceLT,reduceCtorEq,Nat.reduceEqDiff,Nat.reduceBEq,Nat.reduceAdd,d1,b1,b2,bQ i (by omega)]
    rw[aO]
    simp only[go_sem,reduceCtorEq,Nat.reduceEqDiff]
    exact ih'
theorem kI (s:List UInt8) (i:Nat) (hs:s.length<4000000000) (hi:i≤s.length):den K 118 [T s,I i] []=some (.ret (I (i+Tk.run Tk.within (s.drop i):Nat)) []):=by
 refine ae rfl rfl Tryz.func118 rfl Tryz.ntmps118 ⟨by simp,by simp[LK]⟩ ?_
 have hr:Tryz.f118.results = #[.tmp 4]:=rfl
 have hl:=sK s hs (s.drop i) i rfl hi
 conv at hl in an _ _=>whnf
 obtain ⟨o,S',w,rfl,hn,h1⟩:=hl
 simp only[go_sem,Nat.reduceLT,Nat.reduceBEq]
 rw[aO]
 simp only[go_sem,reduceCtorEq,Nat.reduceEqDiff]
 erw [w]
 simp only[go_sem,Nat.reduceLT,Nat.reduceEqDiff,Nat.reduceBEq,Nat.reduceAdd,hr,hn,h1]
abbrev comH (s:List UInt8) (k:Nat):St := { sl:=upd (upd bot 5 (I k)) 0 (T s),bx:=nobox,nt:=30 }
theorem w9 (s:List UInt8) (hs:s.length<4000000000) : ∀ (rest:List UInt8) (k:Nat),s.drop k=rest→k≤s.length →
  Ends (exL K 115 (.loop (an Tryz.f115 2)) (comH s k)) fun o S=>(∃ n,Tk.shut rest=some n∧o = .ret∧S.sl 4=I (k+n:Nat))∨(Tk.shut rest=none∧o = .exit 0∧S.nt=30∧S.sl 0=T s):=by
 intro rest
 induction rest with
 | nil =>
  intro k hd hk
  have hin:k=s.length:=by
   have:=List.drop_eq_nil_iff.1 hd
   omega
  subst hin
  have w1:=bQ s.length (by omega)
  have e0:decide (((s.length+1:Nat):Int)<(s.length:Int))=false:=decide_eq_false (by omega)
  have hv:Tk.shut []=none:=rfl
  conv in an _ _=>whnf
  rw[aq]
  simp only[go_sem,Nat.reduceLT,reduceCtorEq,Nat.reduceEqDiff,Nat.reduceBEq,Nat.reduceAdd,aj aa,aw,w1,e0,hv]
 | cons c rest ih =>
  intro k hd hk
  obtain ⟨g1,g2,g3⟩:=cv hd
  have w1:=bQ k (by omega)
  have e42:((c.toNat:Int)==42)=(c==42):=ed c 42
  cases rest with
  | nil =>
   have hl:k+1=s.length:=by
    have:=List.drop_eq_nil_iff.1 g2
    omega
   have e0:decide (((k+1:Nat):Int)<(s.length:Int))=false:=decide_eq_false (by omega)
   have hv:Tk.shut [c]=none:=by
    rw[Tk.shut,if_neg (fun h=>absurd h.2 (by decide))];rfl
   conv in an _ _=>whnf
   rw[aq]
   simp only[go_sem,Nat.reduceLT,reduceCtorEq,Nat.reduceEqDiff,Nat.reduceBEq,Nat.reduceAdd,aj aa,aw,w1,e0,hv]
  | cons d rest =>
   obtain ⟨k1,k2,k3⟩:=cv g2
   have e0:decide (((k+1:Nat):Int)<(s.length:Int))=true:=decide_eq_true (by omega)
   have e47:((d.toNat:Int)==47)=(d==47):=ed d 47
   have w2:IntKind.i64.wrap ((k:Int)+2)=((k+2:Nat):Int):=by rw[IntWalk.i64_in _ (by omega)];rfl
   have ih':=ih (k+1) g2 (by omega)
   conv at ih' in an _ _=>whnf
   conv in an _ _=>whnf
   rw[aq]
   by_cases hc:c=42∧d=47
   ·have hv:Tk.shut (c::d::rest)=some 2:=by rw[Tk.shut,if_pos ⟨hc.1,hc.2⟩]
    have q1:(c==42)=true:=by simp[hc.1]
    have q2:(d==47)=true:=by simp[hc.2]
    rw[q1] at e42
    rw[q2] at e47
    simp only[go_sem,Nat.reduceLT,reduceCtorEq,Nat.reduceEqDiff,Nat.reduceBEq,Nat.reduceAdd,aj aa,ax aa,aw,w1,w2,e0,hv,g1,k1,e42,e47,Int.natCast_nonneg,Int.toNat_natCast]
    simp
   ·have hv:Tk.shut (c::d::rest)=(Tk.shut (d::rest)).map (· + 1):=by rw[Tk.shut,if_neg (show ¬ (c=42∧Tk.at0 (d::rest)=47) from hc)]
    rw[hv]
    have fin : ∀ {r:Option (Out×St)},Ends r (fun o S=>(∃ n,Tk.shut (d::rest)=some n∧o = .ret∧S.sl 4=I (k+1+n:Nat))∨(Tk.shut (d::rest)=none∧o = .exit 0∧S.nt=30∧S.sl 0=T s))→Ends r (fun o S=>(∃ n,(Tk.shut (d::rest)).map (· + 1)=some n∧o = .ret∧S.sl 4=I (k+n:Nat))∨((Tk.shut (d::rest)).map (· + 1)=none∧o = .exit 0∧S.nt=30∧S.sl 0=T s)):=by
     rintro r ⟨o,S,e,h⟩
     refine ⟨o,S,e,?_⟩
     rcases h with ⟨n,h1,h2,h3⟩|⟨h1,h2⟩
     ·left;exact ⟨n+1,by rw[h1];rfl,h2,by rw[h3,show k+1+n=k+(n+1) by omega]⟩
     ·right;exact ⟨by rw[h1];rfl,h2⟩
    refine fin ?_
    cases q1:(c==42)
    ·rw[q1] at e42
     simp only[go_sem,Nat.reduceLT,reduceCtorEq,Nat.reduceEqDiff,Nat.reduceBEq,Nat.reduceAdd,aj aa,ax aa,w1,e0,g1,e42,Int.natCast_nonneg,Int.toNat_natCast]
     rw[aO]
     simp only[go_sem,reduceCtorEq,Nat.reduceEqDiff]
     exact ih'
    ·rw[q1] at e42
     have q2:(d==47)=false:=by
      rw[beq_eq_false_iff_ne];intro h;exact hc ⟨by simpa using q1,h⟩
     rw[q2] at e47
     simp only[go_sem,Nat.reduceLT,reduceCtorEq,Nat.reduceEqDiff,Nat.reduceBEq,Nat.reduceAdd,aj aa,ax aa,w1,e0,g1,k1,e42,e47,Int.natCast_nonneg,Int.toNat_natCast]
     rw[aO]
     simp only[go_sem,reduceCtorEq,Nat.reduceEqDiff]
     exact ih'
theorem pK (s:List UInt8) (i:Nat) (hs:s.length<4000000000) (hi:i+2≤s.length):den K 115 [T s,I i] []=some (.ret (I (i+Tk.comment (s.drop (i+2)):Nat)) []):=by
 refine ae rfl rfl Tryz.func115 rfl Tryz.ntmps115 ⟨by simp,by simp[LK]⟩ ?_
 have hr:Tryz.f115.results = #[.tmp 4]:=rfl
 have w2:IntKind.i64.wrap ((i:Int)+2)=((i+2:Nat):Int):=by rw[IntWalk.i64_in _ (by omega)];rfl
 have hl:=w9 s hs (s.drop (i+2)) (i+2) rfl hi
 conv at hl in an _ _=>whnf
 obtain ⟨o,S',w,h⟩:=hl
 simp only[go_sem,Nat.reduceLT,Nat.reduceEqDiff,Nat.reduceBEq,Nat.reduceAdd,w2]
 rw[aO]
 simp only[go_sem,reduceCtorEq,Nat.reduceEqDiff]
 erw [w]
 unfold Tk.comment
 rcases h with ⟨n,h1,rfl,h2⟩|⟨h1,rfl,h2,h3⟩
 ·rw[h1]
  have e:i+2+n=i+(n+2):=by omega
  rw[e] at h2
  simp only[go_sem,hr,h2]
 ·rw[h1]
  have e:i+((s.drop (i+2)).length+2)=s.length:=by rw[List.length_drop];omega
  simp only[e]
  simp only[go_sem,Nat.reduceLT,Nat.reduceEqDiff,Nat.reduceBEq,Nat.reduceAdd,aj aa,hr,h2,h3]
attribute [local go_sem] rQ rY qf qm
def se (i:Nat) (c:UInt8) (r:List UInt8):Int:=match Tk.inner c r with|some n=>((i+1+n:Nat):Int)|none => -1
abbrev inH (s:List UInt8) (i k:Nat):St := { sl:=upd (upd (upd bot 5 (I k)) 1 (I i)) 0 (T s),bx:=nobox,nt:=38 }
theorem yU (s:List UInt8) (hs:s.length<4000000000) (i:Nat) (c:UInt8) (hi:s[i]? = some c) : ∀ (rest:List UInt8) (k:Nat),s.drop k=rest→k≤s.length →
  Ends (exL K 117 (.loop (an Tryz.f117 2)) (inH s i k)) fun o S=>(∃ n,Tk.inner c rest=some n∧o = .ret∧S.sl 4=I (k+n:Nat))∨(Tk.inner c rest=none∧(o = .ret∧S.sl 4=I (-1)∨o = .exit 0∧S.nt=38)):=by
 intro rest
 induction rest with
 | nil =>
  intro k hd hk
  have hin:k=s.length:=by
   have:=List.drop_eq_nil_iff.1 hd
   omega
  subst hin
  have hv:Tk.inner c []=none:=rfl
  conv in an _ _=>whnf
  rw[aq]
  simp only[go_sem,Nat.reduceLT,reduceCtorEq,Nat.reduceEqDiff,Nat.reduceBEq,Nat.reduceAdd,aj aa,aw,hv]
 | cons d rest ih =>
  intro k hd hk
  obtain ⟨g1,g2,g3⟩:=cv hd
  have hlt:decide ((k:Int)<(s.length:Int))=true:=decide_eq_true (by omega)
  have edc:((d.toNat:Int)==(c.toNat:Int))=(d==c):=ed d c
  have e10:((d.toNat:Int)==10)=(d==10):=ed d 10
  have e12:((d.toNat:Int)==12)=(d==12):=ed d 12
  have e13:((d.toNat:Int)==13)=(d==13):=ed d 13
  have ih':=ih (k+1) g2 (by omega)
  conv at ih' in an _ _=>whnf
  conv in an _ _=>whnf
  rw[aq]
  cases q:(d==c)
  ·rw[q] at edc
   have hdc:d≠c:=by simpa using q
   cases q10:(d==10)
   ·rw[q10] at e10
    cases q12:(d==12)
    ·rw[q12] at e12
     cases q13:(d==13)
     ·rw[q13] at e13
      have he:Tk.ending d=false:=by unfold Tk.ending;rw[q10,q12,q13];rfl
      have hv:Tk.inner c (d::rest)=(Tk.inner c rest).map (· + 1):=by rw[Tk.inner,if_neg hdc,if_neg (by simp[he])]
      rw[hv]
      have fin : ∀ {r:Option (Out×St)},Ends r (fun o S=>(∃ n,Tk.inner c rest=some n∧o = .ret∧S.sl 4=I (k+1+n:Nat))∨(Tk.inner c rest=none∧(o = .ret∧S.sl 4=I (-1)∨o = .exit 0∧S.nt=38)))→Ends r (fun o S=>(∃ n,(Tk.inner c rest).map (· + 1)=some n∧o = .ret∧S.sl 4=I (k+n:Nat))∨((Tk.inner c rest).map (· + 1)=none∧(o = .ret∧S.sl 4=I (-1)∨o = .exit 0∧S.nt=38))):=by
       rintro r ⟨o,S,e,h⟩
       refine ⟨o,S,e,?_⟩
       rcases h with ⟨n,h1,h2,h3⟩|⟨h1,h2⟩
       ·left;exact ⟨n+1,by rw[h1];rfl,h2,by rw[h3,show k+1+n=k+(n+1) by omega]⟩
       ·right;exact ⟨by rw[h1];rfl,h2⟩
      refine fin ?_
      simp only[go_sem,Nat.reduceLT,reduceCtorEq,Nat.reduceEqDiff,Nat.reduceBEq,Nat.reduceAdd,aj aa,ax aa,hlt,g1,hi,edc,e10,e12,e13,Int.natCast_nonneg,Int.toNat_natCast,bQ k (by omega)]
      rw[aO]
      simp only[go_sem,reduceCtorEq,Nat.reduceEqDiff]
      exact ih'
     ·rw[q13] at e13
      have he:Tk.ending d=true:=by unfold Tk.ending;rw[q13,Bool.or_true]
      have hv:Tk.inner c (d::rest)=none:=by rw[Tk.inner,if_neg hdc,if_pos he]
      simp only[go_sem,Nat.reduceLT,reduceCtorEq,Nat.reduceEqDiff,Nat.reduceBEq,Nat.reduceAdd,aj aa,ax aa,aw,hlt,g1,hi,edc,e10,e12,e13,Int.natCast_nonneg,Int.toNat_natCast,hv]
    ·rw[q12] at e12
     have he:Tk.ending d=true:=by unfold Tk.ending;rw[q12,Bool.or_true,Bool.true_or]
     have hv:Tk.inner c (d::rest)=none:=by rw[Tk.inner,if_neg hdc,if_pos he]
     simp only[go_sem,Nat.reduceLT,reduceCtorEq,Nat.reduceEqDiff,Nat.reduceBEq,Nat.reduceAdd,aj aa,ax aa,aw,hlt,g1,hi,edc,e10,e12,Int.natCast_nonneg,Int.toNat_natCast,hv]
   ·rw[q10] at e10
    have he:Tk.ending d=true:=by unfold Tk.ending;rw[q10,Bool.true_or,Bool.true_or]
    have hv:Tk.inner c (d::rest)=none:=by rw[Tk.inner,if_neg hdc,if_pos he]
    simp only[go_sem,Nat.reduceLT,reduceCtorEq,Nat.reduceEqDiff,Nat.reduceBEq,Nat.reduceAdd,aj aa,ax aa,aw,hlt,g1,hi,edc,e10,Int.natCast_nonneg,Int.toNat_natCast,hv]
  ·rw[q] at edc
   have hv:Tk.inner c (d::rest)=some 0:=by rw[Tk.inner,if_pos (by simpa using q)]
   simp only[go_sem,Nat.reduceLT,reduceCtorEq,Nat.reduceEqDiff,Nat.reduceBEq,Nat.reduceAdd,aj aa,ax aa,aw,hlt,g1,hi,edc,Int.natCast_nonneg,Int.toNat_natCast,hv]
   simp
theorem sI (s:List UInt8) (i:Nat) (c:UInt8) (r:List UInt8) (hs:s.length<4000000000) (hd:s.drop i=c::r):den K 117 [T s,I i] []=some (.ret (I (se i c r)) []):=by
 obtain ⟨g1,g2,g3⟩:=cv hd
 refine ae rfl rfl Tryz.func117 rfl Tryz.ntmps117 ⟨by simp,by simp[LK]⟩ ?_
 have hr:Tryz.f117.results = #[.tmp 4]:=rfl
 have hl:=yU s hs i c g1 r (i+1) g2 (by omega)
 conv at hl in an _ _=>whnf
 obtain ⟨o,S',w,h⟩:=hl
 simp only[go_sem,Nat.reduceLT,Nat.reduceEqDiff,Nat.reduceBEq,Nat.reduceAdd,bQ i (by omega)]
 rw[aO]
 simp only[go_sem,reduceCtorEq,Nat.reduceEqDiff]
 erw [w]
 unfold se
 rcases h with ⟨n,h1,rfl,h2⟩|⟨h1,⟨rfl,h2⟩|⟨rfl,h2⟩⟩
 ·rw[h1]
  simp only[go_sem,hr,h2]
 ·rw[h1]
  simp only[go_sem,hr,h2]
 ·rw[h1]
  simp only[go_sem,Nat.reduceLT,Nat.reduceBEq,hr,h2]
abbrev nmH (s:List UInt8) (i:Nat) (n:Int) (k:Nat):St := { sl:=upd (upd (upd (upd (upd bot 7 (I k)) 6 (I n)) 4 (.c (.loc 4 0))) 1 (I i)) 0 (T s),bx:=upd nobox 4 (some [.pv (.int .i64 0),.pv (.str []),.pv (.int .i64 0)]),nt:=63 }
theorem zE (s:List UInt8) (hs:s.length<4000000000) (i:Nat) : ∀ (rest:List UInt8) (k:Nat) (n:Int),s.drop k=rest→k≤s.length→0≤n→n≤999999999 →
  Ends (exL K 120 (.loop (an Tryz.f120 4)) (nmH s i n k)) fun o S=>o = .exit 0∧S.nt=63∧S.sl 0=T s∧S.sl 1=I i∧S.sl 4 = .c (.loc 4 0)∧S.sl 6=I (Tk.num n rest)∧S.sl 7=I (k+Tk.run Tk.digit rest:Nat)∧S.bx=upd nobox 4 (some [.pv (.int .i64 0),.pv (.str []),.pv (.int .i64 0)]):=by
 intro rest
 induction rest with
 | nil =>
  intro k n hd hk h0 h1
  have d1:=ec s k hs
  rw[hd] at d1
  have v0:atC [] = -1:=rfl
  rw[v0] at d1
  have e0:((-1:Int)==2)=false:=by decide
  conv in an _ _=>whnf
  rw[aq]
  simp only[go_sem,Nat.reduceLT,reduceCtorEq,Nat.reduceEqDiff,Nat.reduceBEq,Nat.reduceAdd,aw,d1,e0,Tk.o6,Tk.num]
 | cons c rest ih =>
  intro k n hd hk h0 h1
  obtain ⟨g1,g2,g3⟩:=cv hd
  have d1:=ec s k hs
  rw[hd] at d1
  have v0:atC (c::rest)=cQ c:=rfl
  rw[v0] at d1
  obtain ⟨_,f,_,_,_⟩:=fh c
  conv in an _ _=>whnf
  rw[aq]
  cases b:(cQ c==2)
  ·rw[b] at f
   have hv:Tk.run Tk.digit (c::rest)=0:=by rw[Tk.run,←f];rfl
   have hv2:Tk.num n (c::rest)=n:=by rw[Tk.num,←f];rfl
   simp only[go_sem,Nat.reduceLT,reduceCtorEq,Nat.reduceEqDiff,Nat.reduceBEq,Nat.reduceAdd,aw,d1,b,hv,hv2]
  ·rw[b] at f
   have hc:=f.symm
   have hcn:48≤c.toNat∧c.toNat≤57:=by simpa[Tk.digit] using hc
   have hv:k+1+Tk.run Tk.digit rest=k+Tk.run Tk.digit (c::rest):=by rw[Tk.run,if_pos hc];omega
   have hv2:Tk.num n (c::rest)=Tk.num (min (10*n+((c.toNat:Int) - 48)) 999999999) rest:=by rw[Tk.num,if_pos hc]
   have w1:IntKind.i64.wrap (10*n)=10*n:=IntWalk.i64_in _ (by omega)
   have w3:IntKind.i64.wrap (c.toNat:Int)=(c.toNat:Int):=IntWalk.i64_in _ (by omega)
   have w4:IntKind.i64.wrap (10*n+(c.toNat:Int))=10*n+(c.toNat:Int):=IntWalk.i64_in _ (by omega)
   have w5:IntKind.i64.wrap (10*n+(c.toNat:Int) - 48)=10*n+((c.toNat:Int) - 48):=by rw[IntWalk.i64_in _ (by omega)];omega
   have ih':=ih (k+1) (min (10*n+((c.toNat:Int) - 48)) 999999999) g2 (by omega) (by omega) (by omega)
   rw[hv,←hv2] at ih'
   conv at ih' in an _ _=>whnf
   simp only[go_sem,Nat.reduceLT,reduceCtorEq,Nat.reduceEqDiff,Nat.reduceBEq,Nat.reduceAdd,ax aa,cE cM cf,d1,b,g1,Int.natCast_nonneg,Int.toNat_natCast,w1,w3,w4,w5,pD,ia,List.foldl_cons,List.foldl_nil,zx,bQ k (by omega)]
   rw[aO]
   simp only[go_sem,reduceCtorEq,Nat.reduceEqDiff]
   exact ih'
abbrev cr (t:Tok) (i:Nat):AV := .tup [.agg t.cells,.c (.pv (.int .i64 (i:Nat)))]
set_option maxHeartbeats 8000000 in
theorem lq (s:List UInt8) (i:Nat) (c:UInt8) (r:List UInt8) (neg:Bool) (l:List UInt8) (hs:s.length<4000000000) (hd:s.drop i=c::r) (hneg:(c==45)=neg) (hl:l=if neg then r else c::r) :
  den K 120 [T s,I i] []=some (.ret (cr (Tk.number neg l).1 (i+(if neg then 1 else 0)+(Tk.number neg l).2)) []):=by
 obtain ⟨g1,g2,g3⟩:=cv hd
 have e45:((c.toNat:Int)==45)=neg:=(ed c 45).trans hneg
 obtain ⟨j,hj⟩ : ∃ j,j=i+(if neg then 1 else 0):=⟨_,rfl⟩
 have hdj:s.drop j=l:=by cases neg<;>simp only[Bool.false_eq_true,if_true,if_false,Nat.add_zero] at hj hl<;>subst hj<;>subst hl<;>assumption
 have hjl:j≤s.length:=by cases neg<;>simp only[Bool.false_eq_true,if_true,if_false] at hj<;>omega
 have hll:l.length=s.length - j:=by rw[←hdj,List.length_drop]
 have hrl:=Tk.run_le (p:=Tk.digit) l
 have hnum:=Tk.kA (l:=l) (n:=0) (by omega) (by omega)
 have hlp:=zE s hs i l j 0 hdj hjl (by omega) (by omega)
 conv at hlp in an _ _=>whnf
 obtain ⟨o,S',w,rfl,fn,f0,f1,f4,f6,f7,fb⟩:=hlp
 unfold Tk.number
 rw[←hj]
 generalize hk:Tk.run Tk.digit l=k at hrl f7
 simp only
 have hde:s.drop (j+k)=l.drop k:=by rw[←List.drop_drop,hdj]
 have dB:=jD s (j+k) hs (by omega)
 have dN:=kI s (j+k) hs (by omega)
 rw[hde] at dB dN
 have hul:=Tk.s8 (l.drop k)
 rw[List.length_drop] at hul
 have w3:IntKind.i64.wrap (0 - Tk.num 0 l) = -Tk.num 0 l:=by rw[IntWalk.i64_in _ (by omega)];omega
 have w1:=bQ (j+k) (by omega)
 have wi:=bQ i (by omega)
 have hunit:(decide (((j+k:Nat):Int)<(s.length:Int))=true∧(∃ d,s[j+k]? = some d∧((d.toNat:Int)==37)=true)∧Tk.unit (l.drop k)=1)∨((decide (((j+k:Nat):Int)<(s.length:Int))=false∨decide (((j+k:Nat):Int)<(s.length:Int))=true ∧ ∃ d,s[j+k]? = some d∧((d.toNat:Int)==37)=false)∧Tk.unit (l.drop k)=if Tk.cw (l.drop k) then Tk.run Tk.within (l.drop k) else 0):=by
  unfold Tk.unit Tk.name
  by_cases hlt:j+k<s.length
  ·have hdd:=List.drop_eq_getElem_cons hlt
   rw[hde] at hdd
   have hg:s[j+k]? = some (s[j+k]'hlt):=List.getElem?_eq_getElem hlt
   have h0:Tk.at0 (l.drop k)=s[j+k]'hlt:=by rw[hdd];rfl
   rw[h0]
   generalize s[j+k]'hlt=d at hg
   by_cases h37:d=37
   ·left;exact ⟨decide_eq_true (by omega),⟨d,hg,by rw[h37];rfl⟩,by rw[if_pos h37]⟩
   ·right;exact ⟨.inr ⟨decide_eq_true (by omega),d,hg,(ed d 37).trans (by simpa using h37)⟩,by rw[if_neg h37]⟩
  ·have hnil:l.drop k=[]:=List.drop_eq_nil_of_le (by omega)
   rw[hnil]
   right;exact ⟨.inl (decide_eq_false (by omega)),rfl⟩
 generalize Tk.unit (l.drop k)=u at hul hunit
 have hsub:(s.take (j+k+u)).drop (j+k)=(l.drop k).take u:=by rw[List.drop_take,hde];congr 1;omega
 have b1:(((j+k+u:Nat):Int)≤(s.length:Int))=True:=eq_true (by omega)
 have b2:(((j+k:Nat):Int)≤((j+k+u:Nat):Int))=True:=eq_true (by omega)
 rw[←Nat.add_assoc]
 have z01:((0:Int)=1)=False:=by simp
 have hr:Tryz.f120.results = #[.cell 4 91,.tmp 5]:=rfl
 refine ae rfl rfl Tryz.func120 rfl Tryz.ntmps120 ⟨by simp,by simp[LK]⟩ ?_
 cases neg
 ·simp only[Bool.false_eq_true,if_false,Nat.add_zero] at hj ⊢
  subst hj
  simp only[go_sem,Nat.reduceLT,reduceCtorEq,Nat.reduceEqDiff,Nat.reduceBEq,Nat.reduceAdd,Nat.reduceSub,Nat.reduceLeDiff,ax aa,g1,Int.natCast_nonneg,Int.toNat_natCast,e45]
  rw[aO]
  simp only[go_sem,reduceCtorEq,Nat.reduceEqDiff,Nat.reduceSub,Nat.reduceLeDiff]
  erw [w]
  rcases hunit with ⟨u1,⟨d,u2,u3⟩,u4⟩|⟨u1,u4⟩
  ·rw[u4] at b1 b2 hsub ⊢
   simp only[go_sem,Nat.reduceLT,reduceCtorEq,Nat.reduceEqDiff,Nat.reduceBEq,Nat.reduceAdd,Nat.reduceLeDiff,ax aa,aj aa,ap aa,am ab ai,hr,fn,f0,f1,f4,f6,f7,fb,g1,Int.natCast_nonneg,Int.toNat_natCast,e45,w1,w3,u1,u2,u3,b1,b2,hsub,Tok.cells,cr]
  ·cases hnb:Tk.cw (l.drop k)
   ·rw[hnb] at u4 dB
    simp only[Bool.false_eq_true,if_false] at u4
    rw[u4] at b1 b2 hsub ⊢
    simp only[Nat.add_zero] at b1 b2 hsub ⊢
    rcases u1 with u1|⟨u1,d,u2,u3⟩
    ·simp only[go_sem,Nat.reduceLT,reduceCtorEq,Nat.reduceEqDiff,Nat.reduceBEq,Nat.reduceAdd,Nat.reduceLeDiff,ax aa,aj aa,ap aa,am ab ai,hr,fn,f0,f1,f4,f6,f7,fb,g1,Int.natCast_nonneg,Int.toNat_natCast,e45,w1,w3,u1,dB,b1,b2,hsub,Tok.cells,cr]
    ·simp only[go_sem,Nat.reduceLT,reduceCtorEq,Nat.reduceEqDiff,Nat.reduceBEq,Nat.reduceAdd,Nat.reduceLeDiff,ax aa,aj aa,ap aa,am ab ai,hr,fn,f0,f1,f4,f6,f7,fb,g1,Int.natCast_nonneg,Int.toNat_natCast,e45,w1,w3,u1,u2,u3,dB,b1,b2,hsub,Tok.cells,cr]
   ·rw[hnb] at u4 dB
    simp only[if_true] at u4
    rw[←u4] at dN
    rcases u1 with u1|⟨u1,d,u2,u3⟩
    ·simp only[go_sem,Nat.reduceLT,reduceCtorEq,Nat.reduceEqDiff,Nat.reduceBEq,Nat.reduceAdd,Nat.reduceLeDiff,ax aa,aj aa,ap aa,am ab ai,hr,fn,f0,f1,f4,f6,f7,fb,g1,Int.natCast_nonneg,Int.toNat_natCast,e45,w1,w3,u1,dB,dN,b1,b2,hsub,Tok.cells,cr]
    ·simp only[go_sem,Nat.reduceLT,reduceCtorEq,Nat.reduceEqDiff,Nat.reduceBEq,Nat.reduceAdd,Nat.reduceLeDiff,ax aa,aj aa,ap aa,am ab ai,hr,fn,f0,f1,f4,f6,f7,fb,g1,Int.natCast_nonneg,Int.toNat_natCast,e45,w1,w3,u1,u2,u3,dB,dN,b1,b2,hsub,Tok.cells,cr]
 ·simp only[if_true] at hj ⊢
  subst hj
  simp only[go_sem,Nat.reduceLT,reduceCtorEq,Nat.reduceEqDiff,Nat.reduceBEq,Nat.reduceAdd,Nat.reduceSub,Nat.reduceLeDiff,ax aa,g1,Int.natCast_nonneg,Int.toNat_natCast,e45,wi]
  rw[aO]
  simp only[go_sem,reduceCtorEq,Nat.reduceEqDiff,Nat.reduceSub,Nat.reduceLeDiff]
  erw [w]
  rcases hunit with ⟨u1,⟨d,u2,u3⟩,u4⟩|⟨u1,u4⟩
  ·rw[u4] at b1 b2 hsub ⊢
   simp only[go_sem,Nat.reduceLT,reduceCtorEq,Nat.reduceEqDiff,Nat.reduceBEq,Nat.reduceAdd,Nat.reduceLeDiff,ax aa,aj aa,ap aa,am ab ai,hr,fn,f0,f1,f4,f6,f7,fb,g1,Int.natCast_nonneg,Int.toNat_natCast,e45,w1,w3,u1,u2,u3,b1,b2,hsub,Tok.cells,cr]
  ·cases hnb:Tk.cw (l.drop k)
   ·rw[hnb] at u4 dB
    simp only[Bool.false_eq_true,if_false] at u4
    rw[u4] at b1 b2 hsub ⊢
    simp only[Nat.add_zero] at b1 b2 hsub ⊢
    rcases u1 with u1|⟨u1,d,u2,u3⟩
    ·simp only[go_sem,Nat.reduceLT,reduceCtorEq,Nat.reduceEqDiff,Nat.reduceBEq,Nat.reduceAdd,Nat.reduceLeDiff,ax aa,aj aa,ap aa,am ab ai,hr,fn,f0,f1,f4,f6,f7,fb,g1,Int.natCast_nonneg,Int.toNat_natCast,e45,w1,w3,u1,dB,b1,b2,hsub,Tok.cells,cr]
    ·simp only[go_sem,Nat.reduceLT,reduceCtorEq,Nat.reduceEqDiff,Nat.reduceBEq,Nat.reduceAdd,Nat.reduceLeDiff,ax aa,aj aa,ap aa,am ab ai,hr,fn,f0,f1,f4,f6,f7,fb,g1,Int.natCast_nonneg,Int.toNat_natCast,e45,w1,w3,u1,u2,u3,dB,b1,b2,hsub,Tok.cells,cr]
   ·rw[hnb] at u4 dB
    simp only[if_true] at u4
    rw[←u4] at dN
    rcases u1 with u1|⟨u1,d,u2,u3⟩
    ·simp only[go_sem,Nat.reduceLT,reduceCtorEq,Nat.reduceEqDiff,Nat.reduceBEq,Nat.reduceAdd,Nat.reduceLeDiff,ax aa,aj aa,ap aa,am ab ai,hr,fn,f0,f1,f4,f6,f7,fb,g1,Int.natCast_nonneg,Int.toNat_natCast,e45,w1,w3,u1,dB,dN,b1,b2,hsub,Tok.cells,cr]
    ·simp only[go_sem,Nat.reduceLT,reduceCtorEq,Nat.reduceEqDiff,Nat.reduceBEq,Nat.reduceAdd,Nat.reduceLeDiff,ax aa,aj aa,ap aa,am ab ai,hr,fn,f0,f1,f4,f6,f7,fb,g1,Int.natCast_nonneg,Int.toNat_natCast,e45,w1,w3,u1,u2,u3,dB,dN,b1,b2,hsub,Tok.cells,cr]
attribute [local go_sem] j6
theorem fk {u:Nat} (h:u<10):Lib.decDigits u=[UInt8.ofNat (48+u)]:=by rw[Lib.decDigits,dif_pos h]
theorem ji {u:Nat} (h : ¬ u<10):Lib.decDigits u=Lib.decDigits (u / 10)++[UInt8.ofNat (48+u % 10)]:=by rw[Lib.decDigits,dif_neg h]
theorem rr (u:Nat):(u:Int).tdiv 10=((u / 10:Nat):Int):=rfl
theorem vY (u:Nat):(u:Int).tmod 10=((u % 10:Nat):Int):=rfl
theorem nn:((10:Int)=0)=False:=by simp
theorem sl0:(0+1<ak)=True:=by simp[ak]
theorem sl1:(1+1<ak)=True:=by simp[ak]
theorem yk {n:Int} (h:n<0):Lib.itoa n=45::Lib.decDigits n.natAbs:=by unfold Lib.itoa;rw[if_pos h]
theorem jY {n:Int} (h:0≤n):Lib.itoa n=Lib.decDigits n.toNat:=by unfold Lib.itoa;rw[if_neg (by omega)]
set_option maxHeartbeats 4000000 in
theorem m0 : ∀ (k:Nat) (n:Int),n.natAbs≤k→I64 n→den K 27 [I n] []=some (.ret (T (Lib.itoa n)) []):=by
 intro k
 induction k with
 | zero =>
  intro n hk hn
  have:n=0:=by omega
  subst this
  refine ae rfl rfl Tryz.func27 rfl Tryz.ntmps27 ⟨by simp,by simp[LK]⟩ ?_
  have hr:Tryz.f27.results = #[.tmp 2]:=rfl
  have e:Lib.itoa 0=[48]:=by rw[jY (by omega)];exact fk (by omega)
  rw[e]
  have w1:IntKind.i64.wrap 48=48:=by decide
  have w2:IntKind.u8.wrap 48=48:=by decide
  simp[go_sem,Nat.reduceLT,reduceCtorEq,Nat.reduceEqDiff,Nat.reduceBEq,cE cf cM,ay (len:=1) cy gn dT ⟨rfl,by decide,by decide⟩,dK cy aa,bytesOf,nn,w1,w2]
 | succ k ih =>
  intro n hk hn
  have hr:Tryz.f27.results = #[.tmp 2]:=rfl
  have hlen:=xI hn
  by_cases hneg:n<0
  ·have hl:decide (n<0)=true:=decide_eq_true hneg
   have hq:n.tdiv 10 = -(((n.natAbs / 10:Nat)):Int):=by
    obtain ⟨u,rfl⟩ : ∃ u:Nat,n = -(u:Int):=⟨n.natAbs,by omega⟩
    rw[Int.neg_tdiv,rr];simp only[Int.natAbs_neg,Int.natAbs_natCast]
   have hm:n.tmod 10 = -(((n.natAbs % 10:Nat)):Int):=by
    obtain ⟨u,rfl⟩ : ∃ u:Nat,n = -(u:Int):=⟨n.natAbs,by omega⟩
    rw[Int.neg_tmod,vY];simp only[Int.natAbs_neg,Int.natAbs_natCast]
   have w1:IntKind.i64.wrap (n.tdiv 10)=n.tdiv 10:=IntWalk.i64_in _ (by have:=hn.1;have:=hn.2;omega)
   have w3:IntKind.i64.wrap (48 - n.tmod 10)=((48+n.natAbs % 10:Nat):Int):=by rw[IntWalk.i64_in _ (by omega),hm];omega
   have w4:IntKind.u8.wrap ((48+n.natAbs % 10:Nat):Int)=((48+n.natAbs % 10:Nat):Int):=IntWalk.u8_in _ (by omega)
   rw[yk hneg] at hlen ⊢
   by_cases hs:n.natAbs<10
   ·have hq0:decide (n.tdiv 10<0)=false:=decide_eq_false (by omega)
    rw[fk hs]
    have hmm:n.natAbs % 10=n.natAbs:=Nat.mod_eq_of_lt hs
    rw[hmm] at w3 w4
    refine ae rfl rfl Tryz.func27 rfl Tryz.ntmps27 ⟨by simp,by simp[LK]⟩ ?_
    simp only[go_sem,Nat.reduceLT,reduceCtorEq,Nat.reduceEqDiff,Nat.reduceBEq,Nat.reduceAdd,Nat.reduceMul,cE cf cM,ay (len:=1) cy gn dT ⟨rfl,by decide,by decide⟩,dK cy aa,hr,bytesOf,nn,Int.toNat_natCast,sl0,sl1,hl,hq0,w1,w3,w4]
   ·have hq1:decide (n.tdiv 10<0)=true:=decide_eq_true (by omega)
    have w2:IntKind.i64.wrap (0 - n.tdiv 10)=((n.natAbs / 10:Nat):Int):=by rw[IntWalk.i64_in _ (by have:=hn.1;have:=hn.2;omega)];omega
    have hc:=ih ((n.natAbs / 10:Nat):Int) (by omega) ⟨by omega,by have:=hn.1;have:=hn.2;omega⟩
    rw[jY (by omega),Int.toNat_natCast] at hc
    rw[ji hs] at hlen ⊢
    have s1:1+(Lib.decDigits (n.natAbs / 10)).length<ak:=by simp at hlen;simp[ak];omega
    have s2:(Lib.decDigits (n.natAbs / 10)).length+1+1<ak:=by simp at hlen;simp[ak];omega
    refine ae rfl rfl Tryz.func27 rfl Tryz.ntmps27 ⟨by simp,by simp[LK]⟩ ?_
    simp only[go_sem,Nat.reduceLT,reduceCtorEq,Nat.reduceEqDiff,Nat.reduceBEq,Nat.reduceAdd,Nat.reduceMul,cE cf cM,ay (len:=1) cy gn dT ⟨rfl,by decide,by decide⟩,dK cy aa,hr,bytesOf,nn,Int.toNat_natCast,hl,hq1,w1,w2,w3,w4,hc,s1,s2]
  ·have hl:decide (n<0)=false:=decide_eq_false hneg
   obtain ⟨u,rfl⟩ : ∃ u:Nat,n=u:=⟨n.toNat,by omega⟩
   have hm:(u:Int).tmod 10=((u % 10:Nat):Int):=rfl
   have w3:IntKind.i64.wrap (48+(u:Int).tmod 10)=((48+u % 10:Nat):Int):=by rw[hm,IntWalk.i64_in _ (by omega)];omega
   have w4:IntKind.u8.wrap ((48+u % 10:Nat):Int)=((48+u % 10:Nat):Int):=IntWalk.u8_in _ (by omega)
   rw[jY (by omega),Int.toNat_natCast] at hlen ⊢
   by_cases hs:u<10
   ·have hg:decide ((10:Int)≤(u:Int))=false:=decide_eq_false (by omega)
    rw[fk hs]
    have hmm:u % 10=u:=Nat.mod_eq_of_lt hs
    rw[hmm] at w3 w4
    refine ae rfl rfl Tryz.func27 rfl Tryz.ntmps27 ⟨by simp,by simp[LK]⟩ ?_
    simp only[go_sem,Nat.reduceLT,reduceCtorEq,Nat.reduceEqDiff,Nat.reduceBEq,Nat.reduceAdd,Nat.reduceMul,cE cf cM,ay (len:=1) cy gn dT ⟨rfl,by decide,by decide⟩,dK cy aa,hr,bytesOf,nn,Int.toNat_natCast,hl,hg,w3,w4]
   ·have hg:decide ((10:Int)≤(u:Int))=true:=decide_eq_true (by omega)
    have w1:IntKind.i64.wrap ((u:Int).tdiv 10)=((u / 10:Nat):Int):=by rw[rr,IntWalk.i64_in _ (by have:=hn.2;omega)]
    have hc:=ih ((u / 10:Nat):Int) (by omega) ⟨by omega,by have:=hn.2;omega⟩
    rw[jY (by omega),Int.toNat_natCast] at hc
    rw[ji hs] at hlen ⊢
    have s1:(Lib.decDigits (u / 10)).length+1<ak:=by simp at hlen;simp[ak];omega
    refine ae rfl rfl Tryz.func27 rfl Tryz.ntmps27 ⟨by simp,by simp[LK]⟩ ?_
    simp only[go_sem,Nat.reduceLT,reduceCtorEq,Nat.reduceEqDiff,Nat.reduceBEq,Nat.reduceAdd,Nat.reduceMul,cE cf cM,ay (len:=1) cy gn dT ⟨rfl,by decide,by decide⟩,dK cy aa,hr,bytesOf,nn,Int.toNat_natCast,hl,hg,w1,w3,w4,hc,s1]
end Go.Abs
