/-
  WHAT THE FUNCTIONS COMPUTE, layer 4, the document's reader of selectors: a simple selector, by recursion.
  (And 6 texts more.)
-/
import Derived.Test.YtlomcifkckgneaaGreatDoorRt13
set_option maxHeartbeats 8000000
open Nat (reduceEqDiff reduceAdd reduceLT reduceLeDiff reduceSub)
set_option linter.unusedSimpArgs false
set_option linter.unusedVariables false
namespace Go.Abs
open Go Go.Proofs
set_option maxRecDepth 10000
attribute [local go_sem] c7 bF cD bW bZ db cJ cE a7 ck ce cF c8 bS opd avOf cvOf St.degAt St.put okPV d6 okAV du dv dt cU aM if_true Bool.false_eq_true if_false Option.map_some Option.map_none Option.bind_some Option.bind_none dY dV upd List.toList_toArray cR steal bz mvB dE cV cT AV.deg CV.deg AV.gv AV.isIter cN cI bU List.length_nil List.length_cons List.filterMap_cons List.filterMap_nil beq_iff_eq List.getElem?_cons_zero List.getElem?_cons_succ Option.getD_some d8 eV Bool.false_and Bool.and_false Bool.and_self K_P fq co cO bw lend back idx dedup AV.ren CV.ren TV.ren AV.ptrs CV.ptrs cX AV.flat CV.flat cz cg bc c9 dk eo cj aY cm bt bH cf br eF CV.pv? content bA ownT bd reps pvs chunks cd leave eB cK dr bT bv TV.deg TV.av LK CV.plain CV.noBld c5 eA bound List.map_cons List.map_nil List.all_cons List.all_nil List.any_cons List.any_nil List.contains_cons List.contains_nil List.elem_cons List.elem_nil List.cons_append List.nil_append List.append_nil List.flatMap_cons List.flatMap_nil List.zip_cons_cons List.zip_nil_left List.zip_nil_right List.take_succ_cons List.take_zero List.take_nil List.drop_succ_cons List.drop_zero List.drop_nil List.isEmpty_nil List.isEmpty_cons Bool.and_true Bool.true_and Bool.or_true Bool.true_or Bool.or_false Bool.false_or Bool.not_true Bool.not_false Nat.add_zero Nat.zero_add Option.isNone_none Option.isNone_some Option.getD_none true_and and_true not_true_eq_false not_false_eq_true decide_true decide_false Nat.le_refl and_self Bool.not_eq_true Nat.sub_self or_true true_or Option.some.injEq List.length_map List.nil_eq and_false false_and AV.live CV.live CV.liveIn dU bg Option.orElse_some Option.orElse_none head bm bh Int.lt_irrefl List.length_append ite_self dZ cA dc bC Key.clash Key.sees Key.writes Nat.lt_irrefl gt_iff_lt cH dH false_or or_false beq_self_eq_true Bool.true_beq Bool.false_beq
theorem zG (g:List Val→Option (Sim×List Val)) (l:List Val) (i:Nat) (first:Bool) (hl:l.length≤100000000) (hsz:Ne.size l≤100000000) (hg:∀ t c,Val.mk 5 t c∈l.drop i→pV g c) (hf:Front l i first) :
  iE (hU g (l.drop i)) first l i:=by
 cases h4:Sl.tokK 4 (l.drop i) with
 | some t =>
  have e:hU g (l.drop i)=some (.mk 3 t.text [] 0 0 [],(l.drop i).tail):=by unfold hU;rw[h4]
  rw[e];obtain⟨a,b⟩:=yH l i first hl hf t h4
  exact⟨i+1,by rw[List.tail_drop],by omega,by omega,a⟩
 | none =>
 cases h5:Sl.sign [46] (l.drop i) with
 | some r =>
  have e:hU g (l.drop i)=(Sl.name r).map fun x=>(.mk 4 x.1 [] 0 0 [],x.2):=by unfold hU;rw[h4,h5]
  rw[e];cases hn:Sl.name r with
  | none=>exact⟨_,_,yk l i first hl hf h4 r h5 hn⟩
  | some y =>
   obtain⟨s,r2⟩:=y;obtain⟨a,b,c⟩:=Bg l i first hl hf h4 r h5 s r2 hn
   exact⟨i+2,b,by omega,by omega,a⟩
 | none =>
 cases h6:Sl.sign [58] (l.drop i) with
 | some r =>
  have e:hU g (l.drop i)=Sl.colon g r:=by unfold hU;rw[h4,h5,h6]
  rw[e];obtain⟨sa,sd,si⟩:=gJ l i false [58] hl r h6;have hc:=DK g l (i+1) hl hsz fun t c hm=>hg t c (by
   obtain⟨v,hv,_⟩:=Sl.nx h6;rw[hv,List.mem_cons];rw[sd] at hm;exact .inr hm)
  unfold kY at hc;rw[sd] at hc;unfold iE;cases hr:Sl.colon g r with
  | none =>
   rw[hr] at hc;obtain⟨x,j,hc⟩:=hc;exact⟨x,j,o6 l i first hl hf h4 h5 r h6 x j true hc⟩
  | some y =>
   obtain⟨x,r2⟩:=y;rw[hr] at hc;obtain⟨j,j1,j2,j3,hc⟩:=hc;exact⟨j,j1,by omega,j3,o6 l i first hl hf h4 h5 r h6 x j false hc⟩
 | none =>
 cases hv:Sl.eP 3 (l.drop i) with
 | none =>
  have e:hU g (l.drop i)=none:=by unfold hU;rw[h4,h5,h6,hv]
  rw[e];obtain⟨x,h⟩:=Ad l i first hl hf h4 h5 h6 hv
  exact⟨x,i,h⟩
 | some y =>
  obtain⟨⟨t,c⟩,r⟩:=y;have e:hU g (l.drop i)=(Sl.attr c).map fun y=>(y,r):=by unfold hU;rw[h4,h5,h6,hv]
  rw[e];obtain⟨va,vd,vm⟩:=pU l i false 3 hl t c r hv;have hi:i<l.length:=(List.getElem?_eq_some_iff.1 vm).1
  have hc:c.length≤100000000:=Nat.le_trans (Nat.le_trans (Ne.bM c) (Nat.le_of_lt (ov vm))) hsz
  obtain⟨x,ok,ha,hx⟩:=Ho c hc;have hd:=yg l i first hl hf h4 h5 h6 t c r hv x ok ha
  cases hm:Sl.attr c with
  | none =>
   rw[hm] at hx;subst hx;exact⟨x,i+1,hd⟩
  | some y =>
   rw[hm] at hx;obtain⟨rfl,rfl⟩:=hx;exact⟨i+1,vd,by omega,by omega,hd⟩
theorem mX (g:List Val→Option (Sim×List Val)) (l:List Val) (i:Nat) (first:Bool) (hl:l.length≤100000000) (hsz:Ne.size l≤100000000) (hts:TSh l) (hg:∀ t c,Val.mk 5 t c∈l.drop i→pV g c) :
  iE (gm g first (l.drop i)) first l i:=by
 cases first with
 | false =>
  rw[pi];exact zG g l i false hl hsz hg (.inl rfl)
 | true =>
  cases h1:Sl.tokK 1 (l.drop i) with
  | some t =>
   have e:gm g true (l.drop i)=some (.mk 2 (Sl.low t.text) [] 0 0 [],(l.drop i).tail):=by
    unfold gm;simp only[h1,if_true]
   rw[e];obtain⟨c,m,hm,hk⟩:=Sl.tQ h1;have ht:t.text.length<1000000000:=Bw (t:=t) (c:=c) (l:=m) (by rw[←hm];exact Ki hts i)
   obtain⟨a,b,d⟩:=Ar l i hl t h1 ht;exact⟨i+1,b,by omega,by omega,a⟩
  | none =>
   cases h2:Sl.sign [42] (l.drop i) with
   | some r =>
    have e:gm g true (l.drop i)=some (.mk 1 [] [] 0 0 [],r):=by
     unfold gm;simp only[h1,h2,if_true]
    rw[e];obtain⟨a,b,d⟩:=BV l i hl h1 r h2;exact⟨i+1,b,by omega,by omega,a⟩
   | none =>
    rw[qw g _ h1 h2];exact zG g l i true hl hsz hg (.inr ⟨h1,h2⟩)
theorem s8:∀ (f:Nat) (l:List Val) (i:Nat) (first:Bool),Ne.size l≤100000000→TSh l→(∀ t c,Val.mk 5 t c∈l.drop i→Ne.size c<f+1) →
  iE (Sl.simple (f+1) first (l.drop i)) first l i
 | 0,l,i,first,hsz,hts,hc=>by
  rw[oh];refine mX _ l i first (Nat.le_trans (Ne.bM l) hsz) hsz hts fun t c hm => ?_
  have h0:=hc t c hm
  have hl0:=Ne.bM c
  have:c=[]:=List.eq_nil_of_length_eq_zero (by omega)
  subst this;refine Cw _ [] (by simp) ?_
  have:=mX (fun _=>none) [] 0 true (by simp) (by rw[Ne.size];omega) (fun t ht=>by rw[Sl.th] at ht;cases ht) (fun t c hm=>by cases hm)
  exact this
 | f+1,l,i,first,hsz,hts,hc=>by
  rw[oh];refine mX _ l i first (Nat.le_trans (Ne.bM l) hsz) hsz hts fun t c hm => ?_
  obtain⟨j,hj⟩:=List.getElem?_of_mem (List.mem_of_mem_drop hm)
  have h1:=ov hj
  have h2:=iw c
  have h3:=hc t c hm
  refine Cw _ c (Nat.le_trans (Ne.bM c) (by omega)) ?_
  have:=s8 f (Sl.trim c) 0 true (by omega) (kF (KT hts hj)) (fun t' c' hm'=>by
   obtain⟨j',hj'⟩:=List.getElem?_of_mem hm'
   have:=ov hj'
   rw[List.drop_zero] at this
   omega)
  rw[List.drop_zero] at this
  exact this
theorem Ae (l:List Val) (i:Nat) (first:Bool) (hsz:Ne.size l≤100000000) (hts:TSh l) (hi:i<l.length):iE (Sl.simple (Ne.size (l.drop i)) first (l.drop i)) first l i:=by
 have hp:1≤Ne.size (l.drop i):=by
  have:=Ne.bM (l.drop i)
  rw[List.length_drop] at this
  omega
 obtain⟨f,hf⟩:∃ f,Ne.size (l.drop i)=f+1:=⟨Ne.size (l.drop i) - 1,by omega⟩
 rw[hf];refine s8 f l i first hsz hts fun t c hm => ?_
 obtain⟨j,hj⟩:=List.getElem?_of_mem hm
 have:=ov hj
 omega
def PEnd (res:Option (List Sim×List Val)) (l:List Val) (i:Nat) (cb:Int) (acc:List Sim) (S:St):Prop :=
 match res with
 | some (qs,r)=>∃ (j e:Nat),l.drop j=r∧i≤j∧j≤l.length∧(Sl.over r||Sl.double r)=true∧S.bx 10=some (rb0 l j false)∧S.bx 7=some (pcell cb e (acc++qs))∧(e=52∨acc++qs=[])
 | none=>∃ (j e:Nat) (acc':List Sim),S.bx 10=some (rb0 l j true)∧S.bx 7=some (pcell cb e acc')∧(e=52∨acc'=[])∧acc'.length≤100000001
theorem uB (l:List Val) (cb:Int) (e5:Nat) (ps:List (List PV)) (hsz:Ne.size l≤100000000) (hts:TSh l):∀ (f:Nat) (i e:Nat) (acc:List Sim) (first:Bool),(l.drop i).length<f→i≤l.length→((acc.length:Int)==0)=first→acc.length≤i→(e=52∨acc=[]) →
  Ends (exL K 48 palp (iO l i false cb e acc e5 ps)) fun o S=>o=.exit 2∧PKept S e5 ps∧PEnd (Sl.part f first (l.drop i)) l i cb acc S
 | 0,i,e,acc,first,hf,_,_,_,_=>absurd hf (by omega)
 | f+1,i,e,acc,first,hf,hi,hfi,ha,he=>by
  have hl:l.length≤100000000:=Nat.le_trans (Ne.bM l) hsz
  cases ho:Sl.over (l.drop i) with
  | true =>
   have hp:Sl.part (f+1) first (l.drop i)=some ([],l.drop i):=by rw[Sl.part,ho];rfl
   rw[hp];refine bu (Ey l i cb e acc e5 ps hl ho) fun o S q=>⟨q.1,q.2.1,i,e,rfl,Nat.le_refl _,hi,by rw[ho];rfl,q.2.2.1,?_,?_⟩
   ·rw[List.append_nil];exact q.2.2.2
   ·rw[List.append_nil];exact he
  | false =>
   cases hd:Sl.double (l.drop i) with
   | true =>
    have hp:Sl.part (f+1) first (l.drop i)=some ([],l.drop i):=by rw[Sl.part,ho,hd];rfl
    rw[hp];refine bu (xZ l i cb e acc e5 ps hl hi ho hd) fun o S q=>⟨q.1,q.2.1,i,e,rfl,Nat.le_refl _,hi,by rw[ho,hd];rfl,q.2.2.1,?_,?_⟩
    ·rw[List.append_nil];exact q.2.2.2
    ·rw[List.append_nil];exact he
   | false =>
    have hil:i<l.length:=by
     rcases Nat.lt_or_ge i l.length with h|h
     ·exact h
     ·rw[List.drop_eq_nil_iff.2 h] at ho;cases ho
    have hs:=Ae l i first hsz hts hil
    have hp:Sl.part (f+1) first (l.drop i)=match Sl.simple (Ne.size (l.drop i)) first (l.drop i) with
     | none=>none
     | some (x,r)=>(Sl.part f false r).map fun y=>(x::y.1,y.2):=by rw[Sl.part,ho,hd];rfl
    rw[hp];unfold iE SRes at hs;cases hr:Sl.simple (Ne.size (l.drop i)) first (l.drop i) with
    | none =>
     rw[hr] at hs;obtain⟨x,j,hs⟩:=hs;rw[uR l i cb e acc e5 ps hl hi ho hd (by omega) he first hfi x j true hs]
     refine bu (Iw l j cb 52 (acc++[x]) e5 ps) fun o S q=>⟨q.1,q.2.1,j,52,acc++[x],q.2.2.1,q.2.2.2,.inl rfl,?_⟩
     rw[List.length_append,List.length_singleton];omega
    | some y =>
     obtain⟨x,r⟩:=y;rw[hr] at hs;obtain⟨j,j1,j2,j3,hs⟩:=hs;subst j1;rw[uR l i cb e acc e5 ps hl hi ho hd (by omega) he first hfi x j false hs]
     have hlen:(acc++[x]).length=acc.length+1:=by rw[List.length_append,List.length_singleton]
     have hfl:(l.drop j).length<f:=by rw[List.length_drop] at hf ⊢;omega
     refine bu (uB l cb e5 ps hsz hts f j 52 (acc++[x]) false hfl j3 (by rw[hlen,beq_eq_false_iff_ne];omega) (by omega) (.inl rfl)) fun o S q=>⟨q.1,q.2.1,?_⟩
     have q3:=q.2.2
     show PEnd ((Sl.part f false (l.drop j)).map fun y=>(x::y.1,y.2)) l i cb acc S
     cases hpp:Sl.part f false (l.drop j) with
     | none =>
      rw[hpp] at q3
      exact q3
     | some z =>
      obtain⟨qs,r⟩:=z;rw[hpp] at q3
      obtain⟨j',e',k1,k2,k3,k4,k5,k6,k7⟩:=q3;rw[List.append_assoc,List.singleton_append] at k6 k7
      exact⟨j',e',k1,by omega,k3,k4,k5,k6,k7⟩
attribute [local go_sem] a6 fG vA gK
theorem uy {l:List Val} {j:Nat} (h:Sl.double (l.drop j)=true):j<l.length:=by
 rcases Nat.lt_or_ge j l.length with h'|h'
 ·exact h'
 ·rw[List.drop_eq_nil_iff.2 h'] at h;cases h
theorem y4 (l:List Val) (hsz:Ne.size l≤100000000) (hts:TSh l):∀ (n:Nat) (i:Nat) (cb:Int) (e:Nat) (ps:List Prt),ps.length+n=16→i≤l.length→(e=50∨ps=[]) →
  Ends (exL K 48 cxlp (cx4H l i cb e ps)) fun o S=>match Sl.cpx n cb (l.drop i) with
   | some c=>CYes (ps++c.parts) c.pseudo o S
   | none=>CNo o S∨(o=.exit 0∧S.nt=141∧S.sl 2=.c (.loc 2 0)∧S.bx 2=some zcpx)
 | 0,i,cb,e,ps,h,hi,he=>by
  refine bu (Hw l i cb e ps (by omega)) fun o S q=>.inr q
 | n+1,i,cb,e,ps,h,hi,he=>by
  have hl:l.length≤100000000:=Nat.le_trans (Ne.bM l) hsz
  have hp:=uB l cb e (encQ ps) hsz hts ((l.drop i).length+1) i 0 [] true (by omega) hi rfl (Nat.zero_le _) (.inr rfl)
  obtain⟨o,S,w,rfl,hk,hend⟩:=hp;rw[Sl.cpx];unfold PEnd at hend;cases hpt:Sl.part ((l.drop i).length+1) true (l.drop i) with
  | none =>
   rw[hpt] at hend;obtain⟨j,e7,acc,gb10,gb7,_,_⟩:=hend;exact bu (Kt l i cb e ps hl (by omega) he S w hk j e7 acc gb10 gb7) fun o S q=>.inl q
  | some y =>
   obtain⟨acc,r⟩:=y;rw[hpt] at hend;obtain⟨j,e7,j1,j2,j3,hod,gb10,gb7,he7⟩:=hend;rw[List.nil_append] at gb7 he7
   subst j1;simp only;cases hd:Sl.double (l.drop j) with
   | true =>
    rw[if_pos rfl,List.drop_drop];cases hn:Sl.name (l.drop (j+2)) with
    | none =>
     simp only;exact bu (Ev l i cb e ps hl (by omega) he S w hk j e7 acc (uy hd) hd hn gb10 gb7) fun o S q=>.inl q
    | some z =>
     obtain⟨s,r⟩:=z;have hh:=BX l i cb e ps hl (by omega) he S w hk j e7 acc (uy hd) hd s r hn gb10 gb7
     cases r with
     | nil =>
      simp only;by_cases hc:(s=Sl.fg∨s=Sl.fZ)∧acc.length≤8
      ·rw[if_pos hc];rw[if_pos ⟨rfl,hc⟩] at hh;exact hh
      ·rw[if_neg hc];rw[if_neg (fun h=>hc h.2)] at hh
       exact bu hh fun o S q=>.inl q
     | cons v r =>
      simp only;rw[if_neg (fun h=>by cases h.1)] at hh
      exact bu hh fun o S q=>.inl q
   | false =>
    rw[if_neg (by simp)]
    by_cases hw:8<acc.length∨acc=[]
    ·rw[if_pos hw];exact bu (EC l i cb e ps hl (by omega) he S w hk j e7 acc j3 hd hw gb10 gb7) fun o S q=>.inl q
    ·rw[if_neg hw];have h8:acc.length≤8:=by
      rcases Nat.lt_or_ge 8 acc.length with h|h
      ·exact absurd (.inl h) hw
      ·exact h
     have hne:acc≠[]:=fun h=>hw (.inr h)
     by_cases hjl:j<l.length
     ·have hem:(l.drop j).isEmpty=false:=by
       cases hx:l.drop j with
       | nil=>have:=List.drop_eq_nil_iff.1 hx;omega
       | cons _ _=>rfl
      rw[hem,if_neg (by simp)]
      obtain⟨m,m1,m2,m3,hc⟩:=De l j false hl j3;rw[FZ l i cb e ps hl (by omega) he S w hk j e7 acc hjl hd h8 hne gb10 gb7 _ m hc,←m1]
      have ih:=y4 l hsz hts n m (Sl.comb (l.drop j)).1 50 (ps++[⟨cb,acc⟩]) (by rw[List.length_append,List.length_singleton];omega) m3 (.inl rfl)
      refine bu ih fun o S q => ?_
      cases hcx:Sl.cpx n (Sl.comb (l.drop j)).1 (l.drop m) with
      | none=>rw[hcx] at q;exact q
      | some c =>
       rw[hcx] at q
       simp only[Option.map_some];simp only at q
       rw[List.append_assoc,List.singleton_append] at q
       exact q
     ·have hje:j=l.length:=by omega
      subst hje;rw[List.drop_length,List.isEmpty_nil,if_pos rfl];exact GQ l i cb e ps hl (by omega) he S w hk e7 acc hd h8 hne gb10 gb7
def cpxA (x:Option Cpx):AV:=match x with
 | some c=>.tup [.agg [.pv (.sl (encQ c.parts)),.pv (.str c.pseudo)],.c (.pv (.bool true))]
 | none=>.tup [.agg [.nils,.pv (.str [])],.c (.pv (.bool false))]
theorem o2 (l:List Val) (hsz:Ne.size l≤100000000) (hts:TSh l):den K 48 [L (encL l)] []=some (.ret (cpxA (Sl.cpx 16 0 l)) []):=by
 have hr:Tryz.f48.results=#[.cell 2 47,.tmp 3]:=rfl
 have z0:((0:Nat):Int)=0:=rfl
 have h:=y4 l hsz hts 16 0 0 0 [] rfl (Nat.zero_le _) (.inr rfl)
 rw[List.drop_zero] at h;obtain⟨o,S,w,h⟩:=h;unfold cxlp at w
 conv at w in ap _ _=>whnf
 simp only[cx4H,rb0,z0] at w
 unfold cpxA;cases hx:Sl.cpx 16 0 l with
 | some c =>
  rw[hx] at h;obtain⟨rfl,s2,s3,b2⟩:=h;rw[List.nil_append] at b2
  refine ah rfl rfl Tryz.func48 rfl Tryz.ntmps48 ⟨by simp,by simp[LK]⟩ ?_
  simp only[go_sem,reduceLT,reduceCtorEq,reduceEqDiff,Nat.reduceBEq,reduceAdd,reduceSub,reduceLeDiff,ab aI aN,ab a6 cG];rw[au];simp only[go_sem,reduceEqDiff,Nat.reduceBEq,reduceSub,reduceLeDiff];erw [w];simp only[go_sem,reduceAdd,hr,s2,s3,b2]
 | none =>
  rw[hx] at h;rcases h with⟨rfl,s2,s3,b2⟩|⟨rfl,hn,s2,b2⟩
  ·refine ah rfl rfl Tryz.func48 rfl Tryz.ntmps48 ⟨by simp,by simp[LK]⟩ ?_
   simp only[go_sem,reduceLT,reduceCtorEq,reduceEqDiff,Nat.reduceBEq,reduceAdd,reduceSub,reduceLeDiff,ab aI aN,ab a6 cG];rw[au];simp only[go_sem,reduceEqDiff,Nat.reduceBEq,reduceSub,reduceLeDiff];erw [w];simp only[go_sem,reduceAdd,hr,s2,s3,b2]
  ·refine ah rfl rfl Tryz.func48 rfl Tryz.ntmps48 ⟨by simp,by simp[LK]⟩ ?_
   simp only[go_sem,reduceLT,reduceCtorEq,reduceEqDiff,Nat.reduceBEq,reduceAdd,reduceSub,reduceLeDiff,ab aI aN,ab a6 cG];rw[au];simp only[go_sem,reduceEqDiff,Nat.reduceBEq,reduceSub,reduceLeDiff];erw [w];simp only[go_sem,reduceLT,reduceEqDiff,Nat.reduceBEq,reduceAdd,ab a6 cG,hr,hn,s2,b2]
attribute [local go_sem] Ij xV Bm BO
def fw (c:UInt8):Int:=if Tk.begins c then 1 else if Tk.digit c then 2 else if c==45 then 3 else if Tk.blank c then 4 else 0
def isI (v:Int):Option Res→Bool
 | some (.ret (.c (.pv (.int .i64 n))) [])=>n==v
 | _=>false
theorem JK {v:Int} {r:Option Res} (h:isI v r=true):r=some (.ret (I v) []):=by
 unfold isI at h;split at h
 ·rename_i n;have:n=v:=by simpa using h
  rw[this]
 ·cases h
theorem Fl:(List.range 256).all (fun n=>isI (fw (UInt8.ofNat n)) (eC K 5 157 [.c (.pv (.int .u8 (n:Nat)))] []))=true:=by kernel_rfl
theorem Ed (c:UInt8):den K 157 [U c] []=some (.ret (I (fw c)) []):=by
 have h:=List.all_eq_true.1 Fl c.toNat (List.mem_range.2 c.toNat_lt)
 have h2:=JK h
 rw[UInt8.ofNat_toNat] at h2;exact nu.2 ⟨5,h2⟩
theorem q9:(List.range 256).all (fun n=>let c:=UInt8.ofNat n;((fw c==1)==Tk.begins c)&&((fw c==2)==Tk.digit c)&&((fw c==3)==(c==45))&&((fw c==4)==Tk.blank c)&&((decide (1≤fw c)&&decide (fw c≤3))==Tk.within c))=true:=by kernel_rfl
theorem jt (c:UInt8):(fw c==1)=Tk.begins c∧(fw c==2)=Tk.digit c∧(fw c==3)=(c==45)∧(fw c==4)=Tk.blank c∧(decide (1≤fw c)&&decide (fw c≤3))=Tk.within c:=by
 have h:=List.all_eq_true.1 q9 c.toNat (List.mem_range.2 c.toNat_lt)
 simp only[UInt8.ofNat_toNat,Bool.and_eq_true,beq_iff_eq] at h;obtain⟨⟨⟨⟨h1,h2⟩,h3⟩,h4⟩,h5⟩:=h;exact⟨h1,h2,h3,h4,h5⟩
def atC:List UInt8→Int
 | [] => -1
 | c::_=>fw c
theorem pL (l:List UInt8):(atC l==1)=Tk.begins (Tk.at0 l)∧(atC l==2)=Tk.digit (Tk.at0 l)∧(atC l==3)=(Tk.at0 l==45)∧(atC l==4)=Tk.blank (Tk.at0 l)∧(decide (1≤atC l)&&decide (atC l≤3))=Tk.within (Tk.at0 l):=by
 cases l with
 | nil=>decide
 | cons c r=>exact jt c
theorem gW (s:List UInt8) (i:Nat) (hs:s.length<4000000000):den K 116 [T s,I i] []=some (.ret (I (atC (s.drop i))) []):=by
 refine ah rfl rfl Tryz.func116 rfl Tryz.ntmps116 ⟨by simp,by simp[LK]⟩ ?_
 have hr:Tryz.f116.results=#[.tmp 4]:=rfl
 by_cases h:i<s.length
 ·have hlt:decide ((i:Int)<(s.length:Int))=true:=decide_eq_true (by omega)
  have hd:=List.drop_eq_getElem_cons h
  have hg:s[i]? = some (s[i]'h):=List.getElem?_eq_getElem h
  generalize s[i]'h=c at hd hg;rw[hd,atC];have hc:=Ed c
  simp only[go_sem,reduceLT,reduceCtorEq,reduceEqDiff,Nat.reduceBEq,reduceAdd,aA al,a8 al,hr,hlt,Int.natCast_nonneg,Int.toNat_natCast,hg,hc]
 ·have hlt:decide ((i:Int)<(s.length:Int))=false:=decide_eq_false (by omega)
  rw[List.drop_eq_nil_of_le (by omega),atC]
  simp only[go_sem,reduceLT,reduceCtorEq,reduceEqDiff,Nat.reduceBEq,reduceAdd,aA al,a8 al,hr,hlt]
theorem n8 (s:List UInt8) (i:Nat) (hs:s.length<4000000000) (hi:i≤s.length):den K 119 [T s,I i] []=some (.ret (B (Tk.gy (s.drop i))) []):=by
 have d1:=gW s i hs
 have d2:=gW s (i+1) hs
 obtain⟨f1,_,f3,_,_⟩:=pL (s.drop i);obtain⟨g1,_,g3,_,_⟩:=pL (s.drop (i+1));have ht:(s.drop i).tail=s.drop (i+1):=List.tail_drop
 unfold Tk.gy;rw[ht,←f1,←f3,←g1,←g3];generalize atC (s.drop i)=v at d1
 generalize atC (s.drop (i+1))=w at d2
 clear f1 f3 g1 g3 ht;refine ah rfl rfl Tryz.func119 rfl Tryz.ntmps119 ⟨by simp,by simp[LK]⟩ ?_
 have hr:Tryz.f119.results=#[.tmp 4]:=rfl
 cases b1:(v==1)
 ·cases b3:(v==3)
  ·simp only[go_sem,reduceLT,reduceCtorEq,reduceEqDiff,Nat.reduceBEq,reduceAdd,hr,d1,b1,b3]
  ·cases c1:(w==1)
   ·cases c3:(w==3)<;>simp only[go_sem,reduceLT,reduceCtorEq,reduceEqDiff,Nat.reduceBEq,reduceAdd,hr,d1,d2,b1,b3,c1,c3,bf i (by omega)]
   ·simp only[go_sem,reduceLT,reduceCtorEq,reduceEqDiff,Nat.reduceBEq,reduceAdd,hr,d1,d2,b1,b3,c1,bf i (by omega)]
 ·simp only[go_sem,reduceLT,reduceCtorEq,reduceEqDiff,Nat.reduceBEq,reduceAdd,hr,d1,b1]
abbrev L7 (s:List UInt8) (i:Nat):St := { sl:=upd (upd bot 1 (I i)) 0 (T s),bx:=nobox,nt:=18 }
theorem A6 (s:List UInt8) (hs:s.length<4000000000):∀ (rest:List UInt8) (i:Nat),s.drop i=rest→i≤s.length →
  Ends (exL K 118 (.loop (ap Tryz.f118 1)) (L7 s i)) fun o S=>o=.exit 0∧S.nt=18∧S.sl 1=I (i+Tk.run Tk.within rest:Nat):=by
 intro rest
 induction rest with
 | nil =>
  intro i hd hi;have d1:=gW s i hs
  rw[hd] at d1
  have v0:atC [] = -1:=rfl
  rw[v0] at d1
  have e0:decide ((1:Int) ≤ -1)=false:=by decide
  conv in ap _ _=>whnf
  rw[aq];simp only[go_sem,reduceLT,reduceCtorEq,reduceEqDiff,Nat.reduceBEq,reduceAdd,ar,d1,e0,Tk.rj]
 | cons c rest ih =>
  intro i hd hi;obtain⟨g1,g2,g3⟩:=bE hd;have d1:=gW s i hs
  rw[hd] at d1
  have v0:atC (c::rest)=fw c:=rfl
  rw[v0] at d1
  obtain⟨_,_,_,_,f⟩:=jt c;have ih':=ih (i+1) g2 (by omega)
  conv at ih' in ap _ _=>whnf
  conv in ap _ _=>whnf
  rw[aq];cases b1:decide (1≤fw c)
  ·rw[b1,Bool.false_and] at f
   have hv:Tk.run Tk.within (c::rest)=0:=by rw[Tk.run,←f];rfl
   simp only[go_sem,reduceLT,reduceCtorEq,reduceEqDiff,Nat.reduceBEq,reduceAdd,ar,d1,b1,hv]
  ·rw[b1,Bool.true_and] at f
   cases b2:decide (fw c≤3)
   ·rw[b2] at f
    have hv:Tk.run Tk.within (c::rest)=0:=by rw[Tk.run,←f];rfl
    simp only[go_sem,reduceLT,reduceCtorEq,reduceEqDiff,Nat.reduceBEq,reduceAdd,ar,d1,b1,b2,hv]
   ·rw[b2] at f
    have hv:i+1+Tk.run Tk.within rest=i+Tk.run Tk.within (c::rest):=by rw[Tk.run,if_pos f.symm];omega
    rw[hv] at ih';simp only[go_sem,reduceLT,reduceCtorEq,reduceEqDiff,Nat.reduceBEq,reduceAdd,d1,b1,b2,bf i (by omega)]
    rw[au];simp only[go_sem,reduceCtorEq,reduceEqDiff];exact ih'
theorem p9 (s:List UInt8) (i:Nat) (hs:s.length<4000000000) (hi:i≤s.length):den K 118 [T s,I i] []=some (.ret (I (i+Tk.run Tk.within (s.drop i):Nat)) []):=by
 refine ah rfl rfl Tryz.func118 rfl Tryz.ntmps118 ⟨by simp,by simp[LK]⟩ ?_
 have hr:Tryz.f118.results=#[.tmp 4]:=rfl
 have hl:=A6 s hs (s.drop i) i rfl hi
 conv at hl in ap _ _=>whnf
 obtain⟨o,S',w,rfl,hn,h1⟩:=hl;simp only[go_sem,reduceLT,Nat.reduceBEq];rw[au];simp only[go_sem,reduceCtorEq,reduceEqDiff];erw [w];simp only[go_sem,reduceLT,reduceEqDiff,Nat.reduceBEq,reduceAdd,hr,hn,h1]
abbrev comH (s:List UInt8) (k:Nat):St := { sl:=upd (upd bot 5 (I k)) 0 (T s),bx:=nobox,nt:=30 }
theorem Im (s:List UInt8) (hs:s.length<4000000000):∀ (rest:List UInt8) (k:Nat),s.drop k=rest→k≤s.length →
  Ends (exL K 115 (.loop (ap Tryz.f115 2)) (comH s k)) fun o S=>(∃ n,Tk.shut rest=some n∧o=.ret∧S.sl 4=I (k+n:Nat))∨(Tk.shut rest=none∧o=.exit 0∧S.nt=30∧S.sl 0=T s):=by
 intro rest
 induction rest with
 | nil =>
  intro k hd hk;have hin:k=s.length:=by
   have:=List.drop_eq_nil_iff.1 hd
   omega
  subst hin;have w1:=bf s.length (by omega)
  have e0:decide (((s.length+1:Nat):Int)<(s.length:Int))=false:=decide_eq_false (by omega)
  have hv:Tk.shut []=none:=rfl
  conv in ap _ _=>whnf
  rw[aq];simp only[go_sem,reduceLT,reduceCtorEq,reduceEqDiff,Nat.reduceBEq,reduceAdd,aA al,ar,w1,e0,hv]
 | cons c rest ih =>
  intro k hd hk;obtain⟨g1,g2,g3⟩:=bE hd;have w1:=bf k (by omega)
  have e42:((c.toNat:Int)==42)=(c==42):=eY c 42
  cases rest with
  | nil =>
   have hl:k+1=s.length:=by
    have:=List.drop_eq_nil_iff.1 g2
    omega
   have e0:decide (((k+1:Nat):Int)<(s.length:Int))=false:=decide_eq_false (by omega)
   have hv:Tk.shut [c]=none:=by
    rw[Tk.shut,if_neg (fun h=>absurd h.2 (by decide))];rfl
   conv in ap _ _=>whnf
   rw[aq];simp only[go_sem,reduceLT,reduceCtorEq,reduceEqDiff,Nat.reduceBEq,reduceAdd,aA al,ar,w1,e0,hv]
  | cons d rest =>
   obtain⟨k1,k2,k3⟩:=bE g2;have e0:decide (((k+1:Nat):Int)<(s.length:Int))=true:=decide_eq_true (by omega)
   have e47:((d.toNat:Int)==47)=(d==47):=eY d 47
   have w2:IntKind.i64.wrap ((k:Int)+2)=((k+2:Nat):Int):=by rw[IntWalk.i64_in _ (by omega)];rfl
   have ih':=ih (k+1) g2 (by omega)
   conv at ih' in ap _ _=>whnf
   conv in ap _ _=>whnf
   rw[aq];by_cases hc:c=42∧d=47
   ·have hv:Tk.shut (c::d::rest)=some 2:=by rw[Tk.shut,if_pos ⟨hc.1,hc.2⟩]
    have q1:(c==42)=true:=by simp[hc.1]
    have q2:(d==47)=true:=by simp[hc.2]
    rw[q1] at e42
    rw[q2] at e47
    simp only[go_sem,reduceLT,reduceCtorEq,reduceEqDiff,Nat.reduceBEq,reduceAdd,aA al,a8 al,ar,w1,w2,e0,hv,g1,k1,e42,e47,Int.natCast_nonneg,Int.toNat_natCast];simp
   ·have hv:Tk.shut (c::d::rest)=(Tk.shut (d::rest)).map (· + 1):=by rw[Tk.shut,if_neg (show ¬ (c=42∧Tk.at0 (d::rest)=47) from hc)]
    rw[hv];have fin:∀ {r:Option (Out×St)},Ends r (fun o S=>(∃ n,Tk.shut (d::rest)=some n∧o=.ret∧S.sl 4=I (k+1+n:Nat))∨(Tk.shut (d::rest)=none∧o=.exit 0∧S.nt=30∧S.sl 0=T s))→Ends r (fun o S=>(∃ n,(Tk.shut (d::rest)).map (· + 1)=some n∧o=.ret∧S.sl 4=I (k+n:Nat))∨((Tk.shut (d::rest)).map (· + 1)=none∧o=.exit 0∧S.nt=30∧S.sl 0=T s)):=by
     rintro r ⟨o,S,e,h⟩
     refine⟨o,S,e,?_⟩
     rcases h with⟨n,h1,h2,h3⟩|⟨h1,h2⟩
     ·left;exact⟨n+1,by rw[h1];rfl,h2,by rw[h3,show k+1+n=k+(n+1) by omega]⟩
     ·right;exact⟨by rw[h1];rfl,h2⟩
    refine fin ?_
    cases q1:(c==42)
    ·rw[q1] at e42
     simp only[go_sem,reduceLT,reduceCtorEq,reduceEqDiff,Nat.reduceBEq,reduceAdd,aA al,a8 al,w1,e0,g1,e42,Int.natCast_nonneg,Int.toNat_natCast];rw[au];simp only[go_sem,reduceCtorEq,reduceEqDiff];exact ih'
    ·rw[q1] at e42
     have q2:(d==47)=false:=by
      rw[beq_eq_false_iff_ne];intro h;exact hc ⟨by simpa using q1,h⟩
     rw[q2] at e47
     simp only[go_sem,reduceLT,reduceCtorEq,reduceEqDiff,Nat.reduceBEq,reduceAdd,aA al,a8 al,w1,e0,g1,k1,e42,e47,Int.natCast_nonneg,Int.toNat_natCast];rw[au];simp only[go_sem,reduceCtorEq,reduceEqDiff];exact ih'
theorem wo (s:List UInt8) (i:Nat) (hs:s.length<4000000000) (hi:i+2≤s.length):den K 115 [T s,I i] []=some (.ret (I (i+Tk.comment (s.drop (i+2)):Nat)) []):=by
 refine ah rfl rfl Tryz.func115 rfl Tryz.ntmps115 ⟨by simp,by simp[LK]⟩ ?_
 have hr:Tryz.f115.results=#[.tmp 4]:=rfl
 have w2:IntKind.i64.wrap ((i:Int)+2)=((i+2:Nat):Int):=by rw[IntWalk.i64_in _ (by omega)];rfl
 have hl:=Im s hs (s.drop (i+2)) (i+2) rfl hi
 conv at hl in ap _ _=>whnf
 obtain⟨o,S',w,h⟩:=hl;simp only[go_sem,reduceLT,reduceEqDiff,Nat.reduceBEq,reduceAdd,w2];rw[au];simp only[go_sem,reduceCtorEq,reduceEqDiff];erw [w];unfold Tk.comment;rcases h with⟨n,h1,rfl,h2⟩|⟨h1,rfl,h2,h3⟩
 ·rw[h1];have e:i+2+n=i+(n+2):=by omega
  rw[e] at h2;simp only[go_sem,hr,h2]
 ·rw[h1];have e:i+((s.drop (i+2)).length+2)=s.length:=by rw[List.length_drop];omega
  simp only[e];simp only[go_sem,reduceLT,reduceEqDiff,Nat.reduceBEq,reduceAdd,aA al,hr,h2,h3]
attribute [local go_sem] BZ AD ai bo y8 aZ xP
def BH (i:Nat) (c:UInt8) (r:List UInt8):Int:=match Tk.inner c r with|some n=>((i+1+n:Nat):Int)|none => -1
abbrev inH (s:List UInt8) (i k:Nat):St := { sl:=upd (upd (upd bot 5 (I k)) 1 (I i)) 0 (T s),bx:=nobox,nt:=38 }
theorem JV (s:List UInt8) (hs:s.length<4000000000) (i:Nat) (c:UInt8) (hi:s[i]? = some c):∀ (rest:List UInt8) (k:Nat),s.drop k=rest→k≤s.length →
  Ends (exL K 117 (.loop (ap Tryz.f117 2)) (inH s i k)) fun o S=>(∃ n,Tk.inner c rest=some n∧o=.ret∧S.sl 4=I (k+n:Nat))∨(Tk.inner c rest=none∧(o=.ret∧S.sl 4=I (-1)∨o=.exit 0∧S.nt=38)):=by
 intro rest
 induction rest with
 | nil =>
  intro k hd hk;have hin:k=s.length:=by
   have:=List.drop_eq_nil_iff.1 hd
   omega
  subst hin;have hv:Tk.inner c []=none:=rfl
  conv in ap _ _=>whnf
  rw[aq];simp only[go_sem,reduceLT,reduceCtorEq,reduceEqDiff,Nat.reduceBEq,reduceAdd,aA al,ar,hv]
 | cons d rest ih =>
  intro k hd hk;obtain⟨g1,g2,g3⟩:=bE hd;have hlt:decide ((k:Int)<(s.length:Int))=true:=decide_eq_true (by omega)
  have edc:((d.toNat:Int)==(c.toNat:Int))=(d==c):=eY d c
  have e10:((d.toNat:Int)==10)=(d==10):=eY d 10
  have e12:((d.toNat:Int)==12)=(d==12):=eY d 12
  have e13:((d.toNat:Int)==13)=(d==13):=eY d 13
  have ih':=ih (k+1) g2 (by omega)
  conv at ih' in ap _ _=>whnf
  conv in ap _ _=>whnf
  rw[aq];cases q:(d==c)
  ·rw[q] at edc
   have hdc:d≠c:=by simpa using q
   cases q10:(d==10)
   ·rw[q10] at e10
    cases q12:(d==12)
    ·rw[q12] at e12
     cases q13:(d==13)
     ·rw[q13] at e13
      have he:Tk.ending d=false:=by unfold Tk.ending;rw[q10,q12,q13];rfl
      have hv:Tk.inner c (d::rest)=(Tk.inner c rest).map (· + 1):=by rw[Tk.inner,if_neg hdc,if_neg (by simp[he])]
      rw[hv];have fin:∀ {r:Option (Out×St)},Ends r (fun o S=>(∃ n,Tk.inner c rest=some n∧o=.ret∧S.sl 4=I (k+1+n:Nat))∨(Tk.inner c rest=none∧(o=.ret∧S.sl 4=I (-1)∨o=.exit 0∧S.nt=38)))→Ends r (fun o S=>(∃ n,(Tk.inner c rest).map (· + 1)=some n∧o=.ret∧S.sl 4=I (k+n:Nat))∨((Tk.inner c rest).map (· + 1)=none∧(o=.ret∧S.sl 4=I (-1)∨o=.exit 0∧S.nt=38))):=by
       rintro r ⟨o,S,e,h⟩
       refine⟨o,S,e,?_⟩
       rcases h with⟨n,h1,h2,h3⟩|⟨h1,h2⟩
       ·left;exact⟨n+1,by rw[h1];rfl,h2,by rw[h3,show k+1+n=k+(n+1) by omega]⟩
       ·right;exact⟨by rw[h1];rfl,h2⟩
      refine fin ?_
      simp only[go_sem,reduceLT,reduceCtorEq,reduceEqDiff,Nat.reduceBEq,reduceAdd,aA al,a8 al,hlt,g1,hi,edc,e10,e12,e13,Int.natCast_nonneg,Int.toNat_natCast,bf k (by omega)]
      rw[au];simp only[go_sem,reduceCtorEq,reduceEqDiff];exact ih'
     ·rw[q13] at e13
      have he:Tk.ending d=true:=by unfold Tk.ending;rw[q13,Bool.or_true]
      have hv:Tk.inner c (d::rest)=none:=by rw[Tk.inner,if_neg hdc,if_pos he]
      simp only[go_sem,reduceLT,reduceCtorEq,reduceEqDiff,Nat.reduceBEq,reduceAdd,aA al,a8 al,ar,hlt,g1,hi,edc,e10,e12,e13,Int.natCast_nonneg,Int.toNat_natCast,hv]
    ·rw[q12] at e12
     have he:Tk.ending d=true:=by unfold Tk.ending;rw[q12,Bool.or_true,Bool.true_or]
     have hv:Tk.inner c (d::rest)=none:=by rw[Tk.inner,if_neg hdc,if_pos he]
     simp only[go_sem,reduceLT,reduceCtorEq,reduceEqDiff,Nat.reduceBEq,reduceAdd,aA al,a8 al,ar,hlt,g1,hi,edc,e10,e12,Int.natCast_nonneg,Int.toNat_natCast,hv]
   ·rw[q10] at e10
    have he:Tk.ending d=true:=by unfold Tk.ending;rw[q10,Bool.true_or,Bool.true_or]
    have hv:Tk.inner c (d::rest)=none:=by rw[Tk.inner,if_neg hdc,if_pos he]
    simp only[go_sem,reduceLT,reduceCtorEq,reduceEqDiff,Nat.reduceBEq,reduceAdd,aA al,a8 al,ar,hlt,g1,hi,edc,e10,Int.natCast_nonneg,Int.toNat_natCast,hv]
  ·rw[q] at edc
   have hv:Tk.inner c (d::rest)=some 0:=by rw[Tk.inner,if_pos (by simpa using q)]
   simp only[go_sem,reduceLT,reduceCtorEq,reduceEqDiff,Nat.reduceBEq,reduceAdd,aA al,a8 al,ar,hlt,g1,hi,edc,Int.natCast_nonneg,Int.toNat_natCast,hv];simp
theorem AX (s:List UInt8) (i:Nat) (c:UInt8) (r:List UInt8) (hs:s.length<4000000000) (hd:s.drop i=c::r):den K 117 [T s,I i] []=some (.ret (I (BH i c r)) []):=by
 obtain⟨g1,g2,g3⟩:=bE hd;refine ah rfl rfl Tryz.func117 rfl Tryz.ntmps117 ⟨by simp,by simp[LK]⟩ ?_
 have hr:Tryz.f117.results=#[.tmp 4]:=rfl
 have hl:=JV s hs i c g1 r (i+1) g2 (by omega)
 conv at hl in ap _ _=>whnf
 obtain⟨o,S',w,h⟩:=hl;simp only[go_sem,reduceLT,reduceEqDiff,Nat.reduceBEq,reduceAdd,bf i (by omega)]
 rw[au];simp only[go_sem,reduceCtorEq,reduceEqDiff];erw [w];unfold BH;rcases h with⟨n,h1,rfl,h2⟩|⟨h1,⟨rfl,h2⟩|⟨rfl,h2⟩⟩
 ·rw[h1];simp only[go_sem,hr,h2]
 ·rw[h1];simp only[go_sem,hr,h2]
 ·rw[h1];simp only[go_sem,reduceLT,Nat.reduceBEq,hr,h2]
abbrev nmH (s:List UInt8) (i:Nat) (n:Int) (k:Nat):St := { sl:=upd (upd (upd (upd (upd bot 7 (I k)) 6 (I n)) 4 (.c (.loc 4 0))) 1 (I i)) 0 (T s),bx:=upd nobox 4 (some [.pv (.int .i64 0),.pv (.str []),.pv (.int .i64 0)]),nt:=63 }
theorem JH (s:List UInt8) (hs:s.length<4000000000) (i:Nat):∀ (rest:List UInt8) (k:Nat) (n:Int),s.drop k=rest→k≤s.length→0≤n→n≤999999999 →
  Ends (exL K 120 (.loop (ap Tryz.f120 4)) (nmH s i n k)) fun o S=>o=.exit 0∧S.nt=63∧S.sl 0=T s∧S.sl 1=I i∧S.sl 4=.c (.loc 4 0)∧S.sl 6=I (Tk.num n rest)∧S.sl 7=I (k+Tk.run Tk.digit rest:Nat)∧S.bx=upd nobox 4 (some [.pv (.int .i64 0),.pv (.str []),.pv (.int .i64 0)]):=by
 intro rest
 induction rest with
 | nil =>
  intro k n hd hk h0 h1;have d1:=gW s k hs
  rw[hd] at d1
  have v0:atC [] = -1:=rfl
  rw[v0] at d1
  have e0:((-1:Int)==2)=false:=by decide
  conv in ap _ _=>whnf
  rw[aq];simp only[go_sem,reduceLT,reduceCtorEq,reduceEqDiff,Nat.reduceBEq,reduceAdd,ar,d1,e0,Tk.rj,Tk.num]
 | cons c rest ih =>
  intro k n hd hk h0 h1;obtain⟨g1,g2,g3⟩:=bE hd;have d1:=gW s k hs
  rw[hd] at d1
  have v0:atC (c::rest)=fw c:=rfl
  rw[v0] at d1
  obtain⟨_,f,_,_,_⟩:=jt c
  conv in ap _ _=>whnf
  rw[aq];cases b:(fw c==2)
  ·rw[b] at f
   have hv:Tk.run Tk.digit (c::rest)=0:=by rw[Tk.run,←f];rfl
   have hv2:Tk.num n (c::rest)=n:=by rw[Tk.num,←f];rfl
   simp only[go_sem,reduceLT,reduceCtorEq,reduceEqDiff,Nat.reduceBEq,reduceAdd,ar,d1,b,hv,hv2]
  ·rw[b] at f
   have hc:=f.symm
   have hcn:48≤c.toNat∧c.toNat≤57:=by simpa[Tk.digit] using hc
   have hv:k+1+Tk.run Tk.digit rest=k+Tk.run Tk.digit (c::rest):=by rw[Tk.run,if_pos hc];omega
   have hv2:Tk.num n (c::rest)=Tk.num (min (10*n+((c.toNat:Int) - 48)) 999999999) rest:=by rw[Tk.num,if_pos hc]
   have w1:IntKind.i64.wrap (10*n)=10*n:=IntWalk.i64_in _ (by omega)
   have w3:IntKind.i64.wrap (c.toNat:Int)=(c.toNat:Int):=IntWalk.i64_in _ (by omega)
   have w4:IntKind.i64.wrap (10*n+(c.toNat:Int))=10*n+(c.toNat:Int):=IntWalk.i64_in _ (by omega)
   have w5:IntKind.i64.wrap (10*n+(c.toNat:Int) - 48)=10*n+((c.toNat:Int) - 48):=by rw[IntWalk.i64_in _ (by omega)];omega
   have ih':=ih (k+1) (min (10*n+((c.toNat:Int) - 48)) 999999999) g2 (by omega) (by omega) (by omega)
   rw[hv,←hv2] at ih'
   conv at ih' in ap _ _=>whnf
   simp only[go_sem,reduceLT,reduceCtorEq,reduceEqDiff,Nat.reduceBEq,reduceAdd,a8 al,dG d9 cQ,d1,b,g1,Int.natCast_nonneg,Int.toNat_natCast,w1,w3,w4,w5,sq,kC,List.foldl_cons,List.foldl_nil,C3,bf k (by omega)]
   rw[au];simp only[go_sem,reduceCtorEq,reduceEqDiff];exact ih'
abbrev eE (t:Tok) (i:Nat):AV:=.tup [.agg t.cells,.c (.pv (.int .i64 (i:Nat)))]
theorem qQ (s:List UInt8) (i:Nat) (c:UInt8) (r:List UInt8) (neg:Bool) (l:List UInt8) (hs:s.length<4000000000) (hd:s.drop i=c::r) (hneg:(c==45)=neg) (hl:l=if neg then r else c::r) :
  den K 120 [T s,I i] []=some (.ret (eE (Tk.number neg l).1 (i+(if neg then 1 else 0)+(Tk.number neg l).2)) []):=by
 obtain⟨g1,g2,g3⟩:=bE hd;have e45:((c.toNat:Int)==45)=neg:=(eY c 45).trans hneg
 obtain⟨j,hj⟩:∃ j,j=i+(if neg then 1 else 0):=⟨_,rfl⟩
 have hdj:s.drop j=l:=by cases neg<;>simp only[Bool.false_eq_true,if_true,if_false,Nat.add_zero] at hj hl<;>subst hj<;>subst hl<;>assumption
 have hjl:j≤s.length:=by cases neg<;>simp only[Bool.false_eq_true,if_true,if_false] at hj<;>omega
 have hll:l.length=s.length - j:=by rw[←hdj,List.length_drop]
 have hrl:=Tk.run_le (p:=Tk.digit) l
 have hnum:=Tk.nl (l:=l) (n:=0) (by omega) (by omega)
 have hlp:=JH s hs i l j 0 hdj hjl (by omega) (by omega)
 conv at hlp in ap _ _=>whnf
 obtain⟨o,S',w,rfl,fn,f0,f1,f4,f6,f7,fb⟩:=hlp;unfold Tk.number;rw[←hj];generalize hk:Tk.run Tk.digit l=k at hrl f7;simp only;have hde:s.drop (j+k)=l.drop k:=by rw[←List.drop_drop,hdj]
 have dB:=n8 s (j+k) hs (by omega)
 have dN:=p9 s (j+k) hs (by omega)
 rw[hde] at dB dN
 have hul:=Tk.QZe (l.drop k)
 rw[List.length_drop] at hul;have w3:IntKind.i64.wrap (0 - Tk.num 0 l) = -Tk.num 0 l:=by rw[IntWalk.i64_in _ (by omega)];omega
 have w1:=bf (j+k) (by omega)
 have wi:=bf i (by omega)
 have hunit:(decide (((j+k:Nat):Int)<(s.length:Int))=true∧(∃ d,s[j+k]? = some d∧((d.toNat:Int)==37)=true)∧Tk.unit (l.drop k)=1)∨((decide (((j+k:Nat):Int)<(s.length:Int))=false∨decide (((j+k:Nat):Int)<(s.length:Int))=true∧∃ d,s[j+k]? = some d∧((d.toNat:Int)==37)=false)∧Tk.unit (l.drop k)=if Tk.gy (l.drop k) then Tk.run Tk.within (l.drop k) else 0):=by
  unfold Tk.unit Tk.name;by_cases hlt:j+k<s.length
  ·have hdd:=List.drop_eq_getElem_cons hlt
   rw[hde] at hdd;have hg:s[j+k]? = some (s[j+k]'hlt):=List.getElem?_eq_getElem hlt
   have h0:Tk.at0 (l.drop k)=s[j+k]'hlt:=by rw[hdd];rfl
   rw[h0];generalize s[j+k]'hlt=d at hg;by_cases h37:d=37
   ·left;exact⟨decide_eq_true (by omega),⟨d,hg,by rw[h37];rfl⟩,by rw[if_pos h37]⟩
   ·right;exact⟨.inr ⟨decide_eq_true (by omega),d,hg,(eY d 37).trans (by simpa using h37)⟩,by rw[if_neg h37]⟩
  ·have hnil:l.drop k=[]:=List.drop_eq_nil_of_le (by omega)
   rw[hnil]
   right;exact⟨.inl (decide_eq_false (by omega)),rfl⟩
 generalize Tk.unit (l.drop k)=u at hul hunit;have hsub:(s.take (j+k+u)).drop (j+k)=(l.drop k).take u:=by rw[List.drop_take,hde];congr 1;omega
 have b1:(((j+k+u:Nat):Int)≤(s.length:Int))=True:=eq_true (by omega)
 have b2:(((j+k:Nat):Int)≤((j+k+u:Nat):Int))=True:=eq_true (by omega)
 rw[←Nat.add_assoc];have z01:((0:Int)=1)=False:=by simp
 have hr:Tryz.f120.results=#[.cell 4 91,.tmp 5]:=rfl
 refine ah rfl rfl Tryz.func120 rfl Tryz.ntmps120 ⟨by simp,by simp[LK]⟩ ?_
 cases neg
 ·simp only[Bool.false_eq_true,if_false,Nat.add_zero] at hj ⊢;subst hj;simp only[go_sem,reduceLT,reduceCtorEq,reduceEqDiff,Nat.reduceBEq,reduceAdd,reduceSub,reduceLeDiff,a8 al,g1,Int.natCast_nonneg,Int.toNat_natCast,e45];rw[au];simp only[go_sem,reduceCtorEq,reduceEqDiff,reduceSub,reduceLeDiff];erw [w];rcases hunit with⟨u1,⟨d,u2,u3⟩,u4⟩|⟨u1,u4⟩
  ·rw[u4] at b1 b2 hsub ⊢
   simp only[go_sem,reduceLT,reduceCtorEq,reduceEqDiff,Nat.reduceBEq,reduceAdd,reduceLeDiff,a8 al,aA al,ax al,ab ai am,hr,fn,f0,f1,f4,f6,f7,fb,g1,Int.natCast_nonneg,Int.toNat_natCast,e45,w1,w3,u1,u2,u3,b1,b2,hsub,Tok.cells,eE]
  ·cases hnb:Tk.gy (l.drop k)
   ·rw[hnb] at u4 dB
    simp only[Bool.false_eq_true,if_false] at u4
    rw[u4] at b1 b2 hsub ⊢
    simp only[Nat.add_zero] at b1 b2 hsub ⊢
    rcases u1 with u1|⟨u1,d,u2,u3⟩
    ·simp only[go_sem,reduceLT,reduceCtorEq,reduceEqDiff,Nat.reduceBEq,reduceAdd,reduceLeDiff,a8 al,aA al,ax al,ab ai am,hr,fn,f0,f1,f4,f6,f7,fb,g1,Int.natCast_nonneg,Int.toNat_natCast,e45,w1,w3,u1,dB,b1,b2,hsub,Tok.cells,eE]
    ·simp only[go_sem,reduceLT,reduceCtorEq,reduceEqDiff,Nat.reduceBEq,reduceAdd,reduceLeDiff,a8 al,aA al,ax al,ab ai am,hr,fn,f0,f1,f4,f6,f7,fb,g1,Int.natCast_nonneg,Int.toNat_natCast,e45,w1,w3,u1,u2,u3,dB,b1,b2,hsub,Tok.cells,eE]
   ·rw[hnb] at u4 dB
    simp only[if_true] at u4
    rw[←u4] at dN
    rcases u1 with u1|⟨u1,d,u2,u3⟩
    ·simp only[go_sem,reduceLT,reduceCtorEq,reduceEqDiff,Nat.reduceBEq,reduceAdd,reduceLeDiff,a8 al,aA al,ax al,ab ai am,hr,fn,f0,f1,f4,f6,f7,fb,g1,Int.natCast_nonneg,Int.toNat_natCast,e45,w1,w3,u1,dB,dN,b1,b2,hsub,Tok.cells,eE]
    ·simp only[go_sem,reduceLT,reduceCtorEq,reduceEqDiff,Nat.reduceBEq,reduceAdd,reduceLeDiff,a8 al,aA al,ax al,ab ai am,hr,fn,f0,f1,f4,f6,f7,fb,g1,Int.natCast_nonneg,Int.toNat_natCast,e45,w1,w3,u1,u2,u3,dB,dN,b1,b2,hsub,Tok.cells,eE]
 ·simp only[if_true] at hj ⊢;subst hj;simp only[go_sem,reduceLT,reduceCtorEq,reduceEqDiff,Nat.reduceBEq,reduceAdd,reduceSub,reduceLeDiff,a8 al,g1,Int.natCast_nonneg,Int.toNat_natCast,e45,wi];rw[au];simp only[go_sem,reduceCtorEq,reduceEqDiff,reduceSub,reduceLeDiff];erw [w];rcases hunit with⟨u1,⟨d,u2,u3⟩,u4⟩|⟨u1,u4⟩
  ·rw[u4] at b1 b2 hsub ⊢
   simp only[go_sem,reduceLT,reduceCtorEq,reduceEqDiff,Nat.reduceBEq,reduceAdd,reduceLeDiff,a8 al,aA al,ax al,ab ai am,hr,fn,f0,f1,f4,f6,f7,fb,g1,Int.natCast_nonneg,Int.toNat_natCast,e45,w1,w3,u1,u2,u3,b1,b2,hsub,Tok.cells,eE]
  ·cases hnb:Tk.gy (l.drop k)
   ·rw[hnb] at u4 dB
    simp only[Bool.false_eq_true,if_false] at u4
    rw[u4] at b1 b2 hsub ⊢
    simp only[Nat.add_zero] at b1 b2 hsub ⊢
    rcases u1 with u1|⟨u1,d,u2,u3⟩
    ·simp only[go_sem,reduceLT,reduceCtorEq,reduceEqDiff,Nat.reduceBEq,reduceAdd,reduceLeDiff,a8 al,aA al,ax al,ab ai am,hr,fn,f0,f1,f4,f6,f7,fb,g1,Int.natCast_nonneg,Int.toNat_natCast,e45,w1,w3,u1,dB,b1,b2,hsub,Tok.cells,eE]
    ·simp only[go_sem,reduceLT,reduceCtorEq,reduceEqDiff,Nat.reduceBEq,reduceAdd,reduceLeDiff,a8 al,aA al,ax al,ab ai am,hr,fn,f0,f1,f4,f6,f7,fb,g1,Int.natCast_nonneg,Int.toNat_natCast,e45,w1,w3,u1,u2,u3,dB,b1,b2,hsub,Tok.cells,eE]
   ·rw[hnb] at u4 dB
    simp only[if_true] at u4
    rw[←u4] at dN
    rcases u1 with u1|⟨u1,d,u2,u3⟩
    ·simp only[go_sem,reduceLT,reduceCtorEq,reduceEqDiff,Nat.reduceBEq,reduceAdd,reduceLeDiff,a8 al,aA al,ax al,ab ai am,hr,fn,f0,f1,f4,f6,f7,fb,g1,Int.natCast_nonneg,Int.toNat_natCast,e45,w1,w3,u1,dB,dN,b1,b2,hsub,Tok.cells,eE]
    ·simp only[go_sem,reduceLT,reduceCtorEq,reduceEqDiff,Nat.reduceBEq,reduceAdd,reduceLeDiff,a8 al,aA al,ax al,ab ai am,hr,fn,f0,f1,f4,f6,f7,fb,g1,Int.natCast_nonneg,Int.toNat_natCast,e45,w1,w3,u1,u2,u3,dB,dN,b1,b2,hsub,Tok.cells,eE]
attribute [local go_sem] ET dh dK aL bX dx eH fH eM I8 fj i7 gS Et dl fV Fw fk
def Sim.big:Sim→Bool
 | .mk _ n v _ _ _=>decide (100<n.length)||decide (100<v.length)
mutual
def cntX:Sim→Int→Int→Int
 | .mk _ _ _ _ _ l,k,m=>cntL l k m
def cntL:List Sim→Int→Int→Int
 | [],k,_=>k
 | x::l,k,m=>if k≤m then(if x.big then m+1 else cntL l (cntX x (k+1) m) m) else k
end
theorem pH (x:Sim) (hx:x.Ok):∀ k m:Int,k≤m+1→cntX x k m≤m+1∧(k≤cntX x k m):=by
 induction hx with
 | @mk q n v a b l ha hb hn hv hll hl ih =>
  intro k m hk;rw[cntX];have:∀ (l:List Sim),(∀ x∈l, ∀ k m:Int,k≤m+1→cntX x k m≤m+1∧(k≤cntX x k m))→∀ k:Int,k≤m+1→cntL l k m≤m+1∧k≤cntL l k m:=by
   intro l
   induction l with
   | nil=>intro _ k hk;rw[cntL];exact⟨hk,Int.le_refl _⟩
   | cons x l ihl =>
    intro h k hk;rw[cntL];by_cases h1:k≤m
    ·rw[if_pos h1];split
     ·exact⟨Int.le_refl _,hk⟩
     ·have h2:=h x (by simp) (k+1) m (by omega)
      have h3:=ihl (fun y hy=>h y (by simp[hy])) _ h2.1
      exact⟨h3.1,by omega⟩
    ·rw[if_neg h1];exact⟨hk,Int.le_refl _⟩
  exact this l ih k hk
theorem lI (l:List Sim) (hl:∀ x∈l,x.Ok):∀ k m:Int,k≤m+1→cntL l k m≤m+1∧k≤cntL l k m:=fun k m hk=>by
 induction l generalizing k with
 | nil=>rw[cntL];exact⟨hk,Int.le_refl _⟩
 | cons x l ihl =>
  rw[cntL];by_cases h1:k≤m
  ·rw[if_pos h1];split
   ·exact⟨Int.le_refl _,hk⟩
   ·have h2:=pH x (hl x (by simp)) (k+1) m (by omega)
    have h3:=ihl (fun y hy=>hl y (by simp[hy])) _ h2.1
    exact⟨h3.1,by omega⟩
  ·rw[if_neg h1];exact⟨hk,Int.le_refl _⟩
abbrev cntH (l:List Sim) (k m:Int) (i:Nat):St :=
  { sl:=upd (upd (upd (upd bot 7 (I i)) 2 (I m)) 1 (I k)) 0 (L (l.map Sim.enc)),bx:=nobox,nt:=48 }
def tT (l:List Sim):Prop:=∀ k m:Int,0≤k→k≤m+1→m≤100000→den K 43 [L (l.map Sim.enc),I k,I m] []=some (.ret (I (cntL l k m)) [])
theorem tz (l:List Sim) (hal:l.length≤reachBytes) (m:Int) (hm:m≤100000) (hin:∀ x∈l, ∀ q n v a b l',x=Sim.mk q n v a b l'→tT l') (hok:∀ x∈l,x.Ok):∀ (rest:List Sim) (i:Nat) (k:Int),l.drop i=rest→0≤k→k≤m+1→i≤l.length →
  Ends (exL K 43 (.loop (ap Tryz.f43 2)) (cntH l k m i)) fun o S=>(o=.exit 0∧S.sl 1=I (cntL rest k m)∧S.nt=48)∨(o=.ret∧S.sl 6=I (cntL rest k m))
 | [],i,k,hd,hk0,hk,hi=>by
  have hin:i=l.length:=by
   have:=List.drop_eq_nil_iff.1 hd
   omega
  subst hin
  conv in ap _ _=>whnf
  rw[aq];simp[go_sem,reduceLT,reduceCtorEq,reduceEqDiff,Nat.reduceBEq,reduceAdd,af aa,ar,cntL]
 | .mk q n v a b l'::rest,i,k,hd,hk0,hk,hi=>by
  obtain⟨h1,h2,h3⟩:=bE hd;have hmem:Sim.mk q n v a b l'∈l:=List.mem_of_getElem? h1
  have hc:=hin _ hmem q n v a b l' rfl
  have hget:(l.map Sim.enc)[(i:Int).toNat]? = some [.int .i64 q,.str n,.str v,.int .i64 a,.int .i64 b,.sl (l'.map Sim.enc)]:=by simp[h1,Sim.enc_mk]
  have hlt:decide ((i:Int)<(l.length:Int))=true:=nq (by omega)
  have hi2:i+1<9223372036854775807:=by have:=oG hal;omega
  by_cases hkm:k≤m
  ·have ekm:decide (k≤m)=true:=decide_eq_true hkm
   have ew:IntKind.i64.wrap (k+1)=k+1:=IntWalk.i64_in _ (by omega)
   have ewm:IntKind.i64.wrap (m+1)=m+1:=IntWalk.i64_in _ (by omega)
   by_cases hn:100<n.length
   ·have en:decide ((100:Int)<(n.length:Int))=true:=nq (by omega)
    have hv:cntL (.mk q n v a b l'::rest) k m=m+1:=by rw[cntL,if_pos hkm,if_pos (by simp[Sim.big,hn])]
    rw[hv]
    conv in ap _ _=>whnf
    rw[aq];simp only[go_sem,reduceLT,reduceCtorEq,reduceEqDiff,Nat.reduceBEq,reduceAdd,af aa,ag aa,aA al,ar,hlt,hget,Int.natCast_nonneg,ekm,ew,ewm,en]
   ·have en:decide ((100:Int)<(n.length:Int))=false:=decide_eq_false (by omega)
    by_cases hv':100<v.length
    ·have ev:decide ((100:Int)<(v.length:Int))=true:=nq (by omega)
     have hv:cntL (.mk q n v a b l'::rest) k m=m+1:=by rw[cntL,if_pos hkm,if_pos (by simp[Sim.big,hv'])]
     rw[hv]
     conv in ap _ _=>whnf
     rw[aq];simp only[go_sem,reduceLT,reduceCtorEq,reduceEqDiff,Nat.reduceBEq,reduceAdd,af aa,ag aa,aA al,ar,hlt,hget,Int.natCast_nonneg,ekm,ew,ewm,en,ev]
    ·have ev:decide ((100:Int)<(v.length:Int))=false:=decide_eq_false (by omega)
     have hc':=hc (k+1) m (by omega) (by omega) hm
     have hv:cntL (.mk q n v a b l'::rest) k m=cntL rest (cntL l' (k+1) m) m:=by rw[cntL,if_pos hkm,if_neg (by simp[Sim.big,hn,hv']),cntX]
     rw[hv];have hokl:∀ x∈l',x.Ok:=by
      have:=hok _ hmem
      cases this;assumption
     have hb:=lI l' hokl (k+1) m (by omega)
     have hnext:=tz l hal m hm hin hok rest (i+1) (cntL l' (k+1) m) h2 (by omega) hb.1 (by omega)
     conv at hnext in ap _ _=>whnf
     conv in ap _ _=>whnf
     rw[aq];simp only[go_sem,reduceLT,reduceCtorEq,reduceEqDiff,Nat.reduceBEq,reduceAdd,af aa,ag aa,aA al,hlt,hget,Int.natCast_nonneg,ekm,ew,ewm,en,ev,hc',bf i (by omega)]
     rw[au];simp only[go_sem,reduceCtorEq,reduceEqDiff];exact hnext
  ·have ekm:decide (k≤m)=false:=decide_eq_false hkm
   have hv:cntL (.mk q n v a b l'::rest) k m=k:=by rw[cntL,if_neg hkm]
   rw[hv]
   conv in ap _ _=>whnf
   rw[aq];simp only[go_sem,reduceLT,reduceCtorEq,reduceEqDiff,Nat.reduceBEq,reduceAdd,af aa,ar,hlt,ekm]
theorem vJ (l:List Sim) (hal:l.length≤reachBytes) (hin:∀ x∈l, ∀ q n v a b l',x=Sim.mk q n v a b l'→tT l') (hok:∀ x∈l,x.Ok):tT l:=by
 intro k m hk0 hk hm;refine ah rfl rfl Tryz.func43 rfl Tryz.ntmps43 ⟨by simp,by simp[LK]⟩ ?_
 have hr:Tryz.f43.results=#[.tmp 6]:=rfl
 have hnext:=tz l hal m hm hin hok l 0 k rfl hk0 hk (by omega)
 conv at hnext in ap _ _=>whnf
 obtain⟨o,S',e,h⟩:=hnext;simp only[go_sem,reduceLT,Nat.reduceBEq];rw[au];simp only[go_sem,reduceCtorEq,reduceEqDiff];erw [e];rcases h with⟨rfl,h1,h2⟩|⟨rfl,h1⟩
 ·simp only[go_sem,reduceLT,reduceEqDiff,Nat.reduceBEq,reduceAdd,hr,h1,h2]
 ·simp only[go_sem,hr,h1]
theorem DH (l:List Sim) (hal:l.length≤reachBytes) (hok:∀ x∈l,x.Ok):tT l:=by
 have key:∀ x:Sim,x.Ok→∀ q n v a b l',x=Sim.mk q n v a b l'→tT l':=by
  intro x hx
  induction hx with
  | @mk k n v a c l ha hc hn hv hll hl ih =>
   intro q n' v' a' b' l' e;cases e;exact vJ l hll (fun y hy=>ih y hy) hl
 exact vJ l hal (fun x hx=>key x (hok x hx)) hok
def jo:List Prt→Int→Int→Int
 | [],n,_=>n
 | p::ps,n,m=>if n≤m then jo ps (cntL p.l n m) m else n
def j5:List Cpx→Int→Int→Option Int
 | [],n,_=>some n
 | c::l,n,m=>if n≤m then(if 100<c.pseudo.length then none else j5 l (jo c.parts (n+c.parts.length) m) m) else some n
def sL (l:List Cpx) (m:Int):Bool:=match j5 l l.length m with
 | none=>false
 | some n=>decide (n≤m)
theorem t7 (ps:List Prt) (hp:∀ p∈ps,p.Ok) (n m:Int):n≤jo ps n m:=by
 induction ps generalizing n with
 | nil=>exact Int.le_refl _
 | cons p ps ih =>
  rw[jo];split
  ·have h1:=(lI p.l (hp p (by simp)).all n m (by omega)).2
   have h2:=ih (fun q hq=>hp q (by simp[hq])) (cntL p.l n m)
   omega
  ·exact Int.le_refl _
abbrev MN (l:List Cpx) (n m:Int) (i j:Nat):St :=
  { sl:=upd (upd (upd (upd (upd bot 7 (I j)) 6 (I i)) 5 (I n)) 1 (I m)) 0 (L (l.map Cpx.enc)),bx:=nobox,nt:=66 }
theorem xi (l:List Cpx) (m:Int) (hm:0≤m∧m≤100000) (i:Nat) (ps:List Prt) (s:List UInt8) (hi:l[i]? = some ⟨ps,s⟩) (hps:ps.length≤reachBytes):∀ (rest:List Prt) (j:Nat) (n:Int),ps.drop j=rest→(∀ p∈rest,p.Ok)→0≤n→j≤ps.length →
  Ends (exL K 15 (.loop (ap Tryz.f15 7)) (MN l n m i j)) fun o S=>o=.exit 2∧S.sl 0=L (l.map Cpx.enc)∧S.sl 1=I m∧S.sl 5=I (jo rest n m)∧S.sl 6=I i∧S.nt=66
 | [],j,n,hd,hok,hn,hj=>by
  have hin:j=ps.length:=by
   have:=List.drop_eq_nil_iff.1 hd
   omega
  subst hin;have hget:(l.map Cpx.enc)[(i:Int).toNat]? = some [.sl (ps.map Prt.enc),.str s]:=by simp[hi,Cpx.enc]
  conv in ap _ _=>whnf
  rw[aq];simp only[go_sem,reduceLT,reduceCtorEq,reduceEqDiff,Nat.reduceBEq,reduceAdd,ag aQ,af aw,ar,hget,jo,Int.natCast_nonneg]
 | ⟨q,p⟩::rest,j,n,hd,hok,hn,hj=>by
  obtain⟨h1,h2,h3⟩:=bE hd;have hp:=hok ⟨q,p⟩ (by simp)
  have hp1:p.length≤reachBytes:=hp.len
  have hget:(l.map Cpx.enc)[(i:Int).toNat]? = some [.sl (ps.map Prt.enc),.str s]:=by simp[hi,Cpx.enc]
  have hget2:(ps.map Prt.enc)[(j:Int).toNat]? = some [.int .i64 q,.sl (p.map Sim.enc)]:=by simp[h1,Prt.enc]
  have hlt:decide ((j:Int)<(ps.length:Int))=true:=nq (by omega)
  have hj2:j+1<9223372036854775807:=by have:=oG hps;omega
  by_cases hnm:n≤m
  ·have e1:decide (n≤m)=true:=decide_eq_true hnm
   have hc:=DH p hp1 hp.all n m hn (by omega) hm.2
   have hv:jo (⟨q,p⟩::rest) n m=jo rest (cntL p n m) m:=by rw[jo,if_pos hnm]
   rw[hv];have hge:=(lI p hp.all n m (by omega)).2
   have hnext:=xi l m hm i ps s hi hps rest (j+1) (cntL p n m) h2 (fun y hy=>hok y (by simp[hy])) (by omega) (by omega)
   conv at hnext in ap _ _=>whnf
   conv in ap _ _=>whnf
   rw[aq];simp only[go_sem,reduceLT,reduceCtorEq,reduceEqDiff,Nat.reduceBEq,reduceAdd,ag aQ,af aw,ag aw,hget,hget2,hlt,Int.natCast_nonneg,e1,hc,bf j (by omega)]
   rw[au];simp only[go_sem,reduceCtorEq,reduceEqDiff];exact hnext
  ·have e1:decide (n≤m)=false:=decide_eq_false hnm
   have hv:jo (⟨q,p⟩::rest) n m=n:=by rw[jo,if_neg hnm]
   rw[hv]
   conv in ap _ _=>whnf
   rw[aq];simp only[go_sem,reduceLT,reduceCtorEq,reduceEqDiff,Nat.reduceBEq,reduceAdd,ag aQ,af aw,ar,hget,hlt,Int.natCast_nonneg,e1]
abbrev smH (l:List Cpx) (n m:Int) (i:Nat):St :=
  { sl:=upd (upd (upd (upd bot 6 (I i)) 5 (I n)) 1 (I m)) 0 (L (l.map Cpx.enc)),bx:=nobox,nt:=66 }
theorem vf (l:List Cpx) (hl:l.length≤reachBytes) (m:Int) (hm:0≤m∧m≤100000):∀ (rest:List Cpx) (i:Nat) (n:Int),l.drop i=rest→(∀ c∈rest,c.Ok)→0≤n→i≤l.length →
  Ends (exL K 15 (.loop (ap Tryz.f15 3)) (smH l n m i)) fun o S=>(match j5 rest n m with
   | some k=>o=.exit 0∧S.sl 5=I k∧S.sl 1=I m∧S.nt=66
   | none=>o=.ret∧S.sl 4=B false)
 | [],i,n,hd,hok,hn,hi=>by
  have hin:i=l.length:=by
   have:=List.drop_eq_nil_iff.1 hd
   omega
  subst hin
  conv in ap _ _=>whnf
  rw[aq];simp only[go_sem,reduceLT,reduceCtorEq,reduceEqDiff,Nat.reduceBEq,reduceAdd,af aQ,ar,j5]
 | ⟨ps,s⟩::rest,i,n,hd,hok,hn,hi=>by
  obtain⟨h1,h2,h3⟩:=bE hd;have hc:=hok ⟨ps,s⟩ (by simp)
  have hps:ps.length≤reachBytes:=hc.len
  have hpl:=oG hps
  have hget:(l.map Cpx.enc)[(i:Int).toNat]? = some [.sl (ps.map Prt.enc),.str s]:=by simp[h1,Cpx.enc]
  have hlt:decide ((i:Int)<(l.length:Int))=true:=nq (by omega)
  have hi2:i+1<9223372036854775807:=by have:=oG hl;omega
  by_cases hnm:n≤m
  ·have e1:decide (n≤m)=true:=decide_eq_true hnm
   have ew:IntKind.i64.wrap (n+(ps.length:Int))=n+ps.length:=IntWalk.i64_in _ (by omega)
   have hin:=xi l m hm i ps s h1 hps ps 0 (n+ps.length) rfl hc.all (by omega) (by omega)
   conv at hin in ap _ _=>whnf
   obtain⟨o,S',e,rfl,g0,g1,g5,g6,gn⟩:=hin;by_cases hs:100<s.length
   ·have e2:decide ((100:Int)<(s.length:Int))=true:=nq (by omega)
    have hv:j5 (⟨ps,s⟩::rest) n m=none:=by rw[j5,if_pos hnm,if_pos hs]
    rw[hv]
    conv in ap _ _=>whnf
    rw[aq];simp only[go_sem,reduceLT,reduceCtorEq,reduceEqDiff,Nat.reduceBEq,reduceAdd,af aQ,ag aQ,af aw,hget,hlt,Int.natCast_nonneg,e1,ew];rw[au];simp only[go_sem,reduceCtorEq,reduceEqDiff];erw [e];simp only[go_sem,reduceLT,reduceEqDiff,Nat.reduceBEq,reduceAdd,ag aQ,aA al,ar,hget,Int.natCast_nonneg,g0,g6,gn,e2]
   ·have e2:decide ((100:Int)<(s.length:Int))=false:=decide_eq_false (by omega)
    have hv:j5 (⟨ps,s⟩::rest) n m=j5 rest (jo ps (n+ps.length) m) m:=by rw[j5,if_pos hnm,if_neg hs]
    rw[hv];have hge:=t7 ps hc.all (n+ps.length) m
    have hnext:=vf l hl m hm rest (i+1) (jo ps (n+ps.length) m) h2 (fun y hy=>hok y (by simp[hy])) (by omega) (by omega)
    conv at hnext in ap _ _=>whnf
    conv in ap _ _=>whnf
    rw[aq];simp only[go_sem,reduceLT,reduceCtorEq,reduceEqDiff,Nat.reduceBEq,reduceAdd,af aQ,ag aQ,af aw,hget,hlt,Int.natCast_nonneg,e1,ew];rw[au];simp only[go_sem,reduceCtorEq,reduceEqDiff];erw [e];simp only[go_sem,reduceLT,reduceEqDiff,Nat.reduceBEq,reduceAdd,ag aQ,aA al,hget,Int.natCast_nonneg,g0,g6,gn,e2,bf i (by omega)]
    rw[au];simp only[go_sem,reduceCtorEq,reduceEqDiff,g0,g1,g5,g6];exact hnext
  ·have e1:decide (n≤m)=false:=decide_eq_false hnm
   have hv:j5 (⟨ps,s⟩::rest) n m=some n:=by rw[j5,if_neg hnm]
   rw[hv]
   conv in ap _ _=>whnf
   rw[aq];simp only[go_sem,reduceLT,reduceCtorEq,reduceEqDiff,Nat.reduceBEq,reduceAdd,af aQ,ar,hlt,e1]
theorem ER (l:List Cpx) (hl:l.length≤reachBytes) (hok:∀ c∈l,c.Ok) (m:Int) (hm:0≤m∧m≤100000):den K 15 [L (l.map Cpx.enc),I m] []=some (.ret (B (sL l m)) []):=by
 refine ah rfl rfl Tryz.func15 rfl Tryz.ntmps15 ⟨by simp,by simp[LK]⟩ ?_
 have hr:Tryz.f15.results=#[.tmp 4]:=rfl
 have hnext:=vf l hl m hm l 0 l.length rfl hok (by omega) (by omega)
 conv at hnext in ap _ _=>whnf
 obtain⟨o,S',e,h⟩:=hnext;simp only[go_sem,reduceLT,reduceCtorEq,reduceEqDiff,Nat.reduceBEq,reduceAdd,af aQ];rw[au];simp only[go_sem,reduceCtorEq,reduceEqDiff];erw [e];unfold sL;cases hc:j5 l l.length m with
 | none =>
  rw[hc] at h;obtain⟨rfl,h1⟩:=h;simp only[go_sem,hr,h1]
 | some k =>
  rw[hc] at h;obtain⟨rfl,h1,h2,h3⟩:=h;simp only[go_sem,reduceLT,reduceEqDiff,Nat.reduceBEq,reduceAdd,hr,h1,h2,h3]
end Go.Abs
namespace Go.Abs
open Go Go.Proofs
set_option maxRecDepth 100000
theorem Lk:kq Tryz.prog 52=some [(3,0,1),(9,1,1),(9,2,1),(3,3,1),(3,4,1),(48,5,1)]:=by kernel_rfl
theorem Lw:kq Tryz.prog 50=some [(3,0,1),(48,1,1)]:=by kernel_rfl
theorem LS:kq Tryz.prog 47=some [(45,0,1),(9,1,1)]:=by kernel_rfl
theorem L0:∀ (n:Nat) (ps:List PV),TyP Tryz.prog n 52 ps→∃ x:Sim,ps=x.enc∧x.Ok:=by
 intro n
 induction n using Nat.strongRecOn with
 | _ n ih =>
  intro ps hp;obtain⟨m,rfl,hl,hf⟩:=jU (sz:=6) Lk (by kernel_rfl) hp
  obtain⟨p0,p1,p2,p3,p4,p5,rfl⟩:=len6 hl;obtain⟨k,hk,hkw⟩:=lZ cQ (hf 0 _ rfl);obtain⟨s,hs,hsl⟩:=oM al (hf 1 _ rfl);obtain⟨v,hv,hvl⟩:=oM al (hf 2 _ rfl);obtain⟨a,ha,haw⟩:=lZ cQ (hf 3 _ rfl);obtain⟨b,hb,hbw⟩:=lZ cQ (hf 4 _ rfl);obtain⟨j,c,rfl,hc,hcl,hce⟩:=qi aa (hf 5 _ rfl);obtain⟨l,rfl,hlo⟩:=lr (f:=Sim.enc) (Q:=Sim.Ok) fun el hel=>ih j (by omega) el (hce el hel)
  simp at hk hs hv ha hb hc;subst hk;subst hs;subst hv;subst ha;subst hb;subst hc;exact⟨.mk k s v a b l,(Sim.enc_mk ..).symm,.mk (xf haw) (xf hbw) hsl hvl (by simpa using hcl) hlo⟩
theorem Mn {n:Nat} {ps:List PV} (hp:TyP Tryz.prog n 50 ps):∃ x:Prt,ps=x.enc∧x.Ok:=by
 obtain⟨m,rfl,hl,hf⟩:=jU (sz:=2) Lw (by kernel_rfl) hp
 obtain⟨p0,p1,rfl⟩:=len2 hl;obtain⟨k,hk,hkw⟩:=lZ cQ (hf 0 _ rfl);obtain⟨j,c,rfl,hc,hcl,hce⟩:=qi aa (hf 1 _ rfl);obtain⟨l,rfl,hlo⟩:=lr (f:=Sim.enc) (Q:=Sim.Ok) fun el hel=>L0 j el (hce el hel)
 simp at hk hc;subst hk;subst hc;exact⟨⟨k,l⟩,rfl,⟨by simpa using hcl,hlo⟩⟩
theorem Mq {n:Nat} {ps:List PV} (hp:TyP Tryz.prog n 47 ps):∃ x:Cpx,ps=x.enc∧x.Ok:=by
 obtain⟨m,rfl,hl,hf⟩:=jU (sz:=2) LS (by kernel_rfl) hp
 obtain⟨p0,p1,rfl⟩:=len2 hl;obtain⟨j,c,rfl,hc,hcl,hce⟩:=qi aw (hf 0 _ rfl);obtain⟨s,hs,hsl⟩:=oM al (hf 1 _ rfl);obtain⟨l,rfl,hlo⟩:=lr (f:=Prt.enc) (Q:=Prt.Ok) fun el hel=>Mn (hce el hel)
 simp at hs hc;subst hs;subst hc;exact⟨⟨l,s⟩,rfl,⟨by simpa using hcl,hlo,hsl⟩⟩
theorem Kz {n:Nat} {ps:List PV} (hp:TyP Tryz.prog n 31 ps):∃ l:List Cpx,ps=[.sl (l.map Cpx.enc)]∧l.length≤reachBytes∧∀ x∈l,x.Ok:=by
 obtain⟨j,c,rfl,rfl,hcl,hce⟩:=qi aQ hp;obtain⟨l,rfl,hlo⟩:=lr (f:=Cpx.enc) (Q:=Cpx.Ok) fun el hel=>Mq (hce el hel)
 exact⟨l,rfl,by simpa using hcl,hlo⟩
def Ch:List TypeId:=[4,3,9,91,60,93,23,52,48,50,45,47,31]
theorem Gc:rC Tryz.prog Ch=true:=by kernel_rfl
theorem B5 (p:PV):lg Tryz.prog 31 [p]=.c (.pv p):=by
 unfold lg;rw[Tryz.underlying31]
end Go.Abs
