/-
  WHAT THE FUNCTIONS COMPUTE, layer 4, the document's reader of selectors: attributes.
  (And 5 texts more.)
-/
import Derived.Test.YtlomcifkckgneaaGreatDoorRt7
set_option maxHeartbeats 8000000
open Nat (reduceEqDiff reduceAdd reduceLT reduceLeDiff reduceSub reduceMul)
set_option linter.unusedSimpArgs false
set_option linter.unusedVariables false
namespace Go.Abs
open Go Go.Proofs
set_option maxRecDepth 10000
attribute [local go_sem] c7 bF cD bW bZ db cJ cE a7 ck ce cF c8 bS opd avOf cvOf St.degAt St.put okPV d6 okAV du dv dt cU aM if_true Bool.false_eq_true if_false Option.map_some Option.map_none Option.bind_some Option.bind_none dY dV upd List.toList_toArray cR steal bz mvB dE cV cT AV.deg CV.deg AV.gv AV.isIter cN cI bU List.length_nil List.length_cons List.filterMap_cons List.filterMap_nil beq_iff_eq List.getElem?_cons_zero List.getElem?_cons_succ Option.getD_some d8 eV Bool.false_and Bool.and_false Bool.and_self K_P fq co cO bw lend back idx dedup AV.ren CV.ren TV.ren AV.ptrs CV.ptrs cX AV.flat CV.flat cz cg bc c9 dk eo cj aY cm bt bH cf br eF CV.pv? content bA ownT bd reps pvs chunks cd leave eB cK dr bT bv TV.deg TV.av LK CV.plain CV.noBld c5 eA bound List.map_cons List.map_nil List.all_cons List.all_nil List.any_cons List.any_nil List.contains_cons List.contains_nil List.elem_cons List.elem_nil List.cons_append List.nil_append List.append_nil List.flatMap_cons List.flatMap_nil List.zip_cons_cons List.zip_nil_left List.zip_nil_right List.take_succ_cons List.take_zero List.take_nil List.drop_succ_cons List.drop_zero List.drop_nil List.isEmpty_nil List.isEmpty_cons Bool.and_true Bool.true_and Bool.or_true Bool.true_or Bool.or_false Bool.false_or Bool.not_true Bool.not_false Nat.add_zero Nat.zero_add Option.isNone_none Option.isNone_some Option.getD_none true_and and_true not_true_eq_false not_false_eq_true decide_true decide_false Nat.le_refl and_self Bool.not_eq_true Nat.sub_self or_true true_or Option.some.injEq List.length_map List.nil_eq and_false false_and AV.live CV.live CV.liveIn dU bg Option.orElse_some Option.orElse_none head bm bh Int.lt_irrefl List.length_append ite_self dZ cA dc bC Key.clash Key.sees Key.writes Nat.lt_irrefl gt_iff_lt cH dH false_or or_false beq_self_eq_true Bool.true_beq Bool.false_beq bq dJ CW AH iR dP ff
def Li:List Sim→CV
 | []=>.nils
 | x::l=>.pv (.sl (Sim.encL (x::l)))
def eL:Sim→List CV
 | .mk k n v a b l=>[.pv (.int .i64 k),.pv (.str n),.pv (.str v),.pv (.int .i64 a),.pv (.int .i64 b),Li l]
theorem aU (k:Int) (n v:List UInt8) (a b:Int):eL (.mk k n v a b [])=[.pv (.int .i64 k),.pv (.str n),.pv (.str v),.pv (.int .i64 a),.pv (.int .i64 b),.nils]:=rfl
abbrev noB (l:List Val):List Val:=l.filter fun v => !Sl.ay v
abbrev pg (l:List Val) (i e:Nat) (acc:List Val):St :=
  { sl:=upd (upd (upd (upd bot 5 (I i)) 4 (.c (.loc 9 0))) 2 (.c (.loc 2 0))) 0 (L (encL l)),
    bx:=upd (upd nobox 9 (some [.own e (encL acc),.pv (.int .i64 0),.pv (.bool false)])) 2 (some [.pv (.int .i64 0),.pv (.str []),.pv (.str []),.pv (.int .i64 0),.pv (.int .i64 0),.own 0 []]),nt:=100 }
noncomputable def attlp:Code:=.loop (ap Tryz.f145 3)
theorem AF:Tryz.prog.underlying 23=some (.slice 93):=(jD ak).1
theorem BG (l:List Val) (i e:Nat) (acc:List Val) (hl:l.length≤100000000) (v:Val) (hi:l[i]? = some v) (hb:Sl.ay v=true) :
  exL K 145 attlp (pg l i e acc)=exL K 145 attlp (pg l (i+1) e acc):=by
 obtain⟨k,t,c⟩:=v;have hil:i<l.length:=(List.getElem?_eq_some_iff.1 hi).1
 have hlt:decide ((i:Int)<(l.length:Int))=true:=decide_eq_true (by omega)
 have hget:=fJ l i k t c hi
 have hw:IntKind.i64.wrap ((i:Int)+1)=((i+1:Nat):Int):=bf i (by omega)
 have hd:=gV k t c
 rw[hb] at hd;unfold attlp
 conv in ap _ _=>whnf
 conv in ap _ _=>whnf
 conv in exL _ _ _ (pg l i e acc)=>rw[aq]
 simp only[go_sem,reduceLT,reduceCtorEq,reduceEqDiff,Nat.reduceBEq,reduceAdd,af ak,ag ak,hlt,hget,Int.natCast_nonneg,hw,hd,az];rw[au];simp only[go_sem,reduceCtorEq,reduceEqDiff,Nat.reduceBEq]
theorem Dm (l:List Val) (i e:Nat) (acc:List Val) (hl:l.length≤100000000) (ha:acc.length≤100000000) (he:e=93∨acc=[]) (v:Val) (hi:l[i]? = some v) (hb:Sl.ay v=false) :
  exL K 145 attlp (pg l i e acc)=exL K 145 attlp (pg l (i+1) 93 (acc++[v])):=by
 obtain⟨k,t,c⟩:=v;have hil:i<l.length:=(List.getElem?_eq_some_iff.1 hi).1
 have hlt:decide ((i:Int)<(l.length:Int))=true:=decide_eq_true (by omega)
 have hget:=fJ l i k t c hi
 have hw:IntKind.i64.wrap ((i:Int)+1)=((i+1:Nat):Int):=bf i (by omega)
 have hd:=gV k t c
 rw[hb] at hd;have hown:e=93∨(encL acc).isEmpty=true:=by
  rcases he with rfl|rfl
  ·exact .inl rfl
  ·exact .inr rfl
 have hlim:acc.length+1<cw:=by unfold cw;omega
 have hlv:=fu acc
 unfold attlp
 conv in ap _ _=>whnf
 conv in ap _ _=>whnf
 conv in exL _ _ _ (pg l i e acc)=>rw[aq]
 simp only[go_sem,reduceLT,reduceCtorEq,reduceEqDiff,Nat.reduceBEq,reduceAdd,reduceSub,reduceMul,af ak,ag ak,ao (len:=1) ak bq aF ⟨rfl,by decide,by decide⟩,bB de,aX ak,hlt,hget,Int.natCast_nonneg,hw,hd,az,H6,jc,jW,lX,yo,ixOf,stOf,ncOf,faOf,nK,o8,AF,hown,hlim,hlv,ix,mO,FP,Value.oneCell']
 rw[au];simp only[go_sem,reduceCtorEq,reduceEqDiff,Nat.reduceBEq,mO]
attribute [local go_sem] dL ae wt Kg dh gu jQ ju gp cB bG c6
def TSh (l:List Val):Prop:=∀ t∈Ne.flat l,t.text.length<1000000000
theorem qf {l m:List Val} (h:TSh l) (hs:∀ v∈m,v∈l):TSh m:=fun t ht=>by
 obtain⟨v,hv,ht⟩:=Sl.mR.1 ht;exact h t (Sl.mR.2 ⟨v,hs v hv,ht⟩)
theorem Ki {l:List Val} (h:TSh l) (i:Nat):TSh (l.drop i):=qf h fun v hv=>List.mem_of_mem_drop hv
theorem kF {l:List Val} (h:TSh l):TSh (Sl.trim l):=qf h fun v hv=>Sl.G7 hv
theorem Bw {t:Tok} {c l:List Val} (h:TSh (.mk 1 t c::l)):t.text.length<1000000000:=h t (Sl.mR.2 ⟨.mk 1 t c,by simp,by rw[Ne.nR,if_pos rfl];simp⟩)
theorem KT {l:List Val} {i:Nat} {t:Tok} {c:List Val} (h:TSh l) (hi:l[i]? = some (.mk 5 t c)):TSh c:=by
 have hm:Val.mk 5 t c∈l:=List.mem_of_getElem? hi
 exact fun x hx=>h x (Sl.mR.2 ⟨_,hm,by rw[Ne.nR,if_neg (by decide),if_pos rfl];simp[hx]⟩)
theorem ov {l:List Val} {i:Nat} {k:Int} {t:Tok} {c:List Val} (hi:l[i]? = some (.mk k t c)):Ne.size c<Ne.size l:=js (List.mem_of_getElem? hi)
theorem lf (a b:List Val):Ne.size (a++b)=Ne.size a+Ne.size b:=by
 induction a with
 | nil=>rw[Ne.size];simp
 | cons v a ih=>rw[List.cons_append,Ne.size,Ne.size,ih];omega
theorem so (p:Val→Bool) (l:List Val):Ne.size (l.dropWhile p)≤Ne.size l:=by
 have h:l.takeWhile p++l.dropWhile p=l:=List.takeWhile_append_dropWhile
 have:=lf (l.takeWhile p) (l.dropWhile p)
 rw[h] at this
 omega
theorem vu (l:List Val):Ne.size l.reverse=Ne.size l:=by
 induction l with
 | nil=>rfl
 | cons v l ih =>
  rw[List.reverse_cons,lf,ih,Ne.size,Ne.size,Ne.size];omega
theorem iw (l:List Val):Ne.size (Sl.trim l)≤Ne.size l:=by
 unfold Sl.trim;rw[vu];have h1:=so Sl.ay (l.dropWhile Sl.ay).reverse
 have h2:=so Sl.ay l
 rw[vu] at h1;omega
def SRes (res:Option (Sim×List Val)) (l:List Val) (i:Nat) (dn:Option Res):Prop :=
 match res with
 | some (x,r)=>∃ j:Nat,l.drop j=r∧i<j∧j≤l.length∧dn=some (.ret (.agg (eL x)) [rb0 l j false])
 | none=>∃ (x:Sim) (j:Nat),dn=some (.ret (.agg (eL x)) [rb0 l j true])
def gm (g:List Val→Option (Sim×List Val)) (first:Bool) (l:List Val):Option (Sim×List Val) :=
  match (if first then Sl.tokK 1 l else none) with
  | some t=>some (.mk 2 (Sl.low t.text) [] 0 0 [],l.tail)
  | none =>
  match (if first then Sl.sign [42] l else none) with
  | some r=>some (.mk 1 [] [] 0 0 [],r)
  | none =>
  match Sl.tokK 4 l with
  | some t=>some (.mk 3 t.text [] 0 0 [],l.tail)
  | none =>
  match Sl.sign [46] l with
  | some r=>(Sl.name r).map fun x=>(.mk 4 x.1 [] 0 0 [],x.2)
  | none =>
  match Sl.sign [58] l with
  | some r=>Sl.colon g r
  | none =>
  match Sl.eP 3 l with
  | some x=>(Sl.attr x.1.2).map fun y=>(y,x.2)
  | none=>none
theorem oh (f:Nat) (first:Bool) (l:List Val):Sl.simple (f+1) first l=gm (Sl.simple f true) first l:=rfl
def iE (res:Option (Sim×List Val)) (first:Bool) (l:List Val) (i:Nat):Prop:=SRes res l i (den K 95 [P0,B first] [rb0 l i false])
def kY (g:List Val→Option (Sim×List Val)) (l:List Val) (i:Nat):Prop:=SRes (Sl.colon g (l.drop i)) l i (den K 143 [P0] [rb0 l i false])
def notG (g:List Val→Option (Sim×List Val)) (c:List Val):Option Sim :=
 match g (Sl.trim c) with
 | some (x,[])=>if x.kind=11 then none else some (.mk 11 [] [] 0 0 [x])
 | _=>none
def pV (g:List Val→Option (Sim×List Val)) (c:List Val):Prop :=
 ∃ (y:Sim) (ok:Bool),den K 173 [L (encL c)] []=some (.ret (.tup [.agg (eL y),.c (.pv (.bool ok))]) [])∧(match notG g c with|some x=>y=x∧ok=true|none=>ok=false)
theorem dm (k:Int) (n v:List UInt8) (a b:Int) (x:Sim) (l:List Sim):eL (.mk k n v a b (x::l))=[.pv (.int .i64 k),.pv (.str n),.pv (.str v),.pv (.int .i64 a),.pv (.int .i64 b),.pv (.sl (Sim.encL (x::l)))]:=rfl
theorem mn (x:Sim):Sim.encL [x]=[x.enc]:=rfl
theorem o7 (k:Int) (n v:List UInt8) (a b:Int):(Sim.mk k n v a b []).enc=[.int .i64 k,.str n,.str v,.int .i64 a,.int .i64 b,.sl []]:=rfl
theorem mu (k:Int) (n v:List UInt8) (a b:Int) (x:Sim) (l:List Sim):(Sim.mk k n v a b (x::l)).enc=[.int .i64 k,.str n,.str v,.int .i64 a,.int .i64 b,.sl (Sim.encL (x::l))]:=rfl
theorem Cw (g:List Val→Option (Sim×List Val)) (c:List Val) (hc:c.length≤100000000) (h:iE (g (Sl.trim c)) true (Sl.trim c) 0):pV g c:=by
 have hr:Tryz.f173.results=#[.cell 2 52,.tmp 3]:=rfl
 have htrim:=mL c hc
 unfold pV notG;generalize Sl.trim c=R at h htrim;unfold iE SRes at h;have z0:((0:Nat):Int)=0:=rfl
 cases hg:g R with
 | none =>
  rw[hg] at h;obtain⟨x,j,h⟩:=h;obtain⟨k,n,v,a,b,xl⟩:=x;refine⟨.mk 11 [] [] 0 0 [.mk k n v a b xl],false,?_,rfl⟩
  cases xl
  all_goals
   simp only[aU,dm,mn,o7,mu,rb0,z0] at h ⊢;refine ah rfl rfl Tryz.func173 rfl Tryz.ntmps173 ⟨by simp,by simp[LK]⟩ ?_
   simp only[go_sem,reduceLT,reduceCtorEq,reduceEqDiff,Nat.reduceBEq,reduceAdd,reduceSub,reduceLeDiff,reduceMul,ab aI aN,ao (len:=1) aa dh ae ⟨rfl,by decide,by decide⟩,ab ae aj,hr,htrim,h]
 | some y =>
  obtain⟨x,r⟩:=y;rw[hg] at h;obtain⟨j,h1,h2,h3,h⟩:=h;obtain⟨k,n,v,a,b,xl⟩:=x;cases r with
  | nil =>
   have hj:j=R.length:=by
    have:=List.drop_eq_nil_iff.1 h1
    omega
   have ej:((j:Int)==(R.length:Int))=true:=by rw[hj];simp
   have hk:Sim.kind (.mk k n v a b xl)=k:=rfl
   simp only[hk];by_cases h11:k=11
   ·have ek:(k != 11)=false:=by rw[h11];rfl
    rw[if_pos h11];refine⟨.mk 11 [] [] 0 0 [.mk k n v a b xl],false,?_,rfl⟩
    cases xl
    all_goals
     simp only[aU,dm,mn,o7,mu,rb0,z0] at h ⊢;refine ah rfl rfl Tryz.func173 rfl Tryz.ntmps173 ⟨by simp,by simp[LK]⟩ ?_
     simp only[go_sem,reduceLT,reduceCtorEq,reduceEqDiff,Nat.reduceBEq,reduceAdd,reduceSub,reduceLeDiff,reduceMul,ab aI aN,ao (len:=1) aa dh ae ⟨rfl,by decide,by decide⟩,ab ae aj,af ak,hr,htrim,h,ej,ek,az]
   ·have ek:(k != 11)=true:=by rw[bne_iff_ne];exact h11
    rw[if_neg h11];refine⟨.mk 11 [] [] 0 0 [.mk k n v a b xl],true,?_,rfl,rfl⟩
    cases xl
    all_goals
     simp only[aU,dm,mn,o7,mu,rb0,z0] at h ⊢;refine ah rfl rfl Tryz.func173 rfl Tryz.ntmps173 ⟨by simp,by simp[LK]⟩ ?_
     simp only[go_sem,reduceLT,reduceCtorEq,reduceEqDiff,Nat.reduceBEq,reduceAdd,reduceSub,reduceLeDiff,reduceMul,ab aI aN,ao (len:=1) aa dh ae ⟨rfl,by decide,by decide⟩,ab ae aj,af ak,hr,htrim,h,ej,ek,az]
  | cons u r =>
   have hj:j<R.length:=(ia h1).2.2
   have ej:((j:Int)==(R.length:Int))=false:=by rw[beq_eq_false_iff_ne];omega
   refine⟨.mk 11 [] [] 0 0 [.mk k n v a b xl],false,?_,rfl⟩
   cases xl
   all_goals
    simp only[aU,dm,mn,o7,mu,rb0,z0] at h ⊢;refine ah rfl rfl Tryz.func173 rfl Tryz.ntmps173 ⟨by simp,by simp[LK]⟩ ?_
    simp only[go_sem,reduceLT,reduceCtorEq,reduceEqDiff,Nat.reduceBEq,reduceAdd,reduceSub,reduceLeDiff,reduceMul,ab aI aN,ao (len:=1) aa dh ae ⟨rfl,by decide,by decide⟩,ab ae aj,af ak,hr,htrim,h,ej,az]
attribute [local go_sem] wM py cu aZ bo ai dz aL bX dx dp dA
theorem FX (l:List Val) (e:Nat) (acc:List Val):Ends (exL K 145 attlp (pg l l.length e acc)) fun o S=>o=.exit 0∧S.nt=100∧S.sl 4=.c (.loc 9 0)∧S.sl 2=.c (.loc 2 0)∧S.bx 9=some [.own e (encL acc),.pv (.int .i64 0),.pv (.bool false)]∧S.bx 2=some [.pv (.int .i64 0),.pv (.str []),.pv (.str []),.pv (.int .i64 0),.pv (.int .i64 0),.own 0 []]∧S.bx 6=none∧S.bx 7=none:=by
 have hlt:decide ((l.length:Int)<(l.length:Int))=false:=decide_eq_false (by omega)
 unfold attlp
 conv in ap _ _=>whnf
 rw[aq];simp only[go_sem,reduceLT,reduceCtorEq,reduceEqDiff,Nat.reduceBEq,reduceAdd,af ak,az,ar]
theorem pD (l:List Val) (hl:l.length≤100000000):∀ (rest:List Val) (i e:Nat) (acc:List Val),l.drop i=rest→i≤l.length→(e=93∨acc=[])→acc.length≤i →
  Ends (exL K 145 attlp (pg l i e acc)) fun o S=>o=.exit 0∧S.nt=100∧S.sl 4=.c (.loc 9 0)∧S.sl 2=.c (.loc 2 0)∧(∃ e':Nat,S.bx 9=some [.own e' (encL (acc++noB rest)),.pv (.int .i64 0),.pv (.bool false)])∧S.bx 2=some [.pv (.int .i64 0),.pv (.str []),.pv (.str []),.pv (.int .i64 0),.pv (.int .i64 0),.own 0 []]∧S.bx 6=none∧S.bx 7=none
 | [],i,e,acc,hd,hi,he,ha=>by
  have hin:i=l.length:=by
   have:=List.drop_eq_nil_iff.1 hd
   omega
  subst hin;refine bu (FX l e acc) fun o S q=>⟨q.1,q.2.1,q.2.2.1,q.2.2.2.1,⟨e,?_⟩,q.2.2.2.2.2⟩
  rw[q.2.2.2.2.1];simp[noB]
 | v::rest,i,e,acc,hd,hi,he,ha=>by
  obtain⟨g1,g2,g3⟩:=ia hd;cases hb:Sl.ay v with
  | true =>
   rw[BG l i e acc hl v g1 hb];have hn:noB (v::rest)=noB rest:=by simp[noB,hb]
   rw[hn];exact pD l hl rest (i+1) e acc g2 g3 he (by omega)
  | false =>
   rw[Dm l i e acc hl (by omega) he v g1 hb]
   have hn:acc++noB (v::rest)=(acc++[v])++noB rest:=by simp[noB,hb]
   rw[hn];exact pD l hl rest (i+1) 93 (acc++[v]) g2 g3 (.inl rfl) (by simp;omega)
def sk (R:List Val):Option Sim :=
 match R with
 | [.mk k t _]=>if k=1∧t.kind=1 then some (.mk 5 t.text [] 0 0 []) else none
 | [.mk k t _,e,.mk k' u _]=>if k=1∧t.kind=1∧Sl.aW [61] e=true∧k'=1∧(u.kind=1∨u.kind=6) then some (.mk 6 t.text u.text 0 0 []) else none
 | _=>none
theorem Mc (l:List Val):Sl.attr l=sk (noB l):=rfl
theorem GG {R:List Val} (h:Sl.name R=none):sk R=none:=by
 have key:∀ (k:Int) (t:Tok) (c r:List Val),Sl.name (.mk k t c::r)=none→¬(k=1∧t.kind=1):=by
  intro k t c r h hh;unfold Sl.name Sl.tokK at h;simp only[if_pos hh] at h;cases h
 match R with
 | []=>rfl
 | [.mk k t c]=>exact if_neg (key k t c _ h)
 | [.mk _ _ _,.mk _ _ _]=>rfl
 | [.mk k t c,_,.mk k' u c']=>exact if_neg fun hh=>key k t c _ h ⟨hh.1,hh.2.1⟩
 | .mk _ _ _::_::.mk _ _ _::_::_=>rfl
theorem DI {R:List Val} (h1:R.length≠1) (h3:R.length≠3):sk R=none:=by
 match R with
 | []=>rfl
 | [_]=>exact absurd rfl h1
 | [.mk _ _ _,.mk _ _ _]=>rfl
 | [_,_,_]=>exact absurd rfl h3
 | .mk _ _ _::_::.mk _ _ _::_::_=>rfl
theorem KL {R r:List Val} {s:List UInt8} (h1:R.length=1) (h:Sl.name R=some (s,r)):sk R=some (.mk 5 s [] 0 0 []):=by
 obtain⟨t,c,e,hk,rfl⟩:=Sl.pP h;subst e;have:r=[]:=List.eq_nil_of_length_eq_zero (by simpa using h1)
 subst this;exact if_pos ⟨rfl,hk⟩
theorem Io {R:List Val} (h3:R.length=3) (hs:Sl.sign [61] (R.drop 1)=none):sk R=none:=by
 match R with
 | [.mk k t c,v,.mk k' u c'] =>
  refine if_neg fun hh => ?_
  have h':(if Sl.aW [61] v=true then some [Val.mk k' u c'] else none)=none:=hs
  rw[if_pos hh.2.2.1] at h';cases h'
theorem Ip {R r r' c:List Val} {s:List UInt8} {k:Int} {u:Tok} (h3:R.length=3) (h:Sl.name R=some (s,r)) (hs:Sl.sign [61] (R.drop 1)=some r') (h2:R[2]? = some (.mk k u c)) :
  sk R=if k=1∧(u.kind=1∨u.kind=6) then some (.mk 6 s u.text 0 0 []) else none:=by
 obtain⟨t,c1,e,hk,rfl⟩:=Sl.pP h;subst e
 match r with
 | [v,w] =>
  have hw:w=.mk k u c:=by simpa using h2
  subst hw;have hv:Sl.aW [61] v=true:=by
   have h':(if Sl.aW [61] v=true then some [Val.mk k u c] else none)=some r':=hs
   split at h'
   ·assumption
   ·cases h'
  unfold sk;simp only[hk,hv,true_and]
theorem len3 {R:List Val} (h:R.length=3):∃ k u c,R[2]? = some (Val.mk k u c):=by
 match R with
 | [_,_,.mk k u c]=>exact⟨k,u,c,rfl⟩
theorem Ho (l:List Val) (hl:l.length≤100000000):∃ (x:Sim) (ok:Bool),den K 145 [L (encL l)] []=some (.ret (.tup [.agg (eL x),.c (.pv (.bool ok))]) [])∧(match Sl.attr l with|some y=>x=y∧ok=true|none=>ok=false):=by
 have hr:Tryz.f145.results=#[.cell 2 52,.tmp 3]:=rfl
 obtain⟨o,S,w,rfl,hn,s4,s2,⟨e,b9⟩,b2,b6,b7⟩:=pD l hl l 0 0 [] rfl (Nat.zero_le _) (.inr rfl) (Nat.zero_le _);have z0:((0:Nat):Int)=0:=rfl
 have z1:((1:Nat):Int)=1:=rfl
 have z2:((2:Nat):Int)=2:=rfl
 have t2:(2:Int).toNat=2:=rfl
 have p2:(0:Int)≤2:=by decide
 unfold attlp at w
 conv at w in ap _ _=>whnf
 simp only[pg,z0] at w
 rw[List.nil_append] at b9
 rw[Mc];have hR:(noB l).length≤100000000:=Nat.le_trans (List.length_filter_le _ _) hl
 generalize noB l=R at b9 hR
 cases hnm:Sl.name R with
 | none =>
  have nm:=wq (some e) R 0 false hR (by rw[List.drop_zero];exact hnm)
  simp only[rb,fK,z0] at nm
  rw[GG hnm];by_cases L1:R.length=1
  ·have e1:((R.length:Int)==1)=true:=by rw[L1];rfl
   refine⟨.mk 5 [] [] 0 0 [],false,?_,rfl⟩
   refine ah rfl rfl Tryz.func145 rfl Tryz.ntmps145 ⟨by simp,by simp[LK]⟩ ?_
   simp only[go_sem,reduceLT,reduceEqDiff,Nat.reduceBEq,reduceAdd,reduceSub,reduceLeDiff,ab aI aN];rw[au];simp only[go_sem,reduceCtorEq,reduceEqDiff,Nat.reduceBEq,reduceSub,reduceLeDiff];erw [w];simp only[go_sem,reduceLT,reduceEqDiff,Nat.reduceBEq,reduceAdd,reduceLeDiff,af ak,ab ae aj,hr,hn,s4,s2,b9,b2,b6,nm,e1,az,aU]
  ·have e1:((R.length:Int)==1)=false:=by rw[beq_eq_false_iff_ne];omega
   by_cases L3:R.length=3
   ·have e3:((R.length:Int) != 3)=false:=by rw[L3];rfl
    cases hs:Sl.sign [61] (R.drop 0) with
    | none =>
     have sg:=vT (some e) R 0 true [61] hR hs
     simp only[rb,fK,z0] at sg
     refine⟨.mk 5 [] [] 0 0 [],false,?_,rfl⟩
     refine ah rfl rfl Tryz.func145 rfl Tryz.ntmps145 ⟨by simp,by simp[LK]⟩ ?_
     simp only[go_sem,reduceLT,reduceEqDiff,Nat.reduceBEq,reduceAdd,reduceSub,reduceLeDiff,ab aI aN];rw[au];simp only[go_sem,reduceCtorEq,reduceEqDiff,Nat.reduceBEq,reduceSub,reduceLeDiff];erw [w];simp only[go_sem,reduceLT,reduceEqDiff,Nat.reduceBEq,reduceAdd,reduceLeDiff,af ak,ab ae aj,hr,hn,s4,s2,b9,b2,b6,nm,e1,e3,sg,az,aU]
    | some r =>
     have sg:=(tD (some e) R 0 true [61] hR r hs).1
     simp only[rb,fK,z0,Nat.zero_add,z1] at sg
     obtain⟨k,u,c,h2⟩:=len3 L3;have hget:=fJ R 2 k u c h2
     have n2:((2:Nat):Int).toNat=2:=rfl
     simp only[n2] at hget;refine⟨.mk 6 [] u.text 0 0 [],false,?_,rfl⟩
     refine ah rfl rfl Tryz.func145 rfl Tryz.ntmps145 ⟨by simp,by simp[LK]⟩ ?_
     simp only[go_sem,reduceLT,reduceEqDiff,Nat.reduceBEq,reduceAdd,reduceSub,reduceLeDiff,ab aI aN];rw[au];simp only[go_sem,reduceCtorEq,reduceEqDiff,Nat.reduceBEq,reduceSub,reduceLeDiff];erw [w];simp only[go_sem,reduceLT,reduceEqDiff,Nat.reduceBEq,reduceAdd,reduceLeDiff,af ak,ag ak,ab ae aj,hr,hn,s4,s2,b9,b2,b6,b7,nm,e1,e3,sg,hget,t2,p2,az,aU]
   ·have e3:((R.length:Int) != 3)=true:=by rw[bne_iff_ne];omega
    refine⟨.mk 5 [] [] 0 0 [],false,?_,rfl⟩
    refine ah rfl rfl Tryz.func145 rfl Tryz.ntmps145 ⟨by simp,by simp[LK]⟩ ?_
    simp only[go_sem,reduceLT,reduceEqDiff,Nat.reduceBEq,reduceAdd,reduceSub,reduceLeDiff,ab aI aN];rw[au];simp only[go_sem,reduceCtorEq,reduceEqDiff,Nat.reduceBEq,reduceSub,reduceLeDiff];erw [w];simp only[go_sem,reduceLT,reduceEqDiff,Nat.reduceBEq,reduceAdd,reduceLeDiff,af ak,ab ae aj,hr,hn,s4,s2,b9,b2,b6,nm,e1,e3,az,aU]
 | some y =>
  obtain⟨s,r⟩:=y;have nm:=(yi (some e) R 0 false hR s r (by rw[List.drop_zero];exact hnm)).1
  simp only[rb,fK,z0,Nat.zero_add,z1] at nm
  by_cases L1:R.length=1
  ·have e1:((R.length:Int)==1)=true:=by rw[L1];rfl
   rw[KL L1 hnm];refine⟨.mk 5 s [] 0 0 [],true,?_,rfl,rfl⟩
   refine ah rfl rfl Tryz.func145 rfl Tryz.ntmps145 ⟨by simp,by simp[LK]⟩ ?_
   simp only[go_sem,reduceLT,reduceEqDiff,Nat.reduceBEq,reduceAdd,reduceSub,reduceLeDiff,ab aI aN];rw[au];simp only[go_sem,reduceCtorEq,reduceEqDiff,Nat.reduceBEq,reduceSub,reduceLeDiff];erw [w];simp only[go_sem,reduceLT,reduceEqDiff,Nat.reduceBEq,reduceAdd,reduceLeDiff,af ak,ab ae aj,hr,hn,s4,s2,b9,b2,b6,nm,e1,az,aU]
  ·have e1:((R.length:Int)==1)=false:=by rw[beq_eq_false_iff_ne];omega
   by_cases L3:R.length=3
   ·have e3:((R.length:Int) != 3)=false:=by rw[L3];rfl
    cases hs:Sl.sign [61] (R.drop 1) with
    | none =>
     have sg:=vT (some e) R 1 false [61] hR hs
     simp only[rb,fK,z1] at sg
     rw[Io L3 hs];refine⟨.mk 5 s [] 0 0 [],false,?_,rfl⟩
     refine ah rfl rfl Tryz.func145 rfl Tryz.ntmps145 ⟨by simp,by simp[LK]⟩ ?_
     simp only[go_sem,reduceLT,reduceEqDiff,Nat.reduceBEq,reduceAdd,reduceSub,reduceLeDiff,ab aI aN];rw[au];simp only[go_sem,reduceCtorEq,reduceEqDiff,Nat.reduceBEq,reduceSub,reduceLeDiff];erw [w];simp only[go_sem,reduceLT,reduceEqDiff,Nat.reduceBEq,reduceAdd,reduceLeDiff,af ak,ab ae aj,hr,hn,s4,s2,b9,b2,b6,nm,e1,e3,sg,az,aU]
    | some r' =>
     have sg:=(tD (some e) R 1 false [61] hR r' hs).1
     simp only[rb,fK,z1,reduceAdd,z2] at sg
     obtain⟨k,u,c,h2⟩:=len3 L3;have hget:=fJ R 2 k u c h2
     have n2:((2:Nat):Int).toNat=2:=rfl
     simp only[n2] at hget;rw[Ip L3 hnm hs h2];cases ek:(k==1)
     ·rw[if_neg (fun h=>by rw[h.1] at ek;cases ek)]
      refine⟨.mk 6 s u.text 0 0 [],false,?_,rfl⟩
      refine ah rfl rfl Tryz.func145 rfl Tryz.ntmps145 ⟨by simp,by simp[LK]⟩ ?_
      simp only[go_sem,reduceLT,reduceEqDiff,Nat.reduceBEq,reduceAdd,reduceSub,reduceLeDiff,ab aI aN];rw[au];simp only[go_sem,reduceCtorEq,reduceEqDiff,Nat.reduceBEq,reduceSub,reduceLeDiff];erw [w];simp only[go_sem,reduceLT,reduceEqDiff,Nat.reduceBEq,reduceAdd,reduceLeDiff,af ak,ag ak,ab ae aj,hr,hn,s4,s2,b9,b2,b6,b7,nm,e1,e3,sg,hget,t2,p2,ek,az,aU]
     ·have hk:k=1:=by simpa using ek
      cases eu:(u.kind==1)
      ·cases ev:(u.kind==6)
       ·rw[if_neg (fun h=>by
         rcases h.2 with h|h
         ·rw[h] at eu;cases eu
         ·rw[h] at ev;cases ev)]
        refine⟨.mk 6 s u.text 0 0 [],false,?_,rfl⟩
        refine ah rfl rfl Tryz.func145 rfl Tryz.ntmps145 ⟨by simp,by simp[LK]⟩ ?_
        simp only[go_sem,reduceLT,reduceEqDiff,Nat.reduceBEq,reduceAdd,reduceSub,reduceLeDiff,ab aI aN];rw[au];simp only[go_sem,reduceCtorEq,reduceEqDiff,Nat.reduceBEq,reduceSub,reduceLeDiff];erw [w];simp only[go_sem,reduceLT,reduceEqDiff,Nat.reduceBEq,reduceAdd,reduceLeDiff,af ak,ag ak,ab ae aj,hr,hn,s4,s2,b9,b2,b6,b7,nm,e1,e3,sg,hget,t2,p2,ek,eu,ev,az,aU]
       ·rw[if_pos ⟨hk,.inr (by simpa using ev)⟩]
        refine⟨.mk 6 s u.text 0 0 [],true,?_,rfl,rfl⟩
        refine ah rfl rfl Tryz.func145 rfl Tryz.ntmps145 ⟨by simp,by simp[LK]⟩ ?_
        simp only[go_sem,reduceLT,reduceEqDiff,Nat.reduceBEq,reduceAdd,reduceSub,reduceLeDiff,ab aI aN];rw[au];simp only[go_sem,reduceCtorEq,reduceEqDiff,Nat.reduceBEq,reduceSub,reduceLeDiff];erw [w];simp only[go_sem,reduceLT,reduceEqDiff,Nat.reduceBEq,reduceAdd,reduceLeDiff,af ak,ag ak,ab ae aj,hr,hn,s4,s2,b9,b2,b6,b7,nm,e1,e3,sg,hget,t2,p2,ek,eu,ev,az,aU]
      ·rw[if_pos ⟨hk,.inl (by simpa using eu)⟩]
       refine⟨.mk 6 s u.text 0 0 [],true,?_,rfl,rfl⟩
       refine ah rfl rfl Tryz.func145 rfl Tryz.ntmps145 ⟨by simp,by simp[LK]⟩ ?_
       simp only[go_sem,reduceLT,reduceEqDiff,Nat.reduceBEq,reduceAdd,reduceSub,reduceLeDiff,ab aI aN];rw[au];simp only[go_sem,reduceCtorEq,reduceEqDiff,Nat.reduceBEq,reduceSub,reduceLeDiff];erw [w];simp only[go_sem,reduceLT,reduceEqDiff,Nat.reduceBEq,reduceAdd,reduceLeDiff,af ak,ag ak,ab ae aj,hr,hn,s4,s2,b9,b2,b6,b7,nm,e1,e3,sg,hget,t2,p2,ek,eu,az,aU]
   ·have e3:((R.length:Int) != 3)=true:=by rw[bne_iff_ne];omega
    rw[DI L1 L3];refine⟨.mk 5 s [] 0 0 [],false,?_,rfl⟩
    refine ah rfl rfl Tryz.func145 rfl Tryz.ntmps145 ⟨by simp,by simp[LK]⟩ ?_
    simp only[go_sem,reduceLT,reduceEqDiff,Nat.reduceBEq,reduceAdd,reduceSub,reduceLeDiff,ab aI aN];rw[au];simp only[go_sem,reduceCtorEq,reduceEqDiff,Nat.reduceBEq,reduceSub,reduceLeDiff];erw [w];simp only[go_sem,reduceLT,reduceEqDiff,Nat.reduceBEq,reduceAdd,reduceLeDiff,af ak,ab ae aj,hr,hn,s4,s2,b9,b2,b6,nm,e1,e3,az,aU]
theorem Fv:∃ x:Sim,den K 145 [.c .nils] []=some (.ret (.tup [.agg (eL x),.c (.pv (.bool false))]) []):=by
 have hr:Tryz.f145.results=#[.cell 2 52,.tmp 3]:=rfl
 have nm:=wq (some 0) [] 0 false (by decide) rfl
 have z0:((0:Nat):Int)=0:=rfl
 have en:encL []=[]:=rfl
 have hz:decide ((0:Int)<0)=false:=rfl
 have e01:((0:Int)==1)=false:=rfl
 have e03:((0:Int) != 3)=true:=rfl
 simp only[rb,fK,z0,en] at nm
 refine⟨.mk 5 [] [] 0 0 [],?_⟩
 refine ah rfl rfl Tryz.func145 rfl Tryz.ntmps145 ⟨by simp,by simp[LK]⟩ ?_
 simp only[go_sem,reduceLT,reduceEqDiff,Nat.reduceBEq,reduceAdd,reduceSub,reduceLeDiff,ab aI aN];rw[au];simp only[go_sem,reduceCtorEq,reduceEqDiff,Nat.reduceBEq,reduceSub,reduceLeDiff];rw[aq];simp only[go_sem,reduceLT,reduceCtorEq,reduceEqDiff,Nat.reduceBEq,reduceAdd,reduceLeDiff,af ak,ab ae aj,hr,nm,z0,e01,e03,aU]
attribute [local go_sem] Fb KD Je fV fH eM
theorem fO (l:List Sim):(Sim.encL l).length=l.length:=by rw[Sim.encL_map,List.length_map]
theorem vq (l:List Sim):lens 6 (Sim.encL l)=true:=by
 rw[Sim.encL_map];simp only[lens,List.all_map,List.all_eq_true];intro x _;obtain⟨k,n,v,a,b,xl⟩:=x;rfl
theorem zV (a b c d e f:PV):lens 6 [[a,b,c,d,e,f]]=true:=rfl
theorem zm (a b:List Sim):Sim.encL (a++b)=Sim.encL a++Sim.encL b:=by rw[Sim.encL_map,Sim.encL_map,Sim.encL_map,List.map_append]
theorem CY (acc:List Sim) (k:Int) (n v:List UInt8) (a b:Int):Sim.encL acc++[[.int .i64 k,.str n,.str v,.int .i64 a,.int .i64 b,.sl []]]=Sim.encL (acc++[.mk k n v a b []]):=by rw[zm];rfl
theorem CE (acc:List Sim) (k:Int) (n v:List UInt8) (a b:Int) (x:Sim) (xl:List Sim):Sim.encL acc++[[.int .i64 k,.str n,.str v,.int .i64 a,.int .i64 b,.sl (Sim.encL (x::xl))]]=Sim.encL (acc++[.mk k n v a b (x::xl)]):=by rw[zm];rfl
abbrev zcpx:List CV:=[.own 0 [],.pv (.str [])]
abbrev pcell (cb:Int) (e:Nat) (acc:List Sim):List CV:=[.pv (.int .i64 cb),.own e (Sim.encL acc)]
abbrev iO (l:List Val) (i:Nat) (bad:Bool) (cb:Int) (e:Nat) (acc:List Sim) (e5:Nat) (ps:List (List PV)):St :=
  { sl:=upd (upd (upd (upd bot 7 (.c (.loc 7 0))) 5 (.c (.loc 5 0))) 4 (.c (.loc 10 0))) 2 (.c (.loc 2 0)),
    bx:=upd (upd (upd (upd nobox 10 (some (rb0 l i bad))) 7 (some (pcell cb e acc))) 5 (some [.own e5 ps,.pv (.str [])])) 2 (some zcpx),nt:=141 }
noncomputable def palp:Code:=.loop (ap Tryz.f48 6)
def PKept (S:St) (e5:Nat) (ps:List (List PV)):Prop:=S.nt=141∧S.sl 2=.c (.loc 2 0)∧S.sl 4=.c (.loc 10 0)∧S.sl 5=.c (.loc 5 0)∧S.sl 7=.c (.loc 7 0)∧S.bx 2=some zcpx∧S.bx 5=some [.own e5 ps,.pv (.str [])]
theorem Iw (l:List Val) (i:Nat) (cb:Int) (e:Nat) (acc:List Sim) (e5:Nat) (ps:List (List PV)) :
  Ends (exL K 48 palp (iO l i true cb e acc e5 ps)) fun o S=>o=.exit 2∧PKept S e5 ps∧S.bx 10=some (rb0 l i true)∧S.bx 7=some (pcell cb e acc):=by
 unfold palp PKept
 conv in ap _ _=>whnf
 rw[aq];simp only[go_sem,reduceLT,reduceEqDiff,Nat.reduceBEq,reduceAdd,ar]
theorem Ey (l:List Val) (i:Nat) (cb:Int) (e:Nat) (acc:List Sim) (e5:Nat) (ps:List (List PV)) (hl:l.length≤100000000) (ho:Sl.over (l.drop i)=true) :
  Ends (exL K 48 palp (iO l i false cb e acc e5 ps)) fun o S=>o=.exit 2∧PKept S e5 ps∧S.bx 10=some (rb0 l i false)∧S.bx 7=some (pcell cb e acc):=by
 have h1:=sD l i false hl
 rw[ho] at h1;simp only[rb0] at h1;unfold palp PKept
 conv in ap _ _=>whnf
 rw[aq];simp only[go_sem,reduceLT,reduceEqDiff,Nat.reduceBEq,reduceAdd,h1,ar]
theorem xZ (l:List Val) (i:Nat) (cb:Int) (e:Nat) (acc:List Sim) (e5:Nat) (ps:List (List PV)) (hl:l.length≤100000000) (hi:i≤l.length) (ho:Sl.over (l.drop i)=false) (hd:Sl.double (l.drop i)=true) :
  Ends (exL K 48 palp (iO l i false cb e acc e5 ps)) fun o S=>o=.exit 2∧PKept S e5 ps∧S.bx 10=some (rb0 l i false)∧S.bx 7=some (pcell cb e acc):=by
 have h1:=sD l i false hl
 rw[ho] at h1;have h2:=iu l i false hl (by omega)
 rw[hd] at h2;simp only[rb0] at h1 h2;unfold palp PKept
 conv in ap _ _=>whnf
 rw[aq];simp only[go_sem,reduceLT,reduceEqDiff,Nat.reduceBEq,reduceAdd,h1,h2,ar]
theorem uR (l:List Val) (i:Nat) (cb:Int) (e:Nat) (acc:List Sim) (e5:Nat) (ps:List (List PV)) (hl:l.length≤100000000) (hi:i≤l.length) (ho:Sl.over (l.drop i)=false) (hd:Sl.double (l.drop i)=false)
  (hlen:acc.length≤100000000) (he:e=52∨acc=[]) (first:Bool) (hf:((acc.length:Int)==0)=first) (x:Sim) (j:Nat) (bad:Bool) (hs:den K 95 [P0,B first] [rb0 l i false]=some (.ret (.agg (eL x)) [rb0 l j bad])) :
  exL K 48 palp (iO l i false cb e acc e5 ps)=exL K 48 palp (iO l j bad cb 52 (acc++[x]) e5 ps):=by
 have h1:=sD l i false hl
 rw[ho] at h1;have h2:=iu l i false hl (by omega)
 rw[hd] at h2;have hown:e=52∨(Sim.encL acc).isEmpty=true:=by
  rcases he with rfl|rfl
  ·exact .inl rfl
  ·exact .inr rfl
 have hlim:acc.length+1<cw:=by unfold cw;omega
 have hlv:=vq acc
 obtain⟨k,n,v,a,b,xl⟩:=x;unfold palp
 conv in ap _ _=>whnf
 conv in ap _ _=>whnf
 cases xl
 all_goals
  simp only[rb0,aU,dm] at h1 h2 hs
  conv in exL _ _ _ (iO l i false cb e acc e5 ps)=>rw[aq]
  simp only[go_sem,reduceLT,reduceCtorEq,reduceEqDiff,Nat.reduceBEq,reduceAdd,reduceMul,af aa,ao (len:=1) aa dh ae ⟨rfl,by decide,by decide⟩,bB nT,aX aa,h1,h2,hs,hf,fO,hown,hlim,hlv,zV,CY,CE]
  first|rw[aJ]|rw[aR]
  rotate_left
  ·kernel_rfl
  simp only[go_sem];rw[au];simp only[go_sem,reduceEqDiff,Nat.reduceBEq]
attribute [local go_sem] gK a6 fG fj i7 gS aP dl fk jF Kb vA
theorem aO {α:Type} {ops ops' ops2:List Oper} {n j i n' j' i' n2 j2 i2:Nat} {a b:α} (h:(reach ops n j i&&(reach ops' n' j' i'&&reach ops2 n2 j2 i2))=true):(if (reach ops n j i&&(reach ops' n' j' i'&&reach ops2 n2 j2 i2))=true then a else b)=a:=if_pos h
abbrev encQ (l:List Prt):List (List PV):=l.map Prt.enc
theorem cP (l:List Prt):(encQ l).length=l.length:=List.length_map ..
theorem g8 (l:List Prt):lens 2 (encQ l)=true:=by
 simp only[lens,List.all_map,List.all_eq_true];intro x _;rfl
theorem eT (a b:PV):lens 2 [[a,b]]=true:=rfl
theorem fc (l:List Prt) (cb:Int) (acc:List Sim):encQ l++[[.int .i64 cb,.sl (Sim.encL acc)]]=encQ (l++[⟨cb,acc⟩]):=by
 show _=(l++[(⟨cb,acc⟩:Prt)]).map Prt.enc
 rw[List.map_append,Sim.encL_map];rfl
abbrev cx4H (l:List Val) (i:Nat) (cb:Int) (e:Nat) (ps:List Prt):St :=
  { sl:=upd (upd (upd (upd bot 6 (I cb)) 5 (.c (.loc 5 0))) 4 (.c (.loc 10 0))) 2 (.c (.loc 2 0)),
    bx:=upd (upd (upd nobox 10 (some (rb0 l i false))) 5 (some [.own e (encQ ps),.pv (.str [])])) 2 (some zcpx),nt:=141 }
noncomputable def cxlp:Code:=.loop (ap Tryz.f48 4)
theorem Hw (l:List Val) (i:Nat) (cb:Int) (e:Nat) (ps:List Prt) (h:¬ ps.length<16) :
  Ends (exL K 48 cxlp (cx4H l i cb e ps)) fun o S=>o=.exit 0∧S.nt=141∧S.sl 2=.c (.loc 2 0)∧S.bx 2=some zcpx:=by
 have e1:decide ((ps.length:Int)<16)=false:=decide_eq_false (by omega)
 unfold cxlp
 conv in ap _ _=>whnf
 rw[aq];simp only[go_sem,reduceLT,reduceEqDiff,Nat.reduceBEq,reduceAdd,af aw,cP,e1,ar]
def CNo (o:Out) (S:St):Prop:=o=.ret∧S.sl 2=.c (.loc 2 0)∧S.sl 3=B false∧S.bx 2=some [.nils,.pv (.str [])]
def CYes (ps:List Prt) (s:List UInt8) (o:Out) (S:St):Prop:=o=.ret∧S.sl 2=.c (.loc 2 0)∧S.sl 3=B true∧S.bx 2=some [.pv (.sl (encQ ps)),.pv (.str s)]
theorem Kt (l:List Val) (i:Nat) (cb:Int) (e:Nat) (ps:List Prt) (hl:l.length≤100000000) (h16:ps.length<16) (he:e=50∨ps=[]) (S:St) (w:exL K 48 palp (iO l i false cb 0 [] e (encQ ps))=some (.exit 2,S)) (hk:PKept S e (encQ ps)) (j e7:Nat) (acc:List Sim) (gb10:S.bx 10=some (rb0 l j true)) (gb7:S.bx 7=some (pcell cb e7 acc)) :
  Ends (exL K 48 cxlp (cx4H l i cb e ps)) fun o S=>CNo o S:=by
 have e16:decide ((ps.length:Int)<16)=true:=decide_eq_true (by omega)
 have hown:e=50∨(encQ ps).isEmpty=true:=by
  rcases he with rfl|rfl
  ·exact .inl rfl
  ·exact .inr rfl
 have hlim:ps.length+1<cw:=by unfold cw;omega
 have hlv:=g8 ps
 unfold PKept at hk;obtain⟨gn,g2,g4,g5,g7,gb2,gb5⟩:=hk;simp only[rb0,pcell] at gb10 gb7
 unfold palp at w
 conv at w in ap _ _=>whnf
 simp only[iO,rb0,pcell] at w
 unfold cxlp
 conv in ap _ _=>whnf
 unfold CNo;rw[aq];simp only[go_sem,reduceLT,reduceEqDiff,Nat.reduceBEq,reduceAdd,reduceLeDiff,af aw,ab aP cL,cP,e16];rw[au];simp only[go_sem,reduceEqDiff,Nat.reduceBEq];erw [w];simp only[go_sem,reduceLT,reduceCtorEq,reduceEqDiff,Nat.reduceBEq,reduceAdd,reduceLeDiff,reduceMul,ab a6 cG,ao (len:=1) aw dl aP ⟨rfl,by decide,by decide⟩,bB cY,aX aw,cP,hown,hlim,hlv,eT,fc,gn,g2,g4,g5,g7,gb2,gb5,gb7,gb10,ar]
theorem EC (l:List Val) (i:Nat) (cb:Int) (e:Nat) (ps:List Prt) (hl:l.length≤100000000) (h16:ps.length<16) (he:e=50∨ps=[]) (S:St) (w:exL K 48 palp (iO l i false cb 0 [] e (encQ ps))=some (.exit 2,S)) (hk:PKept S e (encQ ps)) (j e7:Nat) (acc:List Sim) (hj:j≤l.length) (hd:Sl.double (l.drop j)=false) (hw:8<acc.length∨acc=[]) (gb10:S.bx 10=some (rb0 l j false)) (gb7:S.bx 7=some (pcell cb e7 acc)) :
  Ends (exL K 48 cxlp (cx4H l i cb e ps)) fun o S=>CNo o S:=by
 have dd:=iu l j false hl (by omega)
 rw[hd] at dd
 simp only[rb0] at dd
 have e16:decide ((ps.length:Int)<16)=true:=decide_eq_true (by omega)
 have hown:e=50∨(encQ ps).isEmpty=true:=by
  rcases he with rfl|rfl
  ·exact .inl rfl
  ·exact .inr rfl
 have hlim:ps.length+1<cw:=by unfold cw;omega
 have hlv:=g8 ps
 unfold PKept at hk;obtain⟨gn,g2,g4,g5,g7,gb2,gb5⟩:=hk;simp only[rb0,pcell] at gb10 gb7
 unfold palp at w
 conv at w in ap _ _=>whnf
 simp only[iO,rb0,pcell] at w
 unfold cxlp
 conv in ap _ _=>whnf
 unfold CNo;by_cases h8:8<acc.length
 ·have e8:decide ((8:Int)<(acc.length:Int))=true:=decide_eq_true (by omega)
  rw[aq];simp only[go_sem,reduceLT,reduceEqDiff,Nat.reduceBEq,reduceAdd,reduceLeDiff,af aw,ab aP cL,cP,e16];rw[au];simp only[go_sem,reduceEqDiff,Nat.reduceBEq];erw [w];simp only[go_sem,reduceLT,reduceCtorEq,reduceEqDiff,Nat.reduceBEq,reduceAdd,reduceLeDiff,reduceMul,ab a6 cG,af aa,ao (len:=1) aw dl aP ⟨rfl,by decide,by decide⟩,bB cY,aX aw,cP,hown,hlim,hlv,eT,fc,fO,gn,g2,g4,g5,g7,gb2,gb5,gb7,gb10,dd,e8,ar]
 ·have e8:decide ((8:Int)<(acc.length:Int))=false:=decide_eq_false (by omega)
  have e0:((acc.length:Int)==0)=true:=by
   rcases hw with h|h
   ·exact absurd h h8
   ·rw[h];rfl
  rw[aq];simp only[go_sem,reduceLT,reduceEqDiff,Nat.reduceBEq,reduceAdd,reduceLeDiff,af aw,ab aP cL,cP,e16];rw[au];simp only[go_sem,reduceEqDiff,Nat.reduceBEq];erw [w];simp only[go_sem,reduceLT,reduceCtorEq,reduceEqDiff,Nat.reduceBEq,reduceAdd,reduceLeDiff,reduceMul,ab a6 cG,af aa,ao (len:=1) aw dl aP ⟨rfl,by decide,by decide⟩,bB cY,aX aw,cP,hown,hlim,hlv,eT,fc,fO,gn,g2,g4,g5,g7,gb2,gb5,gb7,gb10,dd,e8,e0,ar]
theorem GQ (l:List Val) (i:Nat) (cb:Int) (e:Nat) (ps:List Prt) (hl:l.length≤100000000) (h16:ps.length<16) (he:e=50∨ps=[]) (S:St) (w:exL K 48 palp (iO l i false cb 0 [] e (encQ ps))=some (.exit 2,S)) (hk:PKept S e (encQ ps)) (e7:Nat) (acc:List Sim) (hd:Sl.double (l.drop l.length)=false) (h8:acc.length≤8) (hne:acc≠[]) (gb10:S.bx 10=some (rb0 l l.length false)) (gb7:S.bx 7=some (pcell cb e7 acc)) :
  Ends (exL K 48 cxlp (cx4H l i cb e ps)) fun o S=>CYes (ps++[⟨cb,acc⟩]) [] o S:=by
 have dd:=iu l l.length false hl (by omega)
 rw[hd] at dd
 simp only[rb0] at dd
 have en:((l.length:Int)==(l.length:Int))=true:=beq_self_eq_true _
 have e8:decide ((8:Int)<(acc.length:Int))=false:=decide_eq_false (by omega)
 have e0:((acc.length:Int)==0)=false:=by
  rw[beq_eq_false_iff_ne];intro h;exact hne (List.eq_nil_of_length_eq_zero (by omega))
 have e16:decide ((ps.length:Int)<16)=true:=decide_eq_true (by omega)
 have hown:e=50∨(encQ ps).isEmpty=true:=by
  rcases he with rfl|rfl
  ·exact .inl rfl
  ·exact .inr rfl
 have hlim:ps.length+1<cw:=by unfold cw;omega
 have hlv:=g8 ps
 unfold PKept at hk;obtain⟨gn,g2,g4,g5,g7,gb2,gb5⟩:=hk;simp only[rb0,pcell] at gb10 gb7
 unfold palp at w
 conv at w in ap _ _=>whnf
 simp only[iO,rb0,pcell] at w
 unfold cxlp
 conv in ap _ _=>whnf
 unfold CYes;rw[aq];simp only[go_sem,reduceLT,reduceEqDiff,Nat.reduceBEq,reduceAdd,reduceLeDiff,af aw,ab aP cL,cP,e16];rw[au];simp only[go_sem,reduceEqDiff,Nat.reduceBEq];erw [w];simp only[go_sem,reduceLT,reduceCtorEq,reduceEqDiff,Nat.reduceBEq,reduceAdd,reduceLeDiff,reduceMul,ab a6 cG,af aa,af ak,ao (len:=1) aw dl aP ⟨rfl,by decide,by decide⟩,bB cY,aX aw,cP,hown,hlim,hlv,eT,fc,fO,gn,g2,g4,g5,g7,gb2,gb5,gb7,gb10,dd,e8,e0,en,az,ar]
theorem FZ (l:List Val) (i:Nat) (cb:Int) (e:Nat) (ps:List Prt) (hl:l.length≤100000000) (h16:ps.length<16) (he:e=50∨ps=[]) (S:St) (w:exL K 48 palp (iO l i false cb 0 [] e (encQ ps))=some (.exit 2,S)) (hk:PKept S e (encQ ps)) (j e7:Nat) (acc:List Sim) (hj:j<l.length) (hd:Sl.double (l.drop j)=false) (h8:acc.length≤8) (hne:acc≠[]) (gb10:S.bx 10=some (rb0 l j false)) (gb7:S.bx 7=some (pcell cb e7 acc)) (c:Int) (m:Nat) (hc:den K 97 [P0] [rb0 l j false]=some (.ret (I c) [rb0 l m false])) :
  exL K 48 cxlp (cx4H l i cb e ps)=exL K 48 cxlp (cx4H l m c 50 (ps++[⟨cb,acc⟩])):=by
 have dd:=iu l j false hl (by omega)
 rw[hd] at dd
 simp only[rb0] at dd hc
 have en:((j:Int)==(l.length:Int))=false:=by rw[beq_eq_false_iff_ne];omega
 have e8:decide ((8:Int)<(acc.length:Int))=false:=decide_eq_false (by omega)
 have e0:((acc.length:Int)==0)=false:=by
  rw[beq_eq_false_iff_ne];intro h;exact hne (List.eq_nil_of_length_eq_zero (by omega))
 have e16:decide ((ps.length:Int)<16)=true:=decide_eq_true (by omega)
 have hown:e=50∨(encQ ps).isEmpty=true:=by
  rcases he with rfl|rfl
  ·exact .inl rfl
  ·exact .inr rfl
 have hlim:ps.length+1<cw:=by unfold cw;omega
 have hlv:=g8 ps
 unfold PKept at hk;obtain⟨gn,g2,g4,g5,g7,gb2,gb5⟩:=hk;simp only[rb0,pcell] at gb10 gb7
 unfold palp at w
 conv at w in ap _ _=>whnf
 simp only[iO,rb0,pcell] at w
 unfold cxlp
 conv in ap _ _=>whnf
 conv in ap _ _=>whnf
 conv in exL _ _ _ (cx4H l i cb e ps)=>rw[aq]
 simp only[go_sem,reduceLT,reduceEqDiff,Nat.reduceBEq,reduceAdd,reduceLeDiff,af aw,ab aP cL,cP,e16];rw[au];simp only[go_sem,reduceEqDiff,Nat.reduceBEq];erw [w];simp only[go_sem,reduceLT,reduceCtorEq,reduceEqDiff,Nat.reduceBEq,reduceAdd,reduceLeDiff,reduceMul,ab a6 cG,af aa,af ak,ao (len:=1) aw dl aP ⟨rfl,by decide,by decide⟩,bB cY,aX aw,cP,hown,hlim,hlv,eT,fc,fO,gn,g2,g4,g5,g7,gb2,gb5,gb7,gb10,dd,e8,e0,en,hc,az]
 rw[au];simp only[go_sem,reduceEqDiff,Nat.reduceBEq,g2,g4,g5,gb2]
theorem Ev (l:List Val) (i:Nat) (cb:Int) (e:Nat) (ps:List Prt) (hl:l.length≤100000000) (h16:ps.length<16) (he:e=50∨ps=[]) (S:St) (w:exL K 48 palp (iO l i false cb 0 [] e (encQ ps))=some (.exit 2,S)) (hk:PKept S e (encQ ps)) (j e7:Nat) (acc:List Sim) (hj:j<l.length) (hd:Sl.double (l.drop j)=true) (hn:Sl.name (l.drop (j+2))=none) (gb10:S.bx 10=some (rb0 l j false)) (gb7:S.bx 7=some (pcell cb e7 acc)) :
  Ends (exL K 48 cxlp (cx4H l i cb e ps)) fun o S=>CNo o S:=by
 have dd:=iu l j false hl (by omega)
 rw[hd] at dd
 simp only[rb0] at dd
 have w2:IntKind.i64.wrap ((j:Int)+2)=((j+2:Nat):Int):=by rw[IntWalk.i64_in _ (by omega)];omega
 have nm:=sJ l (j+2) false hl hn
 simp only[rb0] at nm
 have e16:decide ((ps.length:Int)<16)=true:=decide_eq_true (by omega)
 have hown:e=50∨(encQ ps).isEmpty=true:=by
  rcases he with rfl|rfl
  ·exact .inl rfl
  ·exact .inr rfl
 have hlim:ps.length+1<cw:=by unfold cw;omega
 have hlv:=g8 ps
 unfold PKept at hk;obtain⟨gn,g2,g4,g5,g7,gb2,gb5⟩:=hk;simp only[rb0,pcell] at gb10 gb7
 unfold palp at w
 conv at w in ap _ _=>whnf
 simp only[iO,rb0,pcell] at w
 unfold cxlp
 conv in ap _ _=>whnf
 unfold CNo;rw[aq];simp only[go_sem,reduceLT,reduceEqDiff,Nat.reduceBEq,reduceAdd,reduceLeDiff,af aw,ab aP cL,cP,e16];rw[au];simp only[go_sem,reduceEqDiff,Nat.reduceBEq];erw [w];simp only[go_sem,reduceLT,reduceEqDiff,Nat.reduceBEq,reduceAdd,reduceLeDiff,gn,g4,g5,gb5,gb10,dd,w2,nm]
 first|rw[aR]|rw[aJ]|rw[aO]
 rotate_left
 ·kernel_rfl
 simp only[go_sem,reduceLT,reduceCtorEq,reduceEqDiff,Nat.reduceBEq,reduceAdd,reduceLeDiff,reduceMul,ab a6 cG,ao (len:=1) aw dl aP ⟨rfl,by decide,by decide⟩,bB cY,aX aw,cP,hown,hlim,hlv,eT,fc,g2,g4,g5,g7,gb2,gb5,gb7,gb10,ar]
theorem BX (l:List Val) (i:Nat) (cb:Int) (e:Nat) (ps:List Prt) (hl:l.length≤100000000) (h16:ps.length<16) (he:e=50∨ps=[]) (S:St) (w:exL K 48 palp (iO l i false cb 0 [] e (encQ ps))=some (.exit 2,S)) (hk:PKept S e (encQ ps)) (j e7:Nat) (acc:List Sim) (hj:j<l.length) (hd:Sl.double (l.drop j)=true) (s:List UInt8) (r:List Val) (hn:Sl.name (l.drop (j+2))=some (s,r)) (gb10:S.bx 10=some (rb0 l j false)) (gb7:S.bx 7=some (pcell cb e7 acc)) :
  if r=[]∧(s=Sl.fg∨s=Sl.fZ)∧acc.length≤8 then Ends (exL K 48 cxlp (cx4H l i cb e ps)) (fun o S=>CYes (ps++[⟨cb,acc⟩]) s o S) else Ends (exL K 48 cxlp (cx4H l i cb e ps)) fun o S=>CNo o S:=by
 have dd:=iu l j false hl (by omega)
 rw[hd] at dd
 simp only[rb0] at dd
 have w2:IntKind.i64.wrap ((j:Int)+2)=((j+2:Nat):Int):=by rw[IntWalk.i64_in _ (by omega)];omega
 obtain⟨nm,nd,ni⟩:=nw l (j+2) false hl s r hn;simp only[rb0] at nm
 have e16:decide ((ps.length:Int)<16)=true:=decide_eq_true (by omega)
 have hown:e=50∨(encQ ps).isEmpty=true:=by
  rcases he with rfl|rfl
  ·exact .inl rfl
  ·exact .inr rfl
 have hlim:ps.length+1<cw:=by unfold cw;omega
 have hlv:=g8 ps
 unfold PKept at hk;obtain⟨gn,g2,g4,g5,g7,gb2,gb5⟩:=hk;simp only[rb0,pcell] at gb10 gb7
 unfold palp at w
 conv at w in ap _ _=>whnf
 simp only[iO,rb0,pcell] at w
 by_cases h1:s=Sl.fg∨s=Sl.fZ
 ·have hb:∃ b,(s != [98,101,102,111,114,101])=b∧(b=true→(s != [97,102,116,101,114])=false)∧(s==[])=false:=by
   rcases h1 with rfl|rfl
   ·exact⟨false,rfl,(fun h=>by cases h),rfl⟩
   ·exact⟨true,rfl,(fun _=>rfl),rfl⟩
  obtain⟨b,b1,b2,b3⟩:=hb;by_cases h2:r=[]
  ·have hjl:j+3=l.length:=by
    rw[h2] at nd
    have:=List.drop_eq_nil_iff.1 nd
    omega
   have e2:decide (((j+2+1:Nat):Int)<(l.length:Int))=false:=decide_eq_false (by omega)
   have en:(((j+2+1:Nat):Int)==(l.length:Int))=true:=by rw[beq_iff_eq];omega
   by_cases h8:acc.length≤8
   ·rw[if_pos (show r=[]∧(s=Sl.fg∨s=Sl.fZ)∧acc.length≤8 from⟨h2,h1,h8⟩)]
    unfold CYes;have e8:decide ((8:Int)<(acc.length:Int))=false:=decide_eq_false (by omega)
    cases h0:((acc.length:Int)==0)
    all_goals
     cases b
     ·unfold cxlp
      conv in ap _ _=>whnf
      rw[aq];simp only[go_sem,reduceLT,reduceEqDiff,Nat.reduceBEq,reduceAdd,reduceLeDiff,af aw,ab aP cL,cP,e16];rw[au];simp only[go_sem,reduceEqDiff,Nat.reduceBEq];erw [w];simp only[go_sem,reduceLT,reduceEqDiff,Nat.reduceBEq,reduceAdd,reduceLeDiff,af ak,gn,g4,g5,gb5,gb10,dd,w2,nm,b1,e2,az]
      first|rw[aR]|rw[aJ]|rw[aO]
      rotate_left
      ·kernel_rfl
      simp only[go_sem,reduceLT,reduceCtorEq,reduceEqDiff,Nat.reduceBEq,reduceAdd,reduceLeDiff,reduceMul,ab a6 cG,af aa,af ak,ao (len:=1) aw dl aP ⟨rfl,by decide,by decide⟩,bB cY,aX aw,cP,hown,hlim,hlv,eT,fc,fO,g2,g4,g5,g7,gb2,gb5,gb7,gb10,b3,e8,h0,en,az,ar]
     ·have b4:=b2 rfl
      unfold cxlp
      conv in ap _ _=>whnf
      rw[aq];simp only[go_sem,reduceLT,reduceEqDiff,Nat.reduceBEq,reduceAdd,reduceLeDiff,af aw,ab aP cL,cP,e16];rw[au];simp only[go_sem,reduceEqDiff,Nat.reduceBEq];erw [w];simp only[go_sem,reduceLT,reduceEqDiff,Nat.reduceBEq,reduceAdd,reduceLeDiff,af ak,gn,g4,g5,gb5,gb10,dd,w2,nm,b1,b4,e2,az]
      first|rw[aR]|rw[aJ]|rw[aO]
      rotate_left
      ·kernel_rfl
      simp only[go_sem,reduceLT,reduceCtorEq,reduceEqDiff,Nat.reduceBEq,reduceAdd,reduceLeDiff,reduceMul,ab a6 cG,af aa,af ak,ao (len:=1) aw dl aP ⟨rfl,by decide,by decide⟩,bB cY,aX aw,cP,hown,hlim,hlv,eT,fc,fO,g2,g4,g5,g7,gb2,gb5,gb7,gb10,b3,e8,h0,en,az,ar]
   ·rw[if_neg (show ¬(r=[]∧(s=Sl.fg∨s=Sl.fZ)∧acc.length≤8) from fun h=>h8 h.2.2)]
    unfold CNo;have e8:decide ((8:Int)<(acc.length:Int))=true:=decide_eq_true (by omega)
    cases b
    ·unfold cxlp
     conv in ap _ _=>whnf
     rw[aq];simp only[go_sem,reduceLT,reduceEqDiff,Nat.reduceBEq,reduceAdd,reduceLeDiff,af aw,ab aP cL,cP,e16];rw[au];simp only[go_sem,reduceEqDiff,Nat.reduceBEq];erw [w];simp only[go_sem,reduceLT,reduceEqDiff,Nat.reduceBEq,reduceAdd,reduceLeDiff,af ak,gn,g4,g5,gb5,gb10,dd,w2,nm,b1,e2,az]
     first|rw[aR]|rw[aJ]|rw[aO]
     rotate_left
     ·kernel_rfl
     simp only[go_sem,reduceLT,reduceCtorEq,reduceEqDiff,Nat.reduceBEq,reduceAdd,reduceLeDiff,reduceMul,ab a6 cG,af aa,ao (len:=1) aw dl aP ⟨rfl,by decide,by decide⟩,bB cY,aX aw,cP,hown,hlim,hlv,eT,fc,fO,g2,g4,g5,g7,gb2,gb5,gb7,gb10,e8,ar]
    ·have b4:=b2 rfl
     unfold cxlp
     conv in ap _ _=>whnf
     rw[aq];simp only[go_sem,reduceLT,reduceEqDiff,Nat.reduceBEq,reduceAdd,reduceLeDiff,af aw,ab aP cL,cP,e16];rw[au];simp only[go_sem,reduceEqDiff,Nat.reduceBEq];erw [w];simp only[go_sem,reduceLT,reduceEqDiff,Nat.reduceBEq,reduceAdd,reduceLeDiff,af ak,gn,g4,g5,gb5,gb10,dd,w2,nm,b1,b4,e2,az]
     first|rw[aR]|rw[aJ]|rw[aO]
     rotate_left
     ·kernel_rfl
     simp only[go_sem,reduceLT,reduceCtorEq,reduceEqDiff,Nat.reduceBEq,reduceAdd,reduceLeDiff,reduceMul,ab a6 cG,af aa,ao (len:=1) aw dl aP ⟨rfl,by decide,by decide⟩,bB cY,aX aw,cP,hown,hlim,hlv,eT,fc,fO,g2,g4,g5,g7,gb2,gb5,gb7,gb10,e8,ar]
  ·rw[if_neg (show ¬(r=[]∧(s=Sl.fg∨s=Sl.fZ)∧acc.length≤8) from fun h=>h2 h.1)]
   unfold CNo;have hjl:j+3<l.length:=by
    rcases Nat.lt_or_ge (j+3) l.length with h|h
    ·exact h
    ·exact absurd (by rw[←nd];exact List.drop_eq_nil_iff.2 h) h2
   have e2:decide (((j+2+1:Nat):Int)<(l.length:Int))=true:=decide_eq_true (by omega)
   cases b
   ·unfold cxlp
    conv in ap _ _=>whnf
    rw[aq];simp only[go_sem,reduceLT,reduceEqDiff,Nat.reduceBEq,reduceAdd,reduceLeDiff,af aw,ab aP cL,cP,e16];rw[au];simp only[go_sem,reduceEqDiff,Nat.reduceBEq];erw [w];simp only[go_sem,reduceLT,reduceEqDiff,Nat.reduceBEq,reduceAdd,reduceLeDiff,af ak,gn,g4,g5,gb5,gb10,dd,w2,nm,b1,e2,az]
    first|rw[aR]|rw[aJ]|rw[aO]
    rotate_left
    ·kernel_rfl
    simp only[go_sem,reduceLT,reduceCtorEq,reduceEqDiff,Nat.reduceBEq,reduceAdd,reduceLeDiff,reduceMul,ab a6 cG,ao (len:=1) aw dl aP ⟨rfl,by decide,by decide⟩,bB cY,aX aw,cP,hown,hlim,hlv,eT,fc,g2,g4,g5,g7,gb2,gb5,gb7,gb10,ar]
   ·have b4:=b2 rfl
    unfold cxlp
    conv in ap _ _=>whnf
    rw[aq];simp only[go_sem,reduceLT,reduceEqDiff,Nat.reduceBEq,reduceAdd,reduceLeDiff,af aw,ab aP cL,cP,e16];rw[au];simp only[go_sem,reduceEqDiff,Nat.reduceBEq];erw [w];simp only[go_sem,reduceLT,reduceEqDiff,Nat.reduceBEq,reduceAdd,reduceLeDiff,af ak,gn,g4,g5,gb5,gb10,dd,w2,nm,b1,b4,e2,az]
    first|rw[aR]|rw[aJ]|rw[aO]
    rotate_left
    ·kernel_rfl
    simp only[go_sem,reduceLT,reduceCtorEq,reduceEqDiff,Nat.reduceBEq,reduceAdd,reduceLeDiff,reduceMul,ab a6 cG,ao (len:=1) aw dl aP ⟨rfl,by decide,by decide⟩,bB cY,aX aw,cP,hown,hlim,hlv,eT,fc,g2,g4,g5,g7,gb2,gb5,gb7,gb10,ar]
 ·rw[if_neg (show ¬(r=[]∧(s=Sl.fg∨s=Sl.fZ)∧acc.length≤8) from fun h=>h1 h.2.1)]
  unfold CNo;have b1:(s != [98,101,102,111,114,101])=true:=by rw[bne_iff_ne];exact fun h=>h1 (.inl h)
  have b4:(s != [97,102,116,101,114])=true:=by rw[bne_iff_ne];exact fun h=>h1 (.inr h)
  unfold cxlp
  conv in ap _ _=>whnf
  rw[aq];simp only[go_sem,reduceLT,reduceEqDiff,Nat.reduceBEq,reduceAdd,reduceLeDiff,af aw,ab aP cL,cP,e16];rw[au];simp only[go_sem,reduceEqDiff,Nat.reduceBEq];erw [w];simp only[go_sem,reduceLT,reduceEqDiff,Nat.reduceBEq,reduceAdd,reduceLeDiff,gn,g4,g5,gb5,gb10,dd,w2,nm,b1,b4]
  first|rw[aR]|rw[aJ]|rw[aO]
  rotate_left
  ·kernel_rfl
  simp only[go_sem,reduceLT,reduceCtorEq,reduceEqDiff,Nat.reduceBEq,reduceAdd,reduceLeDiff,reduceMul,ab a6 cG,ao (len:=1) aw dl aP ⟨rfl,by decide,by decide⟩,bB cY,aX aw,cP,hown,hlim,hlv,eT,fc,g2,g4,g5,g7,gb2,gb5,gb7,gb10,ar]
attribute [local go_sem] Kj eG
theorem jy {u:Nat} (h:u<10):Lib.decDigits u=[UInt8.ofNat (48+u)]:=by rw[Lib.decDigits,dif_pos h]
theorem nM {u:Nat} (h:¬ u<10):Lib.decDigits u=Lib.decDigits (u / 10)++[UInt8.ofNat (48+u % 10)]:=by rw[Lib.decDigits,dif_neg h]
theorem zS (u:Nat):(u:Int).tdiv 10=((u / 10:Nat):Int):=rfl
theorem GJ (u:Nat):(u:Int).tmod 10=((u % 10:Nat):Int):=rfl
theorem tM:((10:Int)=0)=False:=by simp
theorem sl0:(0+1<ci)=True:=by simp[ci]
theorem sl1:(1+1<ci)=True:=by simp[ci]
theorem GW {n:Int} (h:n<0):Lib.itoa n=45::Lib.decDigits n.natAbs:=by unfold Lib.itoa;rw[if_pos h]
theorem oV {n:Int} (h:0≤n):Lib.itoa n=Lib.decDigits n.toNat:=by unfold Lib.itoa;rw[if_neg (by omega)]
theorem Be:∀ (k:Nat) (n:Int),n.natAbs≤k→I64 n→den K 27 [I n] []=some (.ret (T (Lib.itoa n)) []):=by
 intro k
 induction k with
 | zero =>
  intro n hk hn;have:n=0:=by omega
  subst this;refine ah rfl rfl Tryz.func27 rfl Tryz.ntmps27 ⟨by simp,by simp[LK]⟩ ?_
  have hr:Tryz.f27.results=#[.tmp 2]:=rfl
  have e:Lib.itoa 0=[48]:=by rw[oV (by omega)];exact jy (by omega)
  rw[e];have w1:IntKind.i64.wrap 48=48:=by decide
  have w2:IntKind.u8.wrap 48=48:=by decide
  simp[go_sem,reduceLT,reduceCtorEq,reduceEqDiff,Nat.reduceBEq,dG cQ d9,ao (len:=1) eN ln gz ⟨rfl,by decide,by decide⟩,gI eN al,bytesOf,tM,w1,w2]
 | succ k ih =>
  intro n hk hn;have hr:Tryz.f27.results=#[.tmp 2]:=rfl
  have hlen:=oL hn
  by_cases hneg:n<0
  ·have hl:decide (n<0)=true:=decide_eq_true hneg
   have hq:n.tdiv 10 = -(((n.natAbs / 10:Nat)):Int):=by
    obtain⟨u,rfl⟩:∃ u:Nat,n = -(u:Int):=⟨n.natAbs,by omega⟩
    rw[Int.neg_tdiv,zS];simp only[Int.natAbs_neg,Int.natAbs_natCast]
   have hm:n.tmod 10 = -(((n.natAbs % 10:Nat)):Int):=by
    obtain⟨u,rfl⟩:∃ u:Nat,n = -(u:Int):=⟨n.natAbs,by omega⟩
    rw[Int.neg_tmod,GJ];simp only[Int.natAbs_neg,Int.natAbs_natCast]
   have w1:IntKind.i64.wrap (n.tdiv 10)=n.tdiv 10:=IntWalk.i64_in _ (by have:=hn.1;have:=hn.2;omega)
   have w3:IntKind.i64.wrap (48 - n.tmod 10)=((48+n.natAbs % 10:Nat):Int):=by rw[IntWalk.i64_in _ (by omega),hm];omega
   have w4:IntKind.u8.wrap ((48+n.natAbs % 10:Nat):Int)=((48+n.natAbs % 10:Nat):Int):=IntWalk.u8_in _ (by omega)
   rw[GW hneg] at hlen ⊢;by_cases hs:n.natAbs<10
   ·have hq0:decide (n.tdiv 10<0)=false:=decide_eq_false (by omega)
    rw[jy hs];have hmm:n.natAbs % 10=n.natAbs:=Nat.mod_eq_of_lt hs
    rw[hmm] at w3 w4
    refine ah rfl rfl Tryz.func27 rfl Tryz.ntmps27 ⟨by simp,by simp[LK]⟩ ?_
    simp only[go_sem,reduceLT,reduceCtorEq,reduceEqDiff,Nat.reduceBEq,reduceAdd,reduceMul,dG cQ d9,ao (len:=1) eN ln gz ⟨rfl,by decide,by decide⟩,gI eN al,hr,bytesOf,tM,Int.toNat_natCast,sl0,sl1,hl,hq0,w1,w3,w4]
   ·have hq1:decide (n.tdiv 10<0)=true:=decide_eq_true (by omega)
    have w2:IntKind.i64.wrap (0 - n.tdiv 10)=((n.natAbs / 10:Nat):Int):=by rw[IntWalk.i64_in _ (by have:=hn.1;have:=hn.2;omega)];omega
    have hc:=ih ((n.natAbs / 10:Nat):Int) (by omega) ⟨by omega,by have:=hn.1;have:=hn.2;omega⟩
    rw[oV (by omega),Int.toNat_natCast] at hc
    rw[nM hs] at hlen ⊢;have s1:1+(Lib.decDigits (n.natAbs / 10)).length<ci:=by simp at hlen;simp[ci];omega
    have s2:(Lib.decDigits (n.natAbs / 10)).length+1+1<ci:=by simp at hlen;simp[ci];omega
    refine ah rfl rfl Tryz.func27 rfl Tryz.ntmps27 ⟨by simp,by simp[LK]⟩ ?_
    simp only[go_sem,reduceLT,reduceCtorEq,reduceEqDiff,Nat.reduceBEq,reduceAdd,reduceMul,dG cQ d9,ao (len:=1) eN ln gz ⟨rfl,by decide,by decide⟩,gI eN al,hr,bytesOf,tM,Int.toNat_natCast,hl,hq1,w1,w2,w3,w4,hc,s1,s2]
  ·have hl:decide (n<0)=false:=decide_eq_false hneg
   obtain⟨u,rfl⟩:∃ u:Nat,n=u:=⟨n.toNat,by omega⟩
   have hm:(u:Int).tmod 10=((u % 10:Nat):Int):=rfl
   have w3:IntKind.i64.wrap (48+(u:Int).tmod 10)=((48+u % 10:Nat):Int):=by rw[hm,IntWalk.i64_in _ (by omega)];omega
   have w4:IntKind.u8.wrap ((48+u % 10:Nat):Int)=((48+u % 10:Nat):Int):=IntWalk.u8_in _ (by omega)
   rw[oV (by omega),Int.toNat_natCast] at hlen ⊢
   by_cases hs:u<10
   ·have hg:decide ((10:Int)≤(u:Int))=false:=decide_eq_false (by omega)
    rw[jy hs];have hmm:u % 10=u:=Nat.mod_eq_of_lt hs
    rw[hmm] at w3 w4
    refine ah rfl rfl Tryz.func27 rfl Tryz.ntmps27 ⟨by simp,by simp[LK]⟩ ?_
    simp only[go_sem,reduceLT,reduceCtorEq,reduceEqDiff,Nat.reduceBEq,reduceAdd,reduceMul,dG cQ d9,ao (len:=1) eN ln gz ⟨rfl,by decide,by decide⟩,gI eN al,hr,bytesOf,tM,Int.toNat_natCast,hl,hg,w3,w4]
   ·have hg:decide ((10:Int)≤(u:Int))=true:=decide_eq_true (by omega)
    have w1:IntKind.i64.wrap ((u:Int).tdiv 10)=((u / 10:Nat):Int):=by rw[zS,IntWalk.i64_in _ (by have:=hn.2;omega)]
    have hc:=ih ((u / 10:Nat):Int) (by omega) ⟨by omega,by have:=hn.2;omega⟩
    rw[oV (by omega),Int.toNat_natCast] at hc
    rw[nM hs] at hlen ⊢;have s1:(Lib.decDigits (u / 10)).length+1<ci:=by simp at hlen;simp[ci];omega
    refine ah rfl rfl Tryz.func27 rfl Tryz.ntmps27 ⟨by simp,by simp[LK]⟩ ?_
    simp only[go_sem,reduceLT,reduceCtorEq,reduceEqDiff,Nat.reduceBEq,reduceAdd,reduceMul,dG cQ d9,ao (len:=1) eN ln gz ⟨rfl,by decide,by decide⟩,gI eN al,hr,bytesOf,tM,Int.toNat_natCast,hl,hg,w1,w3,w4,hc,s1]
theorem Fd (n:Int) (h:I64 n):den K 27 [I n] []=some (.ret (T (Lib.itoa n)) []):=Be n.natAbs n (Nat.le_refl _) h
theorem Ie (t:Tok) (hn:I64 t.n) (hl:t.text.length<1000000000000):den K 109 [.agg t.cells] []=some (.ret (T (oneS t)) []):=by
 obtain⟨k,s,n⟩:=t;refine ah rfl rfl Tryz.func109 rfl Tryz.ntmps109 ⟨by simp,by simp[LK]⟩ ?_
 have hr:Tryz.f109.results=#[.tmp 2]:=rfl
 have hit:=Fd n hn
 have hi:=oL hn
 simp only at hl hi;have l1:s.length+1<ci:=by simp[ci];omega
 have l1':1+s.length<ci:=by simp[ci];omega
 have l2:(Lib.itoa n).length+s.length<ci:=by simp[ci];omega
 have l3:1+s.length+1<ci:=by simp[ci];omega
 have l4:s.length+5<ci:=by simp[ci];omega
 have l7:s.length+1+1<ci:=by simp[ci];omega
 have hk:k=1∨k=2∨k=3∨k=4∨k=5∨k=6∨k=7∨k=8∨(k≠1∧k≠2∧k≠3∧k≠4∧k≠5∧k≠6∧k≠7∧k≠8):=by omega
 rcases hk with rfl|rfl|rfl|rfl|rfl|rfl|rfl|rfl|⟨h1,h2,h3,h4,h5,h6,h7,h8⟩
 ·simp[go_sem,reduceLT,reduceEqDiff,Nat.reduceBEq,reduceAdd,Tok.cells,oneS]
 ·simp[go_sem,reduceLT,reduceEqDiff,Nat.reduceBEq,reduceAdd,Tok.cells,oneS,l1]
 ·simp[go_sem,reduceLT,reduceEqDiff,Nat.reduceBEq,reduceAdd,Tok.cells,oneS,l1']
 ·simp[go_sem,reduceLT,reduceEqDiff,Nat.reduceBEq,reduceAdd,Tok.cells,oneS,l1']
 ·simp[go_sem,reduceLT,reduceCtorEq,reduceEqDiff,Nat.reduceBEq,reduceAdd,Tok.cells,oneS,hit,l2]
 ·by_cases h:n=39<;>simp[go_sem,reduceLT,reduceEqDiff,Nat.reduceBEq,reduceAdd,Tok.cells,oneS,h,l1',l7]
 ·by_cases h:s=[34]
  ·simp[go_sem,reduceLT,reduceEqDiff,Nat.reduceBEq,reduceAdd,Tok.cells,oneS,h,ci]
  ·have e:(s==[34])=false:=by simp[h]
   by_cases h':s=[39]
   ·simp[go_sem,reduceLT,reduceEqDiff,Nat.reduceBEq,reduceAdd,Tok.cells,oneS,h',ci]
   ·have e':(s==[39])=false:=by simp[h']
    simp[go_sem,reduceLT,reduceEqDiff,Nat.reduceBEq,reduceAdd,Tok.cells,oneS,e,e',h,h']
 ·simp[go_sem,reduceLT,reduceEqDiff,Nat.reduceBEq,reduceAdd,Tok.cells,oneS]
 ·simp[go_sem,reduceLT,reduceEqDiff,Nat.reduceBEq,reduceAdd,Tok.cells,oneS,h1,h2,h3,h4,h5,h6,h7,h8]
end Go.Abs
