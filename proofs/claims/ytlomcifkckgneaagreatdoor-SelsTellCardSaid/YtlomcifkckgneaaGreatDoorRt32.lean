/-
  WHAT THE FUNCTIONS COMPUTE, layer 4: whether selectors may be, as the document tells.
-/
import Derived.Test.YtlomcifkckgneaaGreatDoorRt31
set_option maxHeartbeats 16000000
open Nat (reduceEqDiff reduceAdd reduceLT)
set_option linter.unusedSimpArgs false
set_option linter.unusedVariables false
namespace Go.Abs
open Go Go.Proofs
set_option maxRecDepth 10000
attribute [local go_sem] c7 bF cD bW bZ db cJ cE a7 ck ce cF c8 bS opd avOf cvOf St.degAt St.put okPV d6 okAV du dv dt cU aM if_true Bool.false_eq_true if_false Option.map_some Option.map_none Option.bind_some Option.bind_none dY dV upd List.toList_toArray cR steal bz mvB dE cV cT AV.deg CV.deg AV.gv AV.isIter cN cI bU List.length_nil List.length_cons List.filterMap_cons List.filterMap_nil beq_iff_eq List.getElem?_cons_zero List.getElem?_cons_succ Option.getD_some d8 eV Bool.false_and Bool.and_false Bool.and_self K_P fq co cO bw lend back idx dedup AV.ren CV.ren TV.ren AV.ptrs CV.ptrs cX AV.flat CV.flat cz cg bc c9 dk eo cj aY cm bt bH cf br eF CV.pv? content bA ownT bd reps pvs chunks cd leave eB cK dr bT bv TV.deg TV.av LK CV.plain CV.noBld c5 eA bound List.map_cons List.map_nil List.all_cons List.all_nil List.any_cons List.any_nil List.contains_cons List.contains_nil List.elem_cons List.elem_nil List.cons_append List.nil_append List.append_nil List.flatMap_cons List.flatMap_nil List.zip_cons_cons List.zip_nil_left List.zip_nil_right List.take_succ_cons List.take_zero List.take_nil List.drop_succ_cons List.drop_zero List.drop_nil List.isEmpty_nil List.isEmpty_cons Bool.and_true Bool.true_and Bool.or_true Bool.true_or Bool.or_false Bool.false_or Bool.not_true Bool.not_false Nat.add_zero Nat.zero_add Option.isNone_none Option.isNone_some Option.getD_none true_and and_true not_true_eq_false not_false_eq_true decide_true decide_false Nat.le_refl and_self Bool.not_eq_true Nat.sub_self or_true true_or Option.some.injEq List.length_map List.nil_eq and_false false_and AV.live CV.live CV.liveIn dU bg Option.orElse_some Option.orElse_none head bm bh Int.lt_irrefl List.length_append ite_self dZ cA dc bC Key.clash Key.sees Key.writes Nat.lt_irrefl gt_iff_lt cH dH false_or or_false beq_self_eq_true Bool.true_beq Bool.false_beq dh dL mV Fy c6 cB bG fj i7 gS dl jF aP iZ EY jI fV fH eM J1 fk aL bX D5 fG gK a6
abbrev ptrH (l:List Sim) (i:Nat):St := { sl:=upd (upd bot 3 (I i)) 0 (L (l.map Sim.enc)),bx:=nobox,nt:=31 }
noncomputable def ptrlp:Code:=.loop (ap Tryz.f56 2)
theorem Ci (l:List Sim) (i:Nat) (k:Int) (n v:List UInt8) (a b:Int) (l2:List Sim) (h:l[i]? = some (.mk k n v a b l2)):(l.map Sim.enc)[(i:Int).toNat]? = some [.int .i64 k,.str n,.str v,.int .i64 a,.int .i64 b,.sl (l2.map Sim.enc)]:=by
 rw[Int.toNat_natCast,List.getElem?_map,h,Option.map_some,Sim.enc_mk]
def iM:Bool→List Sim→Bool
 | _,[]=>true
 | first,x::r=>Sl.oneB x&&((first||decide (3≤x.kind))&&iM false r)
theorem ot:∀ l:List Sim,iM false l=(l.all Sl.oneB&&l.all fun x=>decide (3≤x.kind))
 | []=>rfl
 | x::r=>by
  rw[iM,ot r,List.all_cons,List.all_cons,Bool.false_or];cases Sl.oneB x<;>cases decide (3≤x.kind)<;>cases r.all Sl.oneB<;>rfl
theorem zH (l:List Sim):iM true l=(l.all Sl.oneB&&l.tail.all fun x=>decide (3≤x.kind)):=by
 cases l with
 | nil=>rfl
 | cons x r =>
  rw[iM,ot r,List.all_cons,List.tail_cons,Bool.true_or,Bool.true_and];cases Sl.oneB x<;>cases r.all Sl.oneB<;>rfl
theorem Iu (l:List Sim) (i:Nat) (hl:l.length≤100000000) (x:Sim) (hi:l[i]? = some x) (hx:Sl.Sb 100000000 x) (h1:Sl.oneB x=true) (h2:i=0∨3≤x.kind) :
  exL K 56 ptrlp (ptrH l i)=exL K 56 ptrlp (ptrH l (i+1)):=by
 have hil:i<l.length:=(List.getElem?_eq_some_iff.1 hi).1
 have hlt:decide ((i:Int)<(l.length:Int))=true:=decide_eq_true (by omega)
 have hm:=xS hx
 rw[h1] at hm;have hws:IntKind.i64.wrap ((i:Int)+1)=((i+1:Nat):Int):=bf i (by omega)
 obtain⟨k,n,v,a,b,l2⟩:=x;have hget:=Ci l i k n v a b l2 hi
 rw[Sim.enc_mk] at hm;simp only[List.map_cons,List.map_nil] at hm;have h2:i=0∨3≤k:=h2
 unfold ptrlp
 conv in ap _ _=>whnf
 conv in ap _ _=>whnf
 conv in exL _ _ _ (ptrH l i)=>rw[aq]
 by_cases h0:i=0
 ·have e0:decide ((0:Int)<(i:Int))=false:=decide_eq_false (by omega)
  simp only[go_sem,reduceLT,reduceCtorEq,reduceEqDiff,Nat.reduceBEq,reduceAdd,af aa,ag aa,List.length_map,hlt,hget,Int.natCast_nonneg,hm,hws,e0];rw[au];simp only[go_sem,reduceCtorEq,reduceEqDiff]
 ·have e0:decide ((0:Int)<(i:Int))=true:=decide_eq_true (by omega)
  have e1:decide (k<3)=false:=decide_eq_false (by omega)
  simp only[go_sem,reduceLT,reduceCtorEq,reduceEqDiff,Nat.reduceBEq,reduceAdd,af aa,ag aa,List.length_map,hlt,hget,Int.natCast_nonneg,hm,hws,e0,e1];rw[au];simp only[go_sem,reduceCtorEq,reduceEqDiff]
theorem Lg (l:List Sim) (i:Nat) (hl:l.length≤100000000) (x:Sim) (hi:l[i]? = some x) (hx:Sl.Sb 100000000 x) (h1:Sl.oneB x=false∨(0<i∧x.kind<3)) :
  Ends (exL K 56 ptrlp (ptrH l i)) fun o S=>o=.ret∧S.sl 2=B false:=by
 have hil:i<l.length:=(List.getElem?_eq_some_iff.1 hi).1
 have hlt:decide ((i:Int)<(l.length:Int))=true:=decide_eq_true (by omega)
 have hm:=xS hx
 generalize hb:Sl.oneB x=bx at hm h1;obtain⟨k,n,v,a,b,l2⟩:=x;have hget:=Ci l i k n v a b l2 hi
 rw[Sim.enc_mk] at hm;simp only[List.map_cons,List.map_nil] at hm;unfold ptrlp
 conv in ap _ _=>whnf
 rw[aq];cases bx with
 | false=>simp only[go_sem,reduceLT,reduceCtorEq,reduceEqDiff,Nat.reduceBEq,reduceAdd,af aa,ag aa,List.length_map,hlt,hget,Int.natCast_nonneg,hm,ar]
 | true =>
  have h3:0<i∧k<3:=by
   rcases h1 with h|h
   ·cases h
   ·exact h
  have e0:decide ((0:Int)<(i:Int))=true:=decide_eq_true (by omega)
  have e1:decide (k<3)=true:=decide_eq_true h3.2
  simp only[go_sem,reduceLT,reduceCtorEq,reduceEqDiff,Nat.reduceBEq,reduceAdd,af aa,ag aa,List.length_map,hlt,hget,Int.natCast_nonneg,hm,e0,e1,ar]
theorem yS (l:List Sim) (hl:l.length≤100000000) (hok:∀ x∈l,Sl.Sb 100000000 x):∀ (rest:List Sim) (i:Nat),l.drop i=rest→i≤l.length →
  Ends (exL K 56 ptrlp (ptrH l i)) fun o S=>if iM (i==0) rest=true then(o=.exit 0∧S.nt=31∧S.sl 0=L (l.map Sim.enc)) else(o=.ret∧S.sl 2=B false)
 | [],i,hd,hi=>by
  have hin:i=l.length:=by
   have:=List.drop_eq_nil_iff.1 hd
   omega
  subst hin;have hlt:decide ((l.length:Int)<(l.length:Int))=false:=decide_eq_false (by omega)
  rw[iM];simp only[if_true];unfold ptrlp
  conv in ap _ _=>whnf
  rw[aq];simp only[go_sem,reduceLT,reduceCtorEq,reduceEqDiff,Nat.reduceBEq,reduceAdd,af aa,List.length_map,ar]
 | x::rest,i,hd,hi=>by
  obtain⟨g1,g2,g3⟩:=bE hd;have hx:=hok x (List.mem_of_getElem? g1)
  have hi0:(i+1==0)=false:=rfl
  rw[iM];by_cases hg:Sl.oneB x=true∧(i=0∨3≤x.kind)
  ·rw[Iu l i hl x g1 hx hg.1 hg.2];have e:(Sl.oneB x&&((i==0||decide (3≤x.kind))&&iM false rest))=iM (i+1==0) rest:=by
    rw[hg.1,hi0,Bool.true_and];have:(i==0||decide (3≤x.kind))=true:=by simpa using hg.2
    rw[this,Bool.true_and]
   rw[e];exact yS l hl hok rest (i+1) g2 (by omega)
  ·have e:(Sl.oneB x&&((i==0||decide (3≤x.kind))&&iM false rest))=false:=by
    cases h1:Sl.oneB x with
    | false=>rfl
    | true =>
     have h2:(i==0||decide (3≤x.kind))=false:=by
      rw[Bool.or_eq_false_iff,beq_eq_false_iff_ne,decide_eq_false_iff_not];exact⟨fun h=>hg ⟨h1,.inl h⟩,fun h=>hg ⟨h1,.inr h⟩⟩
     rw[h2];rfl
   rw[e];simp only[Bool.false_eq_true,if_false];refine Lg l i hl x g1 hx ?_
   cases h1:Sl.oneB x with
   | false=>exact .inl rfl
   | true =>
    right
    have h2:¬ (i=0∨3≤x.kind):=fun h=>hg ⟨h1,h⟩
    omega
theorem Ew (l:List Sim) (hl:l.length≤100000000) (hok:∀ x∈l,Sl.Sb 100000000 x) :
  den K 56 [L (l.map Sim.enc)] []=some (.ret (B (Sl.qz l)) []):=by
 have hr:Tryz.f56.results=#[.tmp 2]:=rfl
 have h:=yS l hl hok l 0 rfl (Nat.zero_le _)
 unfold ptrlp at h
 conv at h in ap _ _=>whnf
 obtain⟨o,S,w,hq⟩:=h;have z0:((0:Nat):Int)=0:=rfl
 simp only[ptrH,z0] at w
 have hq:if iM true l=true then(o=.exit 0∧S.nt=31∧S.sl 0=L (l.map Sim.enc)) else(o=.ret∧S.sl 2=B false):=hq
 have e:Sl.qz l=(iM true l&&decide (l.length≤8)):=by rw[Sl.qz,zH,Bool.and_assoc]
 have e8:decide ((l.length:Int)≤8)=decide (l.length≤8):=by rw[decide_eq_decide];omega
 rw[e];cases hg:iM true l with
 | false =>
  rw[hg,if_neg (by simp)] at hq
  obtain⟨rfl,q1⟩:=hq;rw[Bool.false_and];refine ah rfl rfl Tryz.func56 rfl Tryz.ntmps56 ⟨by simp,by simp[LK]⟩ ?_
  simp only[go_sem,reduceLT,Nat.reduceBEq];rw[au];simp only[go_sem,reduceCtorEq,reduceEqDiff];erw [w];simp only[go_sem,hr,q1]
 | true =>
  rw[hg,if_pos rfl] at hq;obtain⟨rfl,q1,q2⟩:=hq;rw[Bool.true_and];refine ah rfl rfl Tryz.func56 rfl Tryz.ntmps56 ⟨by simp,by simp[LK]⟩ ?_
  simp only[go_sem,reduceLT,Nat.reduceBEq];rw[au];simp only[go_sem,reduceCtorEq,reduceEqDiff];erw [w];simp only[go_sem,reduceLT,reduceEqDiff,Nat.reduceBEq,reduceAdd,af aa,hr,q1,q2,List.length_map,e8]
def yG (first more:Bool) (s:List UInt8) (p:Prt):Bool :=
 (decide (0≤p.comb)&&(decide (p.comb≤4)&&((p.comb==0)==first)))&&(Sl.qz p.l && !(p.l.isEmpty&&(more||s.isEmpty)))
theorem AU (first:Bool) (p:Prt) (r:List Prt) (s:List UInt8):Sl.gx first (p::r) s=(yG first (!r.isEmpty) s p&&Sl.gx false r s):=by
 rw[Sl.gx,yG];cases (decide (0≤p.comb)&&(decide (p.comb≤4)&&((p.comb==0)==first)))<;>cases Sl.qz p.l<;>rfl
abbrev vk (l:List Cpx) (c:Cpx) (i j:Nat):St :=
  { sl:=upd (upd (upd (upd (upd bot 6 (I j)) 5 (I c.parts.length)) 4 (.c (.loc 4 0))) 3 (I i)) 0 (L (l.map Cpx.enc)),bx:=upd nobox 4 (some [.pv (.sl (encQ c.parts)),.pv (.str c.pseudo)]),nt:=99 }
noncomputable def jA:Code:=.loop (ap Tryz.f24 7)
theorem Jr (ps:List Prt) (i:Nat) (p:Prt) (h:ps[i]? = some p):(encQ ps)[(i:Int).toNat]? = some [.int .i64 p.comb,.sl (p.l.map Sim.enc)]:=by
 rw[Int.toNat_natCast,List.getElem?_map,h];rfl
theorem LY (l:List Cpx) (c:Cpx) (i j:Nat) (hl:c.parts.length≤100000000) (p:Prt) (rest:List Prt) (hd:c.parts.drop j=p::rest) (hpl:p.l.length≤100000000) (hok:∀ x∈p.l,Sl.Sb 100000000 x) :
  if yG (j==0) (!rest.isEmpty) c.pseudo p=true then exL K 24 jA (vk l c i j)=exL K 24 jA (vk l c i (j+1))
  else Ends (exL K 24 jA (vk l c i j)) fun o S=>o=.ret∧S.sl 2=B false:=by
 obtain⟨ps,s⟩:=c;obtain⟨g1,g2,g3⟩:=bE hd;simp only at hl g1 g2 g3 hd ⊢;have hlt:decide ((j:Int)<(ps.length:Int))=true:=decide_eq_true (by omega)
 have hws:IntKind.i64.wrap ((j:Int)+1)=((j+1:Nat):Int):=bf j (by omega)
 have hw1:IntKind.i64.wrap ((ps.length:Int) - 1)=(ps.length:Int) - 1:=IntWalk.i64_in _ (by have hl':ps.length≤100000000:=hl;omega)
 have hget:=Jr ps j p g1
 have emore:decide ((j:Int)<(ps.length:Int) - 1) = !rest.isEmpty:=by
  have hlen:rest.length=ps.length - (j+1):=by rw[←g2,List.length_drop]
  cases rest with
  | nil=>rw[List.length_nil] at hlen;exact decide_eq_false (by omega)
  | cons x r=>rw[List.length_cons] at hlen;exact decide_eq_true (by omega)
 have ei:((j:Int)==0)=(j==0):=by rw[Bool.eq_iff_iff];simp
 have esn:(s==[])=s.isEmpty:=by cases s<;>rfl
 have hc:=Ew p.l hpl hok
 have el:((p.l.length:Int)==0)=p.l.isEmpty:=kE p.l
 unfold yG;generalize hF:(j==0)=F at ei ⊢
 generalize hR:(!rest.isEmpty)=R at emore ⊢
 generalize hS:s.isEmpty=Z at esn ⊢
 generalize hE:p.l.isEmpty=E at el ⊢
 generalize hW:Sl.qz p.l=W at hc ⊢;by_cases c1:0≤p.comb
 case neg =>
  have e1:decide (p.comb<0)=true:=decide_eq_true (by omega)
  rw[decide_eq_false c1,Bool.false_and,Bool.false_and];simp only[Bool.false_eq_true,if_false];unfold jA
  conv in ap _ _=>whnf
  rw[aq];simp only[go_sem,reduceLT,reduceCtorEq,reduceEqDiff,Nat.reduceBEq,reduceAdd,ag aw,hlt,hget,Int.natCast_nonneg,e1,ar]
 have e1:decide (p.comb<0)=false:=decide_eq_false (by omega)
 rw[decide_eq_true c1,Bool.true_and];by_cases c2:p.comb≤4
 case neg =>
  have e2:decide ((4:Int)<p.comb)=true:=decide_eq_true (by omega)
  rw[decide_eq_false c2,Bool.false_and,Bool.false_and];simp only[Bool.false_eq_true,if_false];unfold jA
  conv in ap _ _=>whnf
  rw[aq];simp only[go_sem,reduceLT,reduceCtorEq,reduceEqDiff,Nat.reduceBEq,reduceAdd,ag aw,hlt,hget,Int.natCast_nonneg,e1,e2,ar]
 have e2:decide ((4:Int)<p.comb)=false:=decide_eq_false (by omega)
 rw[decide_eq_true c2,Bool.true_and];cases c3:((p.comb==0)==F)
 ·rw[Bool.false_and];simp only[Bool.false_eq_true,if_false];unfold jA
  conv in ap _ _=>whnf
  rw[aq];simp only[go_sem,reduceLT,reduceCtorEq,reduceEqDiff,Nat.reduceBEq,reduceAdd,ag aw,hlt,hget,Int.natCast_nonneg,e1,e2,ei,c3,ar]
 rw[Bool.true_and];cases W with
 | false =>
  rw[Bool.false_and];simp only[Bool.false_eq_true,if_false];unfold jA
  conv in ap _ _=>whnf
  rw[aq];simp only[go_sem,reduceLT,reduceCtorEq,reduceEqDiff,Nat.reduceBEq,reduceAdd,ag aw,hlt,hget,Int.natCast_nonneg,e1,e2,ei,c3,hc,ar]
 | true =>
  rw[Bool.true_and];cases hno:(E&&(R||Z)) with
  | true =>
   rw[Bool.not_true];simp only[Bool.false_eq_true,if_false];rw[Bool.and_eq_true] at hno;obtain⟨n1,n2⟩:=hno;subst n1;unfold jA
   conv in ap _ _=>whnf
   rw[aq];cases R with
   | true=>simp only[go_sem,reduceLT,reduceCtorEq,reduceEqDiff,Nat.reduceBEq,reduceAdd,ag aw,af aa,hlt,hget,Int.natCast_nonneg,e1,e2,ei,c3,hc,hw1,emore,List.length_map,el,ar]
   | false =>
    have n3:Z=true:=by simpa using n2
    subst n3;simp only[go_sem,reduceLT,reduceCtorEq,reduceEqDiff,Nat.reduceBEq,reduceAdd,ag aw,af aa,hlt,hget,Int.natCast_nonneg,e1,e2,ei,c3,hc,hw1,emore,esn,List.length_map,el,ar]
  | false =>
   rw[Bool.not_false,if_pos rfl];unfold jA
   conv in ap _ _=>whnf
   conv in ap _ _=>whnf
   conv in exL _ _ _ (vk l ⟨ps,s⟩ i j)=>rw[aq]
   cases E with
   | false =>
    simp only[go_sem,reduceLT,reduceCtorEq,reduceEqDiff,Nat.reduceBEq,reduceAdd,ag aw,af aa,hlt,hget,Int.natCast_nonneg,e1,e2,ei,c3,hc,List.length_map,el,hws];rw[au];simp only[go_sem,reduceCtorEq,reduceEqDiff]
   | true =>
    have n1:R=false∧Z=false:=by simpa using hno
    obtain⟨n2,n3⟩:=n1;subst n2 n3;simp only[go_sem,reduceLT,reduceCtorEq,reduceEqDiff,Nat.reduceBEq,reduceAdd,ag aw,af aa,hlt,hget,Int.natCast_nonneg,e1,e2,ei,c3,hc,hw1,emore,esn,List.length_map,el,hws];rw[au];simp only[go_sem,reduceCtorEq,reduceEqDiff]
theorem KU (l:List Cpx) (c:Cpx) (i:Nat) (hl:c.parts.length≤100000000) (hok:∀ p∈c.parts,p.l.length≤100000000∧∀ x∈p.l,Sl.Sb 100000000 x):∀ (rest:List Prt) (j:Nat),c.parts.drop j=rest→j≤c.parts.length →
  Ends (exL K 24 jA (vk l c i j)) fun o S=>if Sl.gx (j==0) rest c.pseudo=true then(o=.exit 2∧S.nt=99∧S.sl 0=L (l.map Cpx.enc)∧S.sl 3=I i∧S.sl 4=.c (.loc 4 0)∧S.sl 5=I c.parts.length∧S.bx 4=some [.pv (.sl (encQ c.parts)),.pv (.str c.pseudo)]) else(o=.ret∧S.sl 2=B false)
 | [],j,hd,hj=>by
  have hin:j=c.parts.length:=by
   have:=List.drop_eq_nil_iff.1 hd
   omega
  subst hin;have hlt:decide ((c.parts.length:Int)<(c.parts.length:Int))=false:=decide_eq_false (by omega)
  rw[Sl.gx];simp only[if_true];unfold jA
  conv in ap _ _=>whnf
  rw[aq];simp only[go_sem,reduceLT,reduceCtorEq,reduceEqDiff,Nat.reduceBEq,reduceAdd,ar]
 | p::rest,j,hd,hj=>by
  obtain⟨g1,g2,g3⟩:=bE hd;obtain⟨k1,k2⟩:=hok p (List.mem_of_getElem? g1)
  have h1:=LY l c i j hl p rest hd k1 k2
  have hi0:(j+1==0)=false:=rfl
  rw[AU];cases hp:yG (j==0) (!rest.isEmpty) c.pseudo p with
  | false =>
   rw[hp,if_neg (by simp)] at h1
   rw[Bool.false_and];simp only[Bool.false_eq_true,if_false];exact h1
  | true =>
   rw[hp,if_pos rfl] at h1;rw[h1,Bool.true_and,←hi0];exact KU l c i hl hok rest (j+1) g2 (by omega)
abbrev Ib (l:List Cpx) (i:Nat):St := { sl:=upd (upd bot 3 (I i)) 0 (L (l.map Cpx.enc)),bx:=nobox,nt:=99 }
noncomputable def ri:Code:=.loop (ap Tryz.f24 2)
theorem Jk (l:List Cpx) (i:Nat) (ps:List Prt) (s:List UInt8) (h:l[i]? = some ⟨ps,s⟩):(l.map Cpx.enc)[(i:Int).toNat]? = some [.sl (encQ ps),.str s]:=by
 rw[Int.toNat_natCast,List.getElem?_map,h];rfl
theorem IA (l:List Cpx) (hl:l.length≤100000000) (hok:∀ c∈l,c.parts.length≤100000000∧∀ p∈c.parts,p.l.length≤100000000∧∀ x∈p.l,Sl.Sb 100000000 x):∀ (rest:List Cpx) (i:Nat),l.drop i=rest→i≤l.length →
    Ends (exL K 24 ri (Ib l i)) fun o S=>if rest.all Sl.cpxB=true then(o=.exit 0∧S.nt=99∧S.sl 0=L (l.map Cpx.enc)) else(o=.ret∧S.sl 2=B false)
  | [],i,hd,hi=>by
    have hin:i=l.length:=by
      have:=List.drop_eq_nil_iff.1 hd
      omega
    subst hin;have hlt:decide ((l.length:Int)<(l.length:Int))=false:=decide_eq_false (by omega)
    rw[List.all_nil];simp only[if_true];unfold ri
    conv in ap _ _=>whnf
    rw[aq];simp only[go_sem,reduceLT,reduceCtorEq,reduceEqDiff,Nat.reduceBEq,reduceAdd,af aQ,List.length_map,ar]
  | ⟨ps,s⟩::rest,i,hd,hi=>by
    obtain⟨g1,g2,g3⟩:=bE hd;obtain⟨k1,k2⟩:=hok _ (List.mem_of_getElem? g1)
    have hlt:decide ((i:Int)<(l.length:Int))=true:=decide_eq_true (by omega)
    have hws:IntKind.i64.wrap ((i:Int)+1)=((i+1:Nat):Int):=bf i (by omega)
    have hget:=Jk l i ps s g1
    have hin:=KU l ⟨ps,s⟩ i k1 k2 ps 0 rfl (Nat.zero_le _)
    simp only at k1 k2 hin
    unfold jA at hin
    conv at hin in ap _ _=>whnf
    have z0:((0:Nat):Int)=0:=rfl
    obtain⟨o,S',w,hq⟩:=hin;simp only[vk,z0] at w
    have hq:if Sl.gx true ps s=true then(o=.exit 2∧S'.nt=99∧S'.sl 0=L (l.map Cpx.enc)∧S'.sl 3=I i∧S'.sl 4=.c (.loc 4 0)∧S'.sl 5=I ps.length∧S'.bx 4=some [.pv (.sl (encQ ps)),.pv (.str s)]) else(o=.ret∧S'.sl 2=B false):=hq
    have hnext:=IA l hl hok rest (i+1) g2 (by omega)
    have b1:(s==[98,101,102,111,114,101])=(s==Sl.fg):=rfl
    have b2:(s==[97,102,116,101,114])=(s==Sl.fZ):=rfl
    have esn:(s==[])=s.isEmpty:=by cases s<;>rfl
    have ec:Sl.cpxB ⟨ps,s⟩=(Sl.gx true ps s&&(decide (1≤ps.length)&&(decide (ps.length≤16)&&Sl.nc s))):=rfl
    have ep:Sl.nc s=(s.isEmpty||(s==Sl.fg||s==Sl.fZ)):=rfl
    rw[List.all_cons,ec,ep];unfold ri at hnext ⊢
    conv at hnext in ap _ _=>whnf
    conv in ap _ _=>whnf
    rw[aq];cases hp:Sl.gx true ps s with
    | false =>
      rw[hp,if_neg (by simp)] at hq
      obtain⟨rfl,q1⟩:=hq;rw[Bool.false_and,Bool.false_and];simp only[Bool.false_eq_true,if_false];simp only[go_sem,reduceLT,reduceCtorEq,reduceEqDiff,Nat.reduceBEq,reduceAdd,af aQ,ag aQ,af aw,List.length_map,hlt,hget,Int.natCast_nonneg];rw[au];simp only[go_sem,reduceCtorEq,reduceEqDiff];erw [w];simp only[go_sem,q1,ar]
    | true =>
      rw[hp,if_pos rfl] at hq;obtain⟨rfl,q1,q2,q3,q4,q5,q6⟩:=hq;rw[Bool.true_and];by_cases c1:1≤ps.length
      case neg =>
        have e1:decide ((ps.length:Int)<1)=true:=decide_eq_true (by omega)
        rw[decide_eq_false c1,Bool.false_and,Bool.false_and];simp only[Bool.false_eq_true,if_false];simp only[go_sem,reduceLT,reduceCtorEq,reduceEqDiff,Nat.reduceBEq,reduceAdd,af aQ,ag aQ,af aw,List.length_map,hlt,hget,Int.natCast_nonneg];rw[au];simp only[go_sem,reduceCtorEq,reduceEqDiff];erw [w];simp only[go_sem,reduceLT,reduceEqDiff,Nat.reduceBEq,reduceAdd,q1,q5,e1,ar]
      have e1:decide ((ps.length:Int)<1)=false:=decide_eq_false (by omega)
      rw[decide_eq_true c1,Bool.true_and];by_cases c2:ps.length≤16
      case neg =>
        have e2:decide ((16:Int)<(ps.length:Int))=true:=decide_eq_true (by omega)
        rw[decide_eq_false c2,Bool.false_and,Bool.false_and];simp only[Bool.false_eq_true,if_false];simp only[go_sem,reduceLT,reduceCtorEq,reduceEqDiff,Nat.reduceBEq,reduceAdd,af aQ,ag aQ,af aw,List.length_map,hlt,hget,Int.natCast_nonneg];rw[au];simp only[go_sem,reduceCtorEq,reduceEqDiff];erw [w];simp only[go_sem,reduceLT,reduceEqDiff,Nat.reduceBEq,reduceAdd,q1,q5,e1,e2,ar]
      have e2:decide ((16:Int)<(ps.length:Int))=false:=decide_eq_false (by omega)
      rw[decide_eq_true c2,Bool.true_and];cases f1:s.isEmpty
      all_goals cases f2:(s==Sl.fg)
      all_goals cases f3:(s==Sl.fZ)
      all_goals
        rw[f1] at esn
        rw[f2] at b1
        rw[f3] at b2
      all_goals try simp only[Bool.or_false,Bool.or_true,Bool.true_and,Bool.false_and,Bool.false_eq_true,if_false]
      all_goals
        simp only[go_sem,reduceLT,reduceCtorEq,reduceEqDiff,Nat.reduceBEq,reduceAdd,af aQ,ag aQ,af aw,List.length_map,hlt,hget,Int.natCast_nonneg];rw[au];simp only[go_sem,reduceCtorEq,reduceEqDiff];erw [w];simp only[go_sem,reduceLT,reduceEqDiff,Nat.reduceBEq,reduceAdd,q1,q3,q4,q5,q6,e1,e2,esn,b1,b2,bne,hws,ar]
      all_goals first
        | done
        | (rw [au]
           simp only[go_sem,reduceCtorEq,reduceEqDiff,q2,q3];exact hnext)
theorem GA (l:List Cpx) (hl:l.length≤1000000) (hok:∀ c∈l,c.parts.length≤100000000∧∀ p∈c.parts,p.l.length≤100000000∧∀ x∈p.l,Sl.Sb 100000000 x) :
  den K 24 [L (l.map Cpx.enc)] []=some (.ret (B (Sl.mayB l)) []):=by
 have hr:Tryz.f24.results=#[.tmp 2]:=rfl
 have h:=IA l (by omega) hok l 0 rfl (Nat.zero_le _)
 unfold ri at h
 conv at h in ap _ _=>whnf
 obtain⟨o,S,w,hq⟩:=h;have z0:((0:Nat):Int)=0:=rfl
 simp only[Ib,z0] at w
 have e1:decide ((1:Int)≤(l.length:Int))=decide (1≤l.length):=by rw[decide_eq_decide];omega
 have e2:decide ((l.length:Int)≤32)=decide (l.length≤32):=by rw[decide_eq_decide];omega
 unfold Sl.mayB;cases ha:l.all Sl.cpxB with
 | false =>
  rw[ha,if_neg (by simp)] at hq
  obtain⟨rfl,q1⟩:=hq;rw[Bool.false_and];refine ah rfl rfl Tryz.func24 rfl Tryz.ntmps24 ⟨by simp,by simp[LK]⟩ ?_
  simp only[go_sem,reduceLT,Nat.reduceBEq];rw[au];simp only[go_sem,reduceCtorEq,reduceEqDiff];erw [w];simp only[go_sem,hr,q1]
 | true =>
  rw[ha,if_pos rfl] at hq;obtain⟨rfl,q1,q2⟩:=hq;rw[Bool.true_and];cases c1:decide (1≤l.length)
  all_goals
   rw[c1] at e1
   refine ah rfl rfl Tryz.func24 rfl Tryz.ntmps24 ⟨by simp,by simp[LK]⟩ ?_
   simp only[go_sem,reduceLT,Nat.reduceBEq];rw[au];simp only[go_sem,reduceCtorEq,reduceEqDiff];erw [w];simp only[go_sem,reduceLT,reduceCtorEq,reduceEqDiff,Nat.reduceBEq,reduceAdd,af aQ,hr,q1,q2,List.length_map,e1,e2]
end Go.Abs
