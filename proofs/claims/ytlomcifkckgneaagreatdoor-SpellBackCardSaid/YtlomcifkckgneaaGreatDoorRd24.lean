/-
  WHAT THE FUNCTIONS COMPUTE, layer 4: whether a simple selector may be, as the document tells, all kinds. (Printed by gens9.py.)
  (And 3 texts more.)
-/
import Derived.Test.YtlomcifkckgneaaGreatDoorRd20
import Derived.Test.YtlomcifkckgneaaGreatDoorRd21
import Derived.Test.YtlomcifkckgneaaGreatDoorRd22
import Derived.Test.YtlomcifkckgneaaGreatDoorRd23
set_option maxHeartbeats 16000000
open Nat (reduceEqDiff reduceAdd reduceLT)
set_option linter.unusedSimpArgs false
set_option linter.unusedVariables false
namespace Go.Abs
open Go Go.Proofs
set_option maxRecDepth 10000
attribute [local go_sem] dP bZ de cB cK dL dh du bo ck ce cE dr ci opd avOf cvOf St.degAt St.put okPV fE okAV eL eP eV dM aP if_true Bool.false_eq_true if_false Option.map_some Option.map_none Option.bind_some Option.bind_none fo fw upd List.toList_toArray cM steal bI mvB fj dK db AV.deg CV.deg AV.gv AV.isIter dG dw cJ List.length_nil List.length_cons List.filterMap_cons List.filterMap_nil beq_iff_eq List.getElem?_cons_zero List.getElem?_cons_succ Option.getD_some fM gJ Bool.false_and Bool.and_false Bool.and_self K_P iJ cI dc bL lend back idx dedup AV.ren CV.ren TV.ren AV.ptrs CV.ptrs dE AV.flat CV.flat cQ cz br dD dY gi cL bf cS bV cu cH bU gS CV.pv? content bT ownT bv reps pvs chunks co leave gj cZ eD cm bB TV.deg TV.av LK CV.plain CV.noBld dR gD bound List.map_cons List.map_nil List.all_cons List.all_nil List.any_cons List.any_nil List.contains_cons List.contains_nil List.elem_cons List.elem_nil List.cons_append List.nil_append List.append_nil List.flatMap_cons List.flatMap_nil List.zip_cons_cons List.zip_nil_left List.zip_nil_right List.take_succ_cons List.take_zero List.take_nil List.drop_succ_cons List.drop_zero List.drop_nil List.isEmpty_nil List.isEmpty_cons Bool.and_true Bool.true_and Bool.or_true Bool.true_or Bool.or_false Bool.false_or Bool.not_true Bool.not_false Nat.add_zero Nat.zero_add Option.isNone_none Option.isNone_some Option.getD_none true_and and_true not_true_eq_false not_false_eq_true decide_true decide_false Nat.le_refl and_self Bool.not_eq_true Nat.sub_self or_true true_or Option.some.injEq List.length_map List.nil_eq and_false false_and AV.live CV.live CV.liveIn gk bu Option.orElse_some Option.orElse_none head bJ bG Int.lt_irrefl List.length_append ite_self fx cF dC cf Key.clash Key.sees Key.writes Nat.lt_irrefl gt_iff_lt dt fB false_or or_false beq_self_eq_true Bool.true_beq Bool.false_beq
theorem fP (l:List Sim):(((l.map Sim.enc).length:Int)==0)=l.isEmpty:=by rw[List.length_map];exact mo l
theorem Ev {x:Sim}(hx:Sl.Sb 100000000 x):den K 107 [.agg (x.enc.map CV.pv)] []=some (.ret (B (Sl.oneB x)) []):=by
 induction hx with
 | @mk k n v a b l hn hv hl ih =>
  have hn':n.length<1000000000:=by omega
  have hv':v.length<1000000000:=by omega
  have e0:(Sim.mk k n v a b l).enc.map CV.pv=[.pv (.int .i64 k),.pv (.str n),.pv (.str v),.pv (.int .i64 a),.pv (.int .i64 b),.pv (.sl (l.map Sim.enc))]:=by rw[Sim.enc_mk];rfl
  rw[e0];by_cases hk:k<1∨11<k
  ·have e5:Sl.oneB (.mk k n v a b l)=false:=by
    rw[Sl.oneB,Sl.oneK,if_neg (by omega),if_neg (by omega),if_neg (by omega),if_neg (by omega),if_neg (by omega),if_neg (by omega),if_neg (by omega),if_neg (by omega)]
    rfl
   rw[e5];exact Ic k hk n v a b _
  have hc:k=1∨k=2∨k=3∨k=4∨k=5∨k=6∨k=7∨k=8∨k=9∨k=10∨k=11:=by omega
  rcases hc with rfl|rfl|rfl|rfl|rfl|rfl|rfl|rfl|rfl|rfl|rfl
  ·have hh:=VA n v a b (l.map Sim.enc) _  (iG 1 1 a 0 b 0 n [] v [])
   rw[fP] at hh;refine hh.trans (congrArg (fun b=>some (Res.ret (B b) [])) ?_)
   rw[Bool.eq_iff_iff];simp[Sl.oneB,Sl.oneK,and_comm,and_left_comm]
  ·have hh:=UC n v a b (l.map Sim.enc) _ hn' (iG 2 2 a 0 b 0 n n v [])
   rw[fP] at hh;refine hh.trans (congrArg (fun b=>some (Res.ret (B b) [])) ?_)
   rw[Bool.eq_iff_iff];simp[Sl.oneB,Sl.oneK,and_assoc,and_comm,and_left_comm]
  ·have hh:=UU n v a b (l.map Sim.enc) _ hn' (iG 3 3 a 0 b 0 n n v [])
   rw[fP] at hh;refine hh.trans (congrArg (fun b=>some (Res.ret (B b) [])) ?_)
   rw[Bool.eq_iff_iff];simp[Sl.oneB,Sl.oneK,and_assoc,and_comm,and_left_comm]
  ·have hh:=UE n v a b (l.map Sim.enc) _ hn' (iG 4 4 a 0 b 0 n n v [])
   rw[fP] at hh;refine hh.trans (congrArg (fun b=>some (Res.ret (B b) [])) ?_)
   rw[Bool.eq_iff_iff];simp[Sl.oneB,Sl.oneK,and_assoc,and_comm,and_left_comm]
  ·have hh:=Vl n v a b (l.map Sim.enc) _ hn' (iG 5 5 a 0 b 0 n n v [])
   rw[fP] at hh;refine hh.trans (congrArg (fun b=>some (Res.ret (B b) [])) ?_)
   rw[Bool.eq_iff_iff];simp[Sl.oneB,Sl.oneK,and_assoc,and_comm,and_left_comm]
  ·have hh:=Vg n v a b (l.map Sim.enc) _ hn' hv' (iG 6 6 a 0 b 0 n n v v)
   rw[fP] at hh;refine hh.trans (congrArg (fun b=>some (Res.ret (B b) [])) ?_)
   rw[Bool.eq_iff_iff];simp[Sl.oneB,Sl.oneK,and_assoc,and_comm,and_left_comm]
  ·have hh:=Vw n v a b (l.map Sim.enc) _  (iG 7 7 a 0 b 0 n n v [])
   rw[fP] at hh;refine hh.trans (congrArg (fun b=>some (Res.ret (B b) [])) ?_)
   rw[Bool.eq_iff_iff];simp[Sl.oneB,Sl.oneK,and_assoc,and_comm,and_left_comm]
  ·have hh:=US n v a b (l.map Sim.enc) _  (iG 8 8 a a b b n [] v [])
   rw[fP] at hh;refine hh.trans (congrArg (fun b=>some (Res.ret (B b) [])) ?_)
   rw[Bool.eq_iff_iff];simp[Sl.oneB,Sl.oneK,Sl.fewB,Sl.few,and_assoc,and_comm,and_left_comm]
  ·have hh:=UI n v a b (l.map Sim.enc) _  (iG 9 9 a 0 b 0 n [] v [])
   rw[fP] at hh;refine hh.trans (congrArg (fun b=>some (Res.ret (B b) [])) ?_)
   rw[Bool.eq_iff_iff];simp[Sl.oneB,Sl.oneK,and_comm,and_left_comm]
  ·have hh:=So n v a b (l.map Sim.enc) _  (iG 10 10 a 0 b 0 n [] v [])
   rw[fP] at hh;refine hh.trans (congrArg (fun b=>some (Res.ret (B b) [])) ?_)
   rw[Bool.eq_iff_iff];simp[Sl.oneB,Sl.oneK,and_comm,and_left_comm]
  ·have hq:=iG 11 11 a 0 b 0 n [] v []
   have e1:Sl.oneB (.mk 11 n v a b l)=((((11:Int)==11)&&((n==[])&&((v==[])&&((a==0)&&((b==0)&&true)))))&&(l.length==1&&Sl.oI l)):=by
    rw[Sl.oneB,Sl.oneK,if_neg (by omega),if_neg (by omega),if_neg (by omega),if_neg (by omega),if_neg (by omega),if_neg (by omega),if_neg (by omega),if_pos rfl,if_pos rfl]
    simp[]
   rw[e1];generalize (((11:Int)==11)&&((n==[])&&((v==[])&&((a==0)&&((b==0)&&true)))))=Q at hq ⊢;cases Q
   ·rw[Bool.false_and];exact Pi n v a b _ hq
   rw[Bool.true_and]
   match l,hl,ih with
   | [],_,_=>exact EZ n v a b _ (by simp) hq
   | [y],_,ih =>
    obtain⟨k2,n2,v2,a2,b2,l2⟩:=y;have e2:([(Sim.mk k2 n2 v2 a2 b2 l2)].length==1&&Sl.oI [.mk k2 n2 v2 a2 b2 l2])=(k2 != 11&&Sl.oneB (.mk k2 n2 v2 a2 b2 l2)):=by
     show (Sl.oI [.mk k2 n2 v2 a2 b2 l2])=_
     rw[Sl.oI,Sl.oI,Bool.and_true];rfl
    rw[e2];have h0:=ih (.mk k2 n2 v2 a2 b2 l2) (by simp)
    simp only[List.map_cons,List.map_nil,Sim.enc_mk] at h0 ⊢;exact NZ n v a b k2 n2 v2 a2 b2 (l2.map Sim.enc) _ h0 hq
   | y::z::m,_,_ =>
    have e2:((y::z::m).length==1&&Sl.oI (y::z::m))=false:=by simp
    rw[e2];exact EZ n v a b _ (by simp) hq
attribute [local go_sem] dZ fL oQ LC dz cy bK fT kw jb cP lC aO kD MU AY fV ib fI SG fU aN cj LN fy kh aZ
abbrev ptrH (l:List Sim)(i:Nat):St := { sl:=upd (upd bot 3 (I i)) 0 (L (l.map Sim.enc)),bx:=nobox,nt:=31 }
noncomputable def ptrlp:Code:=.loop (ap Tryz.f56 2)
theorem IT (l:List Sim)(i:Nat)(k:Int)(n v:List UInt8)(a b:Int)(l2:List Sim)(h:l[i]? = some (.mk k n v a b l2)):(l.map Sim.enc)[(i:Int).toNat]? = some [.int .i64 k,.str n,.str v,.int .i64 a,.int .i64 b,.sl (l2.map Sim.enc)]:=by
 rw[Int.toNat_natCast,List.getElem?_map,h,Option.map_some,Sim.enc_mk]
def kg:Bool→List Sim→Bool
 | _,[]=>true
 | first,x::r=>Sl.oneB x&&((first||decide (3≤x.kind))&&kg false r)
theorem sK:∀ l:List Sim,kg false l=(l.all Sl.oneB&&l.all fun x=>decide (3≤x.kind))
 | []=>rfl
 | x::r=>by
  rw[kg,sK r,List.all_cons,List.all_cons,Bool.false_or];cases Sl.oneB x<;>cases decide (3≤x.kind)<;>cases r.all Sl.oneB<;>rfl
theorem EX (l:List Sim):kg true l=(l.all Sl.oneB&&l.tail.all fun x=>decide (3≤x.kind)):=by
 cases l with
 | nil=>rfl
 | cons x r =>
  rw[kg,sK r,List.all_cons,List.tail_cons,Bool.true_or,Bool.true_and];cases Sl.oneB x<;>cases r.all Sl.oneB<;>rfl
theorem OS (l:List Sim)(i:Nat)(hl:l.length≤100000000)(x:Sim)(hi:l[i]? = some x)(hx:Sl.Sb 100000000 x)(h1:Sl.oneB x=true)(h2:i=0∨3≤x.kind) :
  exL K 56 ptrlp (ptrH l i)=exL K 56 ptrlp (ptrH l (i+1)):=by
 have hil:i<l.length:=(List.getElem?_eq_some_iff.1 hi).1
 have hlt:decide ((i:Int)<(l.length:Int))=true:=decide_eq_true (by omega)
 have hm:=Ev hx
 rw[h1] at hm;have hws:IntKind.i64.wrap ((i:Int)+1)=((i+1:Nat):Int):=aX i (by omega)
 obtain⟨k,n,v,a,b,l2⟩:=x;have hget:=IT l i k n v a b l2 hi
 rw[Sim.enc_mk] at hm;simp only[List.map_cons,List.map_nil] at hm;have h2:i=0∨3≤k:=h2
 unfold ptrlp
 conv in ap _ _=>whnf
 conv in ap _ _=>whnf
 conv in exL _ _ _ (ptrH l i)=>rw[aq]
 by_cases h0:i=0
 ·have e0:decide ((0:Int)<(i:Int))=false:=decide_eq_false (by omega)
  simp only[go_sem,reduceLT,reduceCtorEq,reduceEqDiff,Nat.reduceBEq,reduceAdd,af ae,aj ae,List.length_map,hlt,hget,Int.natCast_nonneg,hm,hws,e0];rw[au];simp only[go_sem,reduceCtorEq,reduceEqDiff]
 ·have e0:decide ((0:Int)<(i:Int))=true:=decide_eq_true (by omega)
  have e1:decide (k<3)=false:=decide_eq_false (by omega)
  simp only[go_sem,reduceLT,reduceCtorEq,reduceEqDiff,Nat.reduceBEq,reduceAdd,af ae,aj ae,List.length_map,hlt,hget,Int.natCast_nonneg,hm,hws,e0,e1];rw[au];simp only[go_sem,reduceCtorEq,reduceEqDiff]
theorem UB (l:List Sim)(i:Nat)(hl:l.length≤100000000)(x:Sim)(hi:l[i]? = some x)(hx:Sl.Sb 100000000 x)(h1:Sl.oneB x=false∨(0<i∧x.kind<3)) :
  Ends (exL K 56 ptrlp (ptrH l i)) fun o S=>o=.ret∧S.sl 2=B false:=by
 have hil:i<l.length:=(List.getElem?_eq_some_iff.1 hi).1
 have hlt:decide ((i:Int)<(l.length:Int))=true:=decide_eq_true (by omega)
 have hm:=Ev hx
 generalize hb:Sl.oneB x=bx at hm h1;obtain⟨k,n,v,a,b,l2⟩:=x;have hget:=IT l i k n v a b l2 hi
 rw[Sim.enc_mk] at hm;simp only[List.map_cons,List.map_nil] at hm;unfold ptrlp
 conv in ap _ _=>whnf
 rw[aq];cases bx with
 | false=>simp only[go_sem,reduceLT,reduceCtorEq,reduceEqDiff,Nat.reduceBEq,reduceAdd,af ae,aj ae,List.length_map,hlt,hget,Int.natCast_nonneg,hm,aw]
 | true =>
  have h3:0<i∧k<3:=by
   rcases h1 with h|h
   ·cases h
   ·exact h
  have e0:decide ((0:Int)<(i:Int))=true:=decide_eq_true (by omega)
  have e1:decide (k<3)=true:=decide_eq_true h3.2
  simp only[go_sem,reduceLT,reduceCtorEq,reduceEqDiff,Nat.reduceBEq,reduceAdd,af ae,aj ae,List.length_map,hlt,hget,Int.natCast_nonneg,hm,e0,e1,aw]
theorem Da (l:List Sim)(hl:l.length≤100000000)(hok:∀ x∈l,Sl.Sb 100000000 x):∀ (rest:List Sim) (i:Nat),l.drop i=rest→i≤l.length →
  Ends (exL K 56 ptrlp (ptrH l i)) fun o S=>if kg (i==0) rest=true then(o=.exit 0∧S.nt=31∧S.sl 0=L (l.map Sim.enc)) else(o=.ret∧S.sl 2=B false)
 | [],i,hd,hi=>by
  have hin:i=l.length:=by
   have:=List.drop_eq_nil_iff.1 hd
   omega
  subst hin;have hlt:decide ((l.length:Int)<(l.length:Int))=false:=decide_eq_false (by omega)
  rw[kg];simp only[if_true];unfold ptrlp
  conv in ap _ _=>whnf
  rw[aq];simp only[go_sem,reduceLT,reduceCtorEq,reduceEqDiff,Nat.reduceBEq,reduceAdd,af ae,List.length_map,aw]
 | x::rest,i,hd,hi=>by
  obtain⟨g1,g2,g3⟩:=bH hd;have hx:=hok x (List.mem_of_getElem? g1)
  have hi0:(i+1==0)=false:=rfl
  rw[kg];by_cases hg:Sl.oneB x=true∧(i=0∨3≤x.kind)
  ·rw[OS l i hl x g1 hx hg.1 hg.2];have e:(Sl.oneB x&&((i==0||decide (3≤x.kind))&&kg false rest))=kg (i+1==0) rest:=by
    rw[hg.1,hi0,Bool.true_and];have:(i==0||decide (3≤x.kind))=true:=by simpa using hg.2
    rw[this,Bool.true_and]
   rw[e];exact Da l hl hok rest (i+1) g2 (by omega)
  ·have e:(Sl.oneB x&&((i==0||decide (3≤x.kind))&&kg false rest))=false:=by
    cases h1:Sl.oneB x with
    | false=>rfl
    | true =>
     have h2:(i==0||decide (3≤x.kind))=false:=by
      rw[Bool.or_eq_false_iff,beq_eq_false_iff_ne,decide_eq_false_iff_not];exact⟨fun h=>hg ⟨h1,.inl h⟩,fun h=>hg ⟨h1,.inr h⟩⟩
     rw[h2];rfl
   rw[e];simp only[Bool.false_eq_true,if_false];refine UB l i hl x g1 hx ?_
   cases h1:Sl.oneB x with
   | false=>exact .inl rfl
   | true =>
    right
    have h2:¬ (i=0∨3≤x.kind):=fun h=>hg ⟨h1,h⟩
    omega
theorem Lg (l:List Sim)(hl:l.length≤100000000)(hok:∀ x∈l,Sl.Sb 100000000 x) :
  den K 56 [L (l.map Sim.enc)] []=some (.ret (B (Sl.rK l)) []):=by
 have hr:Tryz.f56.results=#[.tmp 2]:=rfl
 have h:=Da l hl hok l 0 rfl (Nat.zero_le _)
 unfold ptrlp at h
 conv at h in ap _ _=>whnf
 obtain⟨o,S,w,hq⟩:=h;have z0:((0:Nat):Int)=0:=rfl
 simp only[ptrH,z0] at w
 have hq:if kg true l=true then(o=.exit 0∧S.nt=31∧S.sl 0=L (l.map Sim.enc)) else(o=.ret∧S.sl 2=B false):=hq
 have e:Sl.rK l=(kg true l&&decide (l.length≤8)):=by rw[Sl.rK,EX,Bool.and_assoc]
 have e8:decide ((l.length:Int)≤8)=decide (l.length≤8):=by rw[decide_eq_decide];omega
 rw[e];cases hg:kg true l with
 | false =>
  rw[hg,if_neg (by simp)] at hq
  obtain⟨rfl,q1⟩:=hq;rw[Bool.false_and];refine ai rfl rfl Tryz.func56 rfl Tryz.ntmps56 ⟨by simp,by simp[LK]⟩ ?_
  simp only[go_sem,reduceLT,Nat.reduceBEq];rw[au];simp only[go_sem,reduceCtorEq,reduceEqDiff];erw [w];simp only[go_sem,hr,q1]
 | true =>
  rw[hg,if_pos rfl] at hq;obtain⟨rfl,q1,q2⟩:=hq;rw[Bool.true_and];refine ai rfl rfl Tryz.func56 rfl Tryz.ntmps56 ⟨by simp,by simp[LK]⟩ ?_
  simp only[go_sem,reduceLT,Nat.reduceBEq];rw[au];simp only[go_sem,reduceCtorEq,reduceEqDiff];erw [w];simp only[go_sem,reduceLT,reduceEqDiff,Nat.reduceBEq,reduceAdd,af ae,hr,q1,q2,List.length_map,e8]
def EG (first more:Bool)(s:List UInt8)(p:Prt):Bool :=
 (decide (0≤p.comb)&&(decide (p.comb≤4)&&((p.comb==0)==first)))&&(Sl.rK p.l && !(p.l.isEmpty&&(more||s.isEmpty)))
theorem HW (first:Bool)(p:Prt)(r:List Prt)(s:List UInt8):Sl.jr first (p::r) s=(EG first (!r.isEmpty) s p&&Sl.jr false r s):=by
 rw[Sl.jr,EG];cases (decide (0≤p.comb)&&(decide (p.comb≤4)&&((p.comb==0)==first)))<;>cases Sl.rK p.l<;>rfl
abbrev zE (l:List Cpx)(c:Cpx)(i j:Nat):St :=
  { sl:=upd (upd (upd (upd (upd bot 6 (I j)) 5 (I c.parts.length)) 4 (.c (.loc 4 0))) 3 (I i)) 0 (L (l.map Cpx.enc)),bx:=upd nobox 4 (some [.pv (.sl (encQ c.parts)),.pv (.str c.pseudo)]),nt:=99 }
noncomputable def lm:Code:=.loop (ap Tryz.f24 7)
theorem TI (ps:List Prt)(i:Nat)(p:Prt)(h:ps[i]? = some p):(encQ ps)[(i:Int).toNat]? = some [.int .i64 p.comb,.sl (p.l.map Sim.enc)]:=by
 rw[Int.toNat_natCast,List.getElem?_map,h];rfl
theorem Uw (l:List Cpx)(c:Cpx)(i j:Nat)(hl:c.parts.length≤100000000)(p:Prt)(rest:List Prt)(hd:c.parts.drop j=p::rest)(hpl:p.l.length≤100000000)(hok:∀ x∈p.l,Sl.Sb 100000000 x) :
  if EG (j==0) (!rest.isEmpty) c.pseudo p=true then exL K 24 lm (zE l c i j)=exL K 24 lm (zE l c i (j+1))
  else Ends (exL K 24 lm (zE l c i j)) fun o S=>o=.ret∧S.sl 2=B false:=by
 obtain⟨ps,s⟩:=c;obtain⟨g1,g2,g3⟩:=bH hd;simp only at hl g1 g2 g3 hd ⊢;have hlt:decide ((j:Int)<(ps.length:Int))=true:=decide_eq_true (by omega)
 have hws:IntKind.i64.wrap ((j:Int)+1)=((j+1:Nat):Int):=aX j (by omega)
 have hw1:IntKind.i64.wrap ((ps.length:Int) - 1)=(ps.length:Int) - 1:=IntWalk.i64_in _ (by have hl':ps.length≤100000000:=hl;omega)
 have hget:=TI ps j p g1
 have emore:decide ((j:Int)<(ps.length:Int) - 1) = !rest.isEmpty:=by
  have hlen:rest.length=ps.length - (j+1):=by rw[←g2,List.length_drop]
  cases rest with
  | nil=>rw[List.length_nil] at hlen;exact decide_eq_false (by omega)
  | cons x r=>rw[List.length_cons] at hlen;exact decide_eq_true (by omega)
 have ei:((j:Int)==0)=(j==0):=by rw[Bool.eq_iff_iff];simp
 have esn:(s==[])=s.isEmpty:=by cases s<;>rfl
 have hc:=Lg p.l hpl hok
 have el:((p.l.length:Int)==0)=p.l.isEmpty:=mo p.l
 unfold EG;generalize hF:(j==0)=F at ei ⊢
 generalize hR:(!rest.isEmpty)=R at emore ⊢
 generalize hS:s.isEmpty=Z at esn ⊢
 generalize hE:p.l.isEmpty=E at el ⊢
 generalize hW:Sl.rK p.l=W at hc ⊢;by_cases c1:0≤p.comb
 case neg =>
  have e1:decide (p.comb<0)=true:=decide_eq_true (by omega)
  rw[decide_eq_false c1,Bool.false_and,Bool.false_and];simp only[Bool.false_eq_true,if_false];unfold lm
  conv in ap _ _=>whnf
  rw[aq];simp only[go_sem,reduceLT,reduceCtorEq,reduceEqDiff,Nat.reduceBEq,reduceAdd,aj ay,hlt,hget,Int.natCast_nonneg,e1,aw]
 have e1:decide (p.comb<0)=false:=decide_eq_false (by omega)
 rw[decide_eq_true c1,Bool.true_and];by_cases c2:p.comb≤4
 case neg =>
  have e2:decide ((4:Int)<p.comb)=true:=decide_eq_true (by omega)
  rw[decide_eq_false c2,Bool.false_and,Bool.false_and];simp only[Bool.false_eq_true,if_false];unfold lm
  conv in ap _ _=>whnf
  rw[aq];simp only[go_sem,reduceLT,reduceCtorEq,reduceEqDiff,Nat.reduceBEq,reduceAdd,aj ay,hlt,hget,Int.natCast_nonneg,e1,e2,aw]
 have e2:decide ((4:Int)<p.comb)=false:=decide_eq_false (by omega)
 rw[decide_eq_true c2,Bool.true_and];cases c3:((p.comb==0)==F)
 ·rw[Bool.false_and];simp only[Bool.false_eq_true,if_false];unfold lm
  conv in ap _ _=>whnf
  rw[aq];simp only[go_sem,reduceLT,reduceCtorEq,reduceEqDiff,Nat.reduceBEq,reduceAdd,aj ay,hlt,hget,Int.natCast_nonneg,e1,e2,ei,c3,aw]
 rw[Bool.true_and];cases W with
 | false =>
  rw[Bool.false_and];simp only[Bool.false_eq_true,if_false];unfold lm
  conv in ap _ _=>whnf
  rw[aq];simp only[go_sem,reduceLT,reduceCtorEq,reduceEqDiff,Nat.reduceBEq,reduceAdd,aj ay,hlt,hget,Int.natCast_nonneg,e1,e2,ei,c3,hc,aw]
 | true =>
  rw[Bool.true_and];cases hno:(E&&(R||Z)) with
  | true =>
   rw[Bool.not_true];simp only[Bool.false_eq_true,if_false];rw[Bool.and_eq_true] at hno;obtain⟨n1,n2⟩:=hno;subst n1;unfold lm
   conv in ap _ _=>whnf
   rw[aq];cases R with
   | true=>simp only[go_sem,reduceLT,reduceCtorEq,reduceEqDiff,Nat.reduceBEq,reduceAdd,aj ay,af ae,hlt,hget,Int.natCast_nonneg,e1,e2,ei,c3,hc,hw1,emore,List.length_map,el,aw]
   | false =>
    have n3:Z=true:=by simpa using n2
    subst n3;simp only[go_sem,reduceLT,reduceCtorEq,reduceEqDiff,Nat.reduceBEq,reduceAdd,aj ay,af ae,hlt,hget,Int.natCast_nonneg,e1,e2,ei,c3,hc,hw1,emore,esn,List.length_map,el,aw]
  | false =>
   rw[Bool.not_false,if_pos rfl];unfold lm
   conv in ap _ _=>whnf
   conv in ap _ _=>whnf
   conv in exL _ _ _ (zE l ⟨ps,s⟩ i j)=>rw[aq]
   cases E with
   | false =>
    simp only[go_sem,reduceLT,reduceCtorEq,reduceEqDiff,Nat.reduceBEq,reduceAdd,aj ay,af ae,hlt,hget,Int.natCast_nonneg,e1,e2,ei,c3,hc,List.length_map,el,hws];rw[au];simp only[go_sem,reduceCtorEq,reduceEqDiff]
   | true =>
    have n1:R=false∧Z=false:=by simpa using hno
    obtain⟨n2,n3⟩:=n1;subst n2 n3;simp only[go_sem,reduceLT,reduceCtorEq,reduceEqDiff,Nat.reduceBEq,reduceAdd,aj ay,af ae,hlt,hget,Int.natCast_nonneg,e1,e2,ei,c3,hc,hw1,emore,esn,List.length_map,el,hws];rw[au];simp only[go_sem,reduceCtorEq,reduceEqDiff]
theorem Ub (l:List Cpx)(c:Cpx)(i:Nat)(hl:c.parts.length≤100000000)(hok:∀ p∈c.parts,p.l.length≤100000000∧∀ x∈p.l,Sl.Sb 100000000 x):∀ (rest:List Prt) (j:Nat),c.parts.drop j=rest→j≤c.parts.length →
  Ends (exL K 24 lm (zE l c i j)) fun o S=>if Sl.jr (j==0) rest c.pseudo=true then(o=.exit 2∧S.nt=99∧S.sl 0=L (l.map Cpx.enc)∧S.sl 3=I i∧S.sl 4=.c (.loc 4 0)∧S.sl 5=I c.parts.length∧S.bx 4=some [.pv (.sl (encQ c.parts)),.pv (.str c.pseudo)]) else(o=.ret∧S.sl 2=B false)
 | [],j,hd,hj=>by
  have hin:j=c.parts.length:=by
   have:=List.drop_eq_nil_iff.1 hd
   omega
  subst hin;have hlt:decide ((c.parts.length:Int)<(c.parts.length:Int))=false:=decide_eq_false (by omega)
  rw[Sl.jr];simp only[if_true];unfold lm
  conv in ap _ _=>whnf
  rw[aq];simp only[go_sem,reduceLT,reduceCtorEq,reduceEqDiff,Nat.reduceBEq,reduceAdd,aw]
 | p::rest,j,hd,hj=>by
  obtain⟨g1,g2,g3⟩:=bH hd;obtain⟨k1,k2⟩:=hok p (List.mem_of_getElem? g1)
  have h1:=Uw l c i j hl p rest hd k1 k2
  have hi0:(j+1==0)=false:=rfl
  rw[HW];cases hp:EG (j==0) (!rest.isEmpty) c.pseudo p with
  | false =>
   rw[hp,if_neg (by simp)] at h1
   rw[Bool.false_and];simp only[Bool.false_eq_true,if_false];exact h1
  | true =>
   rw[hp,if_pos rfl] at h1;rw[h1,Bool.true_and,←hi0];exact Ub l c i hl hok rest (j+1) g2 (by omega)
abbrev Pm (l:List Cpx)(i:Nat):St := { sl:=upd (upd bot 3 (I i)) 0 (L (l.map Cpx.enc)),bx:=nobox,nt:=99 }
noncomputable def vz:Code:=.loop (ap Tryz.f24 2)
theorem SL (l:List Cpx)(i:Nat)(ps:List Prt)(s:List UInt8)(h:l[i]? = some ⟨ps,s⟩):(l.map Cpx.enc)[(i:Int).toNat]? = some [.sl (encQ ps),.str s]:=by
 rw[Int.toNat_natCast,List.getElem?_map,h];rfl
theorem Qb (l:List Cpx)(hl:l.length≤100000000)(hok:∀ c∈l,c.parts.length≤100000000∧∀ p∈c.parts,p.l.length≤100000000∧∀ x∈p.l,Sl.Sb 100000000 x):∀ (rest:List Cpx) (i:Nat),l.drop i=rest→i≤l.length →
    Ends (exL K 24 vz (Pm l i)) fun o S=>if rest.all Sl.cpxB=true then(o=.exit 0∧S.nt=99∧S.sl 0=L (l.map Cpx.enc)) else(o=.ret∧S.sl 2=B false)
  | [],i,hd,hi=>by
    have hin:i=l.length:=by
      have:=List.drop_eq_nil_iff.1 hd
      omega
    subst hin;have hlt:decide ((l.length:Int)<(l.length:Int))=false:=decide_eq_false (by omega)
    rw[List.all_nil];simp only[if_true];unfold vz
    conv in ap _ _=>whnf
    rw[aq];simp only[go_sem,reduceLT,reduceCtorEq,reduceEqDiff,Nat.reduceBEq,reduceAdd,af aL,List.length_map,aw]
  | ⟨ps,s⟩::rest,i,hd,hi=>by
    obtain⟨g1,g2,g3⟩:=bH hd;obtain⟨k1,k2⟩:=hok _ (List.mem_of_getElem? g1)
    have hlt:decide ((i:Int)<(l.length:Int))=true:=decide_eq_true (by omega)
    have hws:IntKind.i64.wrap ((i:Int)+1)=((i+1:Nat):Int):=aX i (by omega)
    have hget:=SL l i ps s g1
    have hin:=Ub l ⟨ps,s⟩ i k1 k2 ps 0 rfl (Nat.zero_le _)
    simp only at k1 k2 hin
    unfold lm at hin
    conv at hin in ap _ _=>whnf
    have z0:((0:Nat):Int)=0:=rfl
    obtain⟨o,S',w,hq⟩:=hin;simp only[zE,z0] at w
    have hq:if Sl.jr true ps s=true then(o=.exit 2∧S'.nt=99∧S'.sl 0=L (l.map Cpx.enc)∧S'.sl 3=I i∧S'.sl 4=.c (.loc 4 0)∧S'.sl 5=I ps.length∧S'.bx 4=some [.pv (.sl (encQ ps)),.pv (.str s)]) else(o=.ret∧S'.sl 2=B false):=hq
    have hnext:=Qb l hl hok rest (i+1) g2 (by omega)
    have b1:(s==[98,101,102,111,114,101])=(s==Sl.eH):=rfl
    have b2:(s==[97,102,116,101,114])=(s==Sl.fJ):=rfl
    have esn:(s==[])=s.isEmpty:=by cases s<;>rfl
    have ec:Sl.cpxB ⟨ps,s⟩=(Sl.jr true ps s&&(decide (1≤ps.length)&&(decide (ps.length≤16)&&Sl.qj s))):=rfl
    have ep:Sl.qj s=(s.isEmpty||(s==Sl.eH||s==Sl.fJ)):=rfl
    rw[List.all_cons,ec,ep];unfold vz at hnext ⊢
    conv at hnext in ap _ _=>whnf
    conv in ap _ _=>whnf
    rw[aq];cases hp:Sl.jr true ps s with
    | false =>
      rw[hp,if_neg (by simp)] at hq
      obtain⟨rfl,q1⟩:=hq;rw[Bool.false_and,Bool.false_and];simp only[Bool.false_eq_true,if_false];simp only[go_sem,reduceLT,reduceCtorEq,reduceEqDiff,Nat.reduceBEq,reduceAdd,af aL,aj aL,af ay,List.length_map,hlt,hget,Int.natCast_nonneg];rw[au];simp only[go_sem,reduceCtorEq,reduceEqDiff];erw [w];simp only[go_sem,q1,aw]
    | true =>
      rw[hp,if_pos rfl] at hq;obtain⟨rfl,q1,q2,q3,q4,q5,q6⟩:=hq;rw[Bool.true_and];by_cases c1:1≤ps.length
      case neg =>
        have e1:decide ((ps.length:Int)<1)=true:=decide_eq_true (by omega)
        rw[decide_eq_false c1,Bool.false_and,Bool.false_and];simp only[Bool.false_eq_true,if_false];simp only[go_sem,reduceLT,reduceCtorEq,reduceEqDiff,Nat.reduceBEq,reduceAdd,af aL,aj aL,af ay,List.length_map,hlt,hget,Int.natCast_nonneg];rw[au];simp only[go_sem,reduceCtorEq,reduceEqDiff];erw [w];simp only[go_sem,reduceLT,reduceEqDiff,Nat.reduceBEq,reduceAdd,q1,q5,e1,aw]
      have e1:decide ((ps.length:Int)<1)=false:=decide_eq_false (by omega)
      rw[decide_eq_true c1,Bool.true_and];by_cases c2:ps.length≤16
      case neg =>
        have e2:decide ((16:Int)<(ps.length:Int))=true:=decide_eq_true (by omega)
        rw[decide_eq_false c2,Bool.false_and,Bool.false_and];simp only[Bool.false_eq_true,if_false];simp only[go_sem,reduceLT,reduceCtorEq,reduceEqDiff,Nat.reduceBEq,reduceAdd,af aL,aj aL,af ay,List.length_map,hlt,hget,Int.natCast_nonneg];rw[au];simp only[go_sem,reduceCtorEq,reduceEqDiff];erw [w];simp only[go_sem,reduceLT,reduceEqDiff,Nat.reduceBEq,reduceAdd,q1,q5,e1,e2,aw]
      have e2:decide ((16:Int)<(ps.length:Int))=false:=decide_eq_false (by omega)
      rw[decide_eq_true c2,Bool.true_and];cases f1:s.isEmpty
      all_goals cases f2:(s==Sl.eH)
      all_goals cases f3:(s==Sl.fJ)
      all_goals
        rw[f1] at esn
        rw[f2] at b1
        rw[f3] at b2
      all_goals try simp only[Bool.or_false,Bool.or_true,Bool.true_and,Bool.false_and,Bool.false_eq_true,if_false]
      all_goals
        simp only[go_sem,reduceLT,reduceCtorEq,reduceEqDiff,Nat.reduceBEq,reduceAdd,af aL,aj aL,af ay,List.length_map,hlt,hget,Int.natCast_nonneg];rw[au];simp only[go_sem,reduceCtorEq,reduceEqDiff];erw [w];simp only[go_sem,reduceLT,reduceEqDiff,Nat.reduceBEq,reduceAdd,q1,q3,q4,q5,q6,e1,e2,esn,b1,b2,bne,hws,aw]
      all_goals first
        | done
        | (rw [au]
           simp only[go_sem,reduceCtorEq,reduceEqDiff,q2,q3];exact hnext)
theorem CI (l:List Cpx)(hl:l.length≤1000000)(hok:∀ c∈l,c.parts.length≤100000000∧∀ p∈c.parts,p.l.length≤100000000∧∀ x∈p.l,Sl.Sb 100000000 x) :
  den K 24 [L (l.map Cpx.enc)] []=some (.ret (B (Sl.mayB l)) []):=by
 have hr:Tryz.f24.results=#[.tmp 2]:=rfl
 have h:=Qb l (by omega) hok l 0 rfl (Nat.zero_le _)
 unfold vz at h
 conv at h in ap _ _=>whnf
 obtain⟨o,S,w,hq⟩:=h;have z0:((0:Nat):Int)=0:=rfl
 simp only[Pm,z0] at w
 have e1:decide ((1:Int)≤(l.length:Int))=decide (1≤l.length):=by rw[decide_eq_decide];omega
 have e2:decide ((l.length:Int)≤32)=decide (l.length≤32):=by rw[decide_eq_decide];omega
 unfold Sl.mayB;cases ha:l.all Sl.cpxB with
 | false =>
  rw[ha,if_neg (by simp)] at hq
  obtain⟨rfl,q1⟩:=hq;rw[Bool.false_and];refine ai rfl rfl Tryz.func24 rfl Tryz.ntmps24 ⟨by simp,by simp[LK]⟩ ?_
  simp only[go_sem,reduceLT,Nat.reduceBEq];rw[au];simp only[go_sem,reduceCtorEq,reduceEqDiff];erw [w];simp only[go_sem,hr,q1]
 | true =>
  rw[ha,if_pos rfl] at hq;obtain⟨rfl,q1,q2⟩:=hq;rw[Bool.true_and];cases c1:decide (1≤l.length)
  all_goals
   rw[c1] at e1
   refine ai rfl rfl Tryz.func24 rfl Tryz.ntmps24 ⟨by simp,by simp[LK]⟩ ?_
   simp only[go_sem,reduceLT,Nat.reduceBEq];rw[au];simp only[go_sem,reduceCtorEq,reduceEqDiff];erw [w];simp only[go_sem,reduceLT,reduceCtorEq,reduceEqDiff,Nat.reduceBEq,reduceAdd,af aL,hr,q1,q2,List.length_map,e1,e2]
attribute [local go_sem] SP TU Tc RE RM Sx TR
theorem QN {x:Sim}(h:Sl.Gs x):Fin4 x:=by
 induction h with
 | not x hx hk ih=>exact .mk (by simp) fun y hy=>by obtain rfl:=List.mem_singleton.1 hy;exact ih
 | _=>exact .mk (by simp) fun y hy=>by cases hy
theorem Ho {l:List Sim}(h:Sl.Gp l):∀ x∈l,Fin4 x:=fun x hx=>by
 cases l with
 | nil=>cases hx
 | cons y r =>
  obtain⟨h1,h2⟩:=h;rcases List.mem_cons.1 hx with rfl|hx
  ·exact QN h1
  ·exact QN (h2 x hx).1
theorem Vc {n:Nat}{c:Int}{ps:List Prt}{z:List UInt8}(h:Sl.Gc n c ps z):∀ p∈ps, ∀ x∈p.l,Fin4 x:=by
 induction h with
 | last h1 h2 h3=>intro p hp;obtain rfl:=List.mem_singleton.1 hp;exact Ho h1
 | pse h1 h2 h3=>intro p hp;obtain rfl:=List.mem_singleton.1 hp;exact Ho h1
 | more h1 h2 h3 h4 h5 ih =>
  intro p hp;rcases List.mem_cons.1 hp with rfl|hp
  ·exact Ho h1
  ·exact ih p hp
theorem sP:∀ l:List Cpx,l≠[]→mn l=Sl.we l
 | [],h=>absurd rfl h
 | c::l,_=>(Sl.xR c l).symm
theorem MR {a b:List Cpx}(ha:Sl.Fc a)(hb:Sl.Fc b):mn a=mn b↔a=b:=by
 constructor
 ·intro h;have h1:=Sl.tE ha
  have h2:=Sl.tE hb
  rw[←sP a ha.1,h,sP b hb.1,h2] at h1;exact(Option.some.inj h1).symm
 ·rintro rfl;rfl
theorem yy (a b:List Cpx)(hal:a.length≤reachBytes)(hbl:b.length≤reachBytes)(ha:∀ c∈a,c.Ok)(hb:∀ c∈b,c.Ok):den K 9 [L (encC a),L (encC b)] []=some (.ret (B true) []):=by
 have hr:Tryz.f9.results=#[.tmp 4]:=rfl
 have hf:=Ga
 have q0:((0:Int)==0)=true:=rfl
 have s1:=zV a hal ha 200 ⟨by omega,by omega⟩
 have s2:=zV b hbl hb 200 ⟨by omega,by omega⟩
 cases h1:pt a 200
 ·rw[h1] at s1
  refine ai rfl rfl Tryz.func9 rfl Tryz.ntmps9 ⟨by simp,by simp[LK]⟩ ?_
  simp only[go_sem,reduceLT,reduceCtorEq,reduceEqDiff,Nat.reduceBEq,reduceAdd,hr,hf,s1]
 rw[h1] at s1
 cases h2:pt b 200
 ·rw[h2] at s2
  refine ai rfl rfl Tryz.func9 rfl Tryz.ntmps9 ⟨by simp,by simp[LK]⟩ ?_
  simp only[go_sem,reduceLT,reduceCtorEq,reduceEqDiff,Nat.reduceBEq,reduceAdd,hr,hf,s1,s2]
 rw[h2] at s2
 obtain⟨k1,k2⟩:=Ap ha h1;obtain⟨j1,j2⟩:=Ap hb h2;have y1:=CI a (by omega) fun c hc=>⟨by have:=(k2 c hc).parts;omega,fun p hp=>⟨by have:=((k2 c hc).all p hp).1;omega,((k2 c hc).all p hp).2⟩⟩
 have y2:=CI b (by omega) fun c hc=>⟨by have:=(j2 c hc).parts;omega,fun p hp=>⟨by have:=((j2 c hc).all p hp).1;omega,((j2 c hc).all p hp).2⟩⟩
 cases m1:Sl.mayB a
 ·rw[m1] at y1
  refine ai rfl rfl Tryz.func9 rfl Tryz.ntmps9 ⟨by simp,by simp[LK]⟩ ?_
  simp only[go_sem,reduceLT,reduceCtorEq,reduceEqDiff,Nat.reduceBEq,reduceAdd,hr,hf,s1,s2,y1]
 rw[m1] at y1
 cases m2:Sl.mayB b
 ·rw[m2] at y2
  refine ai rfl rfl Tryz.func9 rfl Tryz.ntmps9 ⟨by simp,by simp[LK]⟩ ?_
  simp only[go_sem,reduceLT,reduceCtorEq,reduceEqDiff,Nat.reduceBEq,reduceAdd,hr,hf,s1,s2,y1,y2]
 rw[m2] at y2
 have ga:=(Sl.qf a).1 m1
 have gb:=(Sl.qf b).1 m2
 have e200:Int.toNat 200=200:=rfl
 have eT:eK=4294967296:=rfl
 obtain⟨a1,a2,a3⟩:=xE ha h1;obtain⟨b1,b2,b3⟩:=xE hb h2;rw[e200] at a2 b2
 have d1:=EM a (by omega) (fun c hc=>⟨ha c hc,by have:=(a3 c hc).1;rw[e200] at this;omega⟩) (by omega)
 have d2:=EM b (by omega) (fun c hc=>⟨hb c hc,by have:=(b3 c hc).1;rw[e200] at this;omega⟩) (by omega)
 have r1:=Dm (mn a) (by omega)
 have r2:=Ki (mn a) (by omega)
 have hrd:Sl.read (mn a)=some a:=by rw[sP a ga.1];exact Sl.tE ga
 rw[hrd] at r1 r2
 unfold ky at r1 r2
 simp only at r1 r2
 have fg:∀ c∈a,c.parts.length≤100000000∧∀ p∈c.parts, ∀ ms,Si4 p.l ms:=fun c hc=>⟨by have:=(k2 c hc).parts;omega,fun p hp ms=>Ba p.l ms (by have:=((k2 c hc).all p hp).1;omega) (Vc (ga.2.2 c hc) p hp)⟩
 obtain⟨r,g1,g2⟩:=yZ a b (by omega) fg
 obtain⟨r',g3,g4⟩:=yZ a a (by omega) fg
 rw[g4.2 rfl] at g3
 have key:((mn a==mn b)==r)=true:=by
  rw[beq_iff_eq,Bool.eq_iff_iff,beq_iff_eq,g2];exact MR ga gb
 refine ai rfl rfl Tryz.func9 rfl Tryz.ntmps9 ⟨by simp,by simp[LK]⟩ ?_
 simp only[go_sem,reduceLT,reduceCtorEq,reduceEqDiff,Nat.reduceBEq,reduceAdd,hr,hf,s1,s2,y1,y2,d1,d2,r1,r2,g1,g3,key,q0,TV.flat]
end Go.Abs
namespace Go.Abs
open Go Go.Proofs
set_option maxRecDepth 100000
theorem Uv:oV Tryz.prog 52=some [(3,0,1),(9,1,1),(9,2,1),(3,3,1),(3,4,1),(48,5,1)]:=by kernel_rfl
theorem VB:oV Tryz.prog 50=some [(3,0,1),(48,1,1)]:=by kernel_rfl
theorem Vy:oV Tryz.prog 47=some [(45,0,1),(9,1,1)]:=by kernel_rfl
theorem UR:∀ (n:Nat) (ps:List PV),TyP Tryz.prog n 52 ps→∃ x:Sim,ps=x.enc∧x.Ok:=by
 intro n
 induction n using Nat.strongRecOn with
 | _ n ih =>
  intro ps hp;obtain⟨m,rfl,hl,hf⟩:=qN (sz:=6) Uv (by kernel_rfl) hp
  obtain⟨p0,p1,p2,p3,p4,p5,rfl⟩:=len6 hl;obtain⟨k,hk,hkw⟩:=vE cU (hf 0 _ rfl);obtain⟨s,hs,hsl⟩:=BH am (hf 1 _ rfl);obtain⟨v,hv,hvl⟩:=BH am (hf 2 _ rfl);obtain⟨a,ha,haw⟩:=vE cU (hf 3 _ rfl);obtain⟨b,hb,hbw⟩:=vE cU (hf 4 _ rfl);obtain⟨j,c,rfl,hc,hcl,hce⟩:=Cb ae (hf 5 _ rfl);obtain⟨l,rfl,hlo⟩:=rB (f:=Sim.enc) (Q:=Sim.Ok) fun el hel=>ih j (by omega) el (hce el hel)
  simp at hk hs hv ha hb hc;subst hk;subst hs;subst hv;subst ha;subst hb;subst hc;exact⟨.mk k s v a b l,(Sim.enc_mk ..).symm,.mk (ND haw) (ND hbw) hsl hvl (by simpa using hcl) hlo⟩
theorem Vi {n:Nat}{ps:List PV}(hp:TyP Tryz.prog n 50 ps):∃ x:Prt,ps=x.enc∧x.Ok:=by
 obtain⟨m,rfl,hl,hf⟩:=qN (sz:=2) VB (by kernel_rfl) hp
 obtain⟨p0,p1,rfl⟩:=len2 hl;obtain⟨k,hk,hkw⟩:=vE cU (hf 0 _ rfl);obtain⟨j,c,rfl,hc,hcl,hce⟩:=Cb ae (hf 1 _ rfl);obtain⟨l,rfl,hlo⟩:=rB (f:=Sim.enc) (Q:=Sim.Ok) fun el hel=>UR j el (hce el hel)
 simp at hk hc;subst hk;subst hc;exact⟨⟨k,l⟩,rfl,⟨by simpa using hcl,hlo⟩⟩
theorem Vu {n:Nat}{ps:List PV}(hp:TyP Tryz.prog n 47 ps):∃ x:Cpx,ps=x.enc∧x.Ok:=by
 obtain⟨m,rfl,hl,hf⟩:=qN (sz:=2) Vy (by kernel_rfl) hp
 obtain⟨p0,p1,rfl⟩:=len2 hl;obtain⟨j,c,rfl,hc,hcl,hce⟩:=Cb ay (hf 0 _ rfl);obtain⟨s,hs,hsl⟩:=BH am (hf 1 _ rfl);obtain⟨l,rfl,hlo⟩:=rB (f:=Prt.enc) (Q:=Prt.Ok) fun el hel=>Vi (hce el hel)
 simp at hs hc;subst hs;subst hc;exact⟨⟨l,s⟩,rfl,⟨by simpa using hcl,hlo,hsl⟩⟩
theorem Je {n:Nat}{ps:List PV}(hp:TyP Tryz.prog n 31 ps):∃ l:List Cpx,ps=[.sl (l.map Cpx.enc)]∧l.length≤reachBytes∧∀ x∈l,x.Ok:=by
 obtain⟨j,c,rfl,rfl,hcl,hce⟩:=Cb aL hp;obtain⟨l,rfl,hlo⟩:=rB (f:=Cpx.enc) (Q:=Cpx.Ok) fun el hel=>Vu (hce el hel)
 exact⟨l,rfl,by simpa using hcl,hlo⟩
def Jr:List TypeId:=[4,3,9,91,60,93,23,52,48,50,45,47,31]
theorem Nq:vf Tryz.prog Jr=true:=by kernel_rfl
theorem FP (p:PV):rh Tryz.prog 31 [p]=.c (.pv p):=by
 unfold rh;rw[Tryz.underlying31]
end Go.Abs
