/-
  WHAT THE FUNCTIONS COMPUTE, layer 4: whether a simple selector may be, as the program tells, all kinds. (Printed by gens9.py.)
  WHAT THE FUNCTIONS COMPUTE, layer 4: whether selectors may be, as the program tells.
-/
import Derived.Test.YtlomcifkckgneaaGreatDoorRc7
import Derived.Test.YtlomcifkckgneaaGreatDoorRc14
import Derived.Test.YtlomcifkckgneaaGreatDoorRc19
set_option linter.unusedSimpArgs false
set_option linter.unusedVariables false
namespace Go.Abs
open Go Go.Proofs
set_option maxRecDepth 10000
attribute [local go_sem] cM bt ck bJ bH cL cq co aR bU bO ci cN bF opd avOf cvOf St.degAt St.put okPV dA okAV cZ cY cX cG aH if_true Bool.false_eq_true if_false Option.map_some Option.map_none Option.bind_some Option.bind_none dC dr upd List.toList_toArray cA steal bm mvB c8 cF cE AV.deg CV.deg AV.gv AV.isIter cy cj bK List.length_nil List.length_cons List.filterMap_cons List.filterMap_nil beq_iff_eq List.getElem?_cons_zero List.getElem?_cons_succ Option.getD_some dE ev Bool.false_and Bool.and_false Bool.and_self K_P eN bZ cz bh lend back idx dedup AV.ren CV.ren TV.ren AV.ptrs CV.ptrs cH AV.flat CV.flat cf bQ aV cK cQ dM bW aM bX bc bv bR bd d8 CV.pv? content bo ownT aW reps pvs chunks bM leave dU cw cV bG bg TV.deg TV.av LK CV.plain CV.noBld cJ dX bound List.map_cons List.map_nil List.all_cons List.all_nil List.any_cons List.any_nil List.contains_cons List.contains_nil List.elem_cons List.elem_nil List.cons_append List.nil_append List.append_nil List.flatMap_cons List.flatMap_nil List.zip_cons_cons List.zip_nil_left List.zip_nil_right List.take_succ_cons List.take_zero List.take_nil List.drop_succ_cons List.drop_zero List.drop_nil List.isEmpty_nil List.isEmpty_cons Bool.and_true Bool.true_and Bool.or_true Bool.true_or Bool.or_false Bool.false_or Bool.not_true Bool.not_false Nat.add_zero Nat.zero_add Option.isNone_none Option.isNone_some Option.getD_none true_and and_true not_true_eq_false not_false_eq_true decide_true decide_false Nat.le_refl and_self Bool.not_eq_true Nat.sub_self or_true true_or Option.some.injEq List.length_map List.nil_eq and_false false_and AV.live CV.live CV.liveIn dq aX Option.orElse_some Option.orElse_none head a7 a6 Int.lt_irrefl List.length_append ite_self dz ce cO bu Key.clash Key.sees Key.writes Nat.lt_irrefl gt_iff_lt cg dc false_or or_false beq_self_eq_true Bool.true_beq Bool.false_beq
theorem Iw {k:Int} {n v:List UInt8} {a b:Int} {l:List Sim} (h : ¬ PreM k n v a b (l.map Sim.enc)):Sl.oneB (.mk k n v a b l)=false:=by
 rw[Sl.oneB]
 cases hh:Sl.oneK k n v a b&&(if k=11 then (l.length==1&&Sl.hZ l) else l.isEmpty) with
 | false=>rfl
 | true =>
  exfalso
  apply h
  rw[Bool.and_eq_true] at hh
  obtain ⟨h1,h2⟩:=hh
  unfold Sl.oneK at h1
  unfold PreM bN bV bI
  by_cases k11:k=11
  ·subst k11
   simp at h1
   simp[h1]
  ·rw[if_neg k11] at h2
   have hl:l=[]:=by simpa using h2
   subst hl
   repeat' split at h1
   all_goals (first|(cases h1;done)|(simp_all;done)|(rename_i hk;rcases hk with hk|hk|hk<;>simp_all)|(rename_i hk;rcases hk with hk|hk<;>simp_all))
theorem wL {x:Sim} (hx:Sl.Sb 100000000 x):den K 150 [.agg (x.enc.map CV.pv)] []=some (.ret (B (Sl.oneB x)) []):=by
 induction hx with
 | @mk k n v a b l hn hv hl ih =>
  have hn':n.length<1000000000:=by omega
  have hv':v.length<1000000000:=by omega
  have e0:(Sim.mk k n v a b l).enc.map CV.pv=[.pv (.int .i64 k),.pv (.str n),.pv (.str v),.pv (.int .i64 a),.pv (.int .i64 b),.pv (.sl (l.map Sim.enc))]:=by rw[Sim.enc_mk];rfl
  rw[e0]
  by_cases hp:PreM k n v a b (l.map Sim.enc)
  case neg=>rw[Iw hp];exact Ih k n v a b _ hn hv hp
  obtain ⟨p1,p2,p3,p4⟩:=hp
  rw[List.append_eq_nil_iff] at p1
  obtain ⟨p0,p1⟩:=p1
  by_cases hk:k<1∨11<k
  ·have e1:bN k n=n:=if_neg (by omega)
   have e2:bV k v=v:=if_neg (by omega)
   have e3:bI k a=a:=if_neg (by omega)
   have e4:bI k b=b:=if_neg (by omega)
   rw[e1] at p0;rw[e2] at p1;rw[e3] at p2;rw[e4] at p3
   have p5:l=[]:=by
    rcases p4 with h|h
    ·omega
    ·simpa using h
   subst p0 p1 p2 p3 p5
   have e5:Sl.oneB (.mk k [] [] 0 0 [])=false:=by
    rw[Sl.oneB,Sl.oneK,if_neg (by omega),if_neg (by omega),if_neg (by omega),if_neg (by omega),if_neg (by omega),if_neg (by omega),if_neg (by omega),if_neg (by omega)]
    rfl
   rw[e5]
   exact ze k hk
  have hc:k=1∨k=2∨k=3∨k=4∨k=5∨k=6∨k=7∨k=8∨k=9∨k=10∨k=11:=by omega
  rcases hc with rfl|rfl|rfl|rfl|rfl|rfl|rfl|rfl|rfl|rfl|rfl
  ·have p5:l=[]:=by
    rcases p4 with h|h
    ·omega
    ·simpa using h
   have w0:n=[]:=p0
   have w1:v=[]:=p1
   have w2:a=0:=p2
   have w3:b=0:=p3
   subst w0 w1 w2 w3 p5
   have hh:=Ko
   simpa[Sl.oneB,Sl.oneK,Sl.fewB,Sl.eO,Sl.er] using hh
  ·have p5:l=[]:=by
    rcases p4 with h|h
    ·omega
    ·simpa using h
   have w1:v=[]:=p1
   have w2:a=0:=p2
   have w3:b=0:=p3
   subst w1 w2 w3 p5
   have hh:=Jw n hn'
   simpa[Sl.oneB,Sl.oneK,Sl.fewB,Sl.eO,Sl.er] using hh
  ·have p5:l=[]:=by
    rcases p4 with h|h
    ·omega
    ·simpa using h
   have w1:v=[]:=p1
   have w2:a=0:=p2
   have w3:b=0:=p3
   subst w1 w2 w3 p5
   have hh:=KC n hn'
   simpa[Sl.oneB,Sl.oneK,Sl.fewB,Sl.eO,Sl.er] using hh
  ·have p5:l=[]:=by
    rcases p4 with h|h
    ·omega
    ·simpa using h
   have w1:v=[]:=p1
   have w2:a=0:=p2
   have w3:b=0:=p3
   subst w1 w2 w3 p5
   have hh:=KA n hn'
   simpa[Sl.oneB,Sl.oneK,Sl.fewB,Sl.eO,Sl.er] using hh
  ·have p5:l=[]:=by
    rcases p4 with h|h
    ·omega
    ·simpa using h
   have w1:v=[]:=p1
   have w2:a=0:=p2
   have w3:b=0:=p3
   subst w1 w2 w3 p5
   have hh:=KB n hn'
   simpa[Sl.oneB,Sl.oneK,Sl.fewB,Sl.eO,Sl.er] using hh
  ·have p5:l=[]:=by
    rcases p4 with h|h
    ·omega
    ·simpa using h
   have w2:a=0:=p2
   have w3:b=0:=p3
   subst w2 w3 p5
   have hh:=JL n v hn' hv'
   simpa[Sl.oneB,Sl.oneK,Sl.fewB,Sl.eO,Sl.er] using hh
  ·have p5:l=[]:=by
    rcases p4 with h|h
    ·omega
    ·simpa using h
   have w1:v=[]:=p1
   have w2:a=0:=p2
   have w3:b=0:=p3
   subst w1 w2 w3 p5
   have hh:=KI n
   have e7:Sl.oneB (.mk 7 n [] 0 0 [])=decide (Sl.er n):=by
    have h7:Sl.oneB (.mk 7 n [] 0 0 [])=Sl.eO n:=by simp[Sl.oneB,Sl.oneK]
    rw[h7,Bool.eq_iff_iff,Sl.o2,decide_eq_true_iff]
   rw[e7]
   exact hh
  ·have p5:l=[]:=by
    rcases p4 with h|h
    ·omega
    ·simpa using h
   have w0:n=[]:=p0
   have w1:v=[]:=p1
   subst w0 w1 p5
   have hh:=KG a b
   simpa[Sl.oneB,Sl.oneK,Sl.fewB,Sl.eO,Sl.er] using hh
  ·have p5:l=[]:=by
    rcases p4 with h|h
    ·omega
    ·simpa using h
   have w0:n=[]:=p0
   have w1:v=[]:=p1
   have w2:a=0:=p2
   have w3:b=0:=p3
   subst w0 w1 w2 w3 p5
   have hh:=JM
   simpa[Sl.oneB,Sl.oneK,Sl.fewB,Sl.eO,Sl.er] using hh
  ·have p5:l=[]:=by
    rcases p4 with h|h
    ·omega
    ·simpa using h
   have w0:n=[]:=p0
   have w1:v=[]:=p1
   have w2:a=0:=p2
   have w3:b=0:=p3
   subst w0 w1 w2 w3 p5
   have hh:=Jb
   simpa[Sl.oneB,Sl.oneK,Sl.fewB,Sl.eO,Sl.er] using hh
  ·have w0:n=[]:=p0
   have w1:v=[]:=p1
   have w2:a=0:=p2
   have w3:b=0:=p3
   subst w0 w1 w2 w3
   have e1:Sl.oneB (.mk 11 [] [] 0 0 l)=(l.length==1&&Sl.hZ l):=by simp[Sl.oneB,Sl.oneK]
   rw[e1]
   match l,hl,ih with
   | [],_,_=>exact xZ _ (by simp)
   | [y],_,ih =>
    obtain ⟨k2,n2,v2,a2,b2,l2⟩:=y
    have e2:([(Sim.mk k2 n2 v2 a2 b2 l2)].length==1&&Sl.hZ [.mk k2 n2 v2 a2 b2 l2])=(k2 != 11&&Sl.oneB (.mk k2 n2 v2 a2 b2 l2)):=by
     show (Sl.hZ [.mk k2 n2 v2 a2 b2 l2])=_
     rw[Sl.hZ,Sl.hZ,Bool.and_true]
     rfl
    rw[e2]
    have h0:=ih (.mk k2 n2 v2 a2 b2 l2) (by simp)
    simp only[List.map_cons,List.map_nil,Sim.enc_mk] at h0 ⊢
    exact FT k2 n2 v2 a2 b2 (l2.map Sim.enc) _ h0
   | y::z::m,_,_ =>
    have e2:((y::z::m).length==1&&Sl.hZ (y::z::m))=false:=by simp
    rw[e2]
    exact xZ _ (by simp)
attribute [local go_sem] dS dw ag we zY cS cx bC gJ jc dh ij CB oB fZ fA eF Gf fg aI b7 fe jv g9 nG g7 Jf Iq
def fV:Bool→List Sim→Bool
 | _,[]=>true
 | first,x::r=>Sl.oneB x&&((first||decide (3≤x.kind))&&fV false r)
theorem oI : ∀ l:List Sim,fV false l=(l.all Sl.oneB&&l.all fun x=>decide (3≤x.kind))
 | []=>rfl
 | x::r=>by
  rw[fV,oI r,List.all_cons,List.all_cons,Bool.false_or]
  cases Sl.oneB x<;>cases decide (3≤x.kind)<;>cases r.all Sl.oneB<;>rfl
theorem yV (l:List Sim):fV true l=(l.all Sl.oneB&&l.tail.all fun x=>decide (3≤x.kind)):=by
 cases l with
 | nil=>rfl
 | cons x r =>
  rw[fV,oI r,List.all_cons,List.tail_cons,Bool.true_or,Bool.true_and]
  cases Sl.oneB x<;>cases r.all Sl.oneB<;>rfl
theorem BT {x:Sim} (h:Sl.oneB x=true):1≤x.kind∧x.kind≤11:=by
 obtain ⟨k,n,v,a,b,l⟩:=x
 show 1≤k∧k≤11
 rw[Sl.oneB,Bool.and_eq_true] at h
 have h1:=h.1
 unfold Sl.oneK at h1
 by_cases hk:1≤k∧k≤11
 ·exact hk
 ·rw[if_neg (by omega),if_neg (by omega),if_neg (by omega),if_neg (by omega),if_neg (by omega),if_neg (by omega),if_neg (by omega),if_neg (by omega)] at h1
  cases h1
abbrev cpmH (l:List Sim) (last:Bool) (i:Nat):St :=
  { sl:=upd (upd (upd (upd (upd bot 9 (I i)) 8 (I l.length)) 7 (L (l.map Sim.enc))) 1 (B last)) 0 (L (l.map Sim.enc)),bx:=nobox,nt:=43 }
noncomputable def cpmlp:Code := .loop (ao Tryz.f105 2)
theorem DY (l:List Sim) (i:Nat) (k:Int) (n v:List UInt8) (a b:Int) (l2:List Sim) (h:l[i]? = some (.mk k n v a b l2)):(l.map Sim.enc)[(i:Int).toNat]? = some [.int .i64 k,.str n,.str v,.int .i64 a,.int .i64 b,.sl (l2.map Sim.enc)]:=by
 rw[Int.toNat_natCast,List.getElem?_map,h,Option.map_some,Sim.enc_mk]
set_option maxHeartbeats 8000000 in
theorem EY (l:List Sim) (last:Bool) (i:Nat) (hl:l.length≤100000000) (x:Sim) (hi:l[i]? = some x) (hx:Sl.Sb 100000000 x) (h1:Sl.oneB x=true) (h2:i=0∨3≤x.kind) :
  exL K 105 cpmlp (cpmH l last i)=exL K 105 cpmlp (cpmH l last (i+1)):=by
 have hil:i<l.length:=(List.getElem?_eq_some_iff.1 hi).1
 have hlt:decide ((i:Int)<(l.length:Int))=true:=decide_eq_true (by omega)
 have hm:=wL hx
 rw[h1] at hm
 have hws:IntKind.i64.wrap ((i:Int)+1)=((i+1:Nat):Int):=bA i (by omega)
 obtain ⟨k,n,v,a,b,l2⟩:=x
 have hget:=DY l i k n v a b l2 hi
 rw[Sim.enc_mk] at hm
 simp only[List.map_cons,List.map_nil] at hm
 have h2:i=0∨3≤k:=h2
 unfold cpmlp
 conv in ao _ _=>whnf
 conv in ao _ _=>whnf
 conv in exL _ _ _ (cpmH l last i)=>rw[aw]
 by_cases h0:i=0
 ·have e0:decide ((0:Int)<(i:Int))=false:=decide_eq_false (by omega)
  simp only[go_sem,Nat.reduceLT,reduceCtorEq,Nat.reduceEqDiff,Nat.reduceBEq,Nat.reduceAdd,ae aa,hlt,hget,Int.natCast_nonneg,hm,hws,e0]
  rw[aB]
  simp only[go_sem,reduceCtorEq,Nat.reduceEqDiff]
 ·have e0:decide ((0:Int)<(i:Int))=true:=decide_eq_true (by omega)
  have e1:(k==1)=false:=by rw[beq_eq_false_iff_ne];omega
  have e2:(k==2)=false:=by rw[beq_eq_false_iff_ne];omega
  simp only[go_sem,Nat.reduceLT,reduceCtorEq,Nat.reduceEqDiff,Nat.reduceBEq,Nat.reduceAdd,ae aa,hlt,hget,Int.natCast_nonneg,hm,hws,e0,e1,e2]
  rw[aB]
  simp only[go_sem,reduceCtorEq,Nat.reduceEqDiff]
set_option maxHeartbeats 8000000 in
theorem JB (l:List Sim) (last:Bool) (i:Nat) (hl:l.length≤100000000) (x:Sim) (hi:l[i]? = some x) (hx:Sl.Sb 100000000 x) (h1:Sl.oneB x=false∨(0<i∧x.kind<3)) :
  Ends (exL K 105 cpmlp (cpmH l last i)) fun o S=>o = .ret∧S.sl 4=B false:=by
 have hil:i<l.length:=(List.getElem?_eq_some_iff.1 hi).1
 have hlt:decide ((i:Int)<(l.length:Int))=true:=decide_eq_true (by omega)
 have hm:=wL hx
 have hkd:=fun h=>BT (x:=x) h
 generalize hb:Sl.oneB x=bx at hm h1 hkd
 obtain ⟨k,n,v,a,b,l2⟩:=x
 have hget:=DY l i k n v a b l2 hi
 rw[Sim.enc_mk] at hm
 simp only[List.map_cons,List.map_nil] at hm
 unfold cpmlp
 conv in ao _ _=>whnf
 rw[aw]
 cases bx with
 | false=>simp only[go_sem,Nat.reduceLT,reduceCtorEq,Nat.reduceEqDiff,Nat.reduceBEq,Nat.reduceAdd,ae aa,hlt,hget,Int.natCast_nonneg,hm,ay]
 | true =>
  have h3:0<i∧k<3:=by
   rcases h1 with h|h
   ·cases h
   ·exact h
  have h4:1≤k∧k≤11:=hkd rfl
  have e0:decide ((0:Int)<(i:Int))=true:=decide_eq_true (by omega)
  have hk:k=1∨k=2:=by omega
  rcases hk with rfl|rfl
  ·simp only[go_sem,Nat.reduceLT,reduceCtorEq,Nat.reduceEqDiff,Nat.reduceBEq,Nat.reduceAdd,ae aa,hlt,hget,Int.natCast_nonneg,hm,e0,ay]
  ·simp only[go_sem,Nat.reduceLT,reduceCtorEq,Nat.reduceEqDiff,Nat.reduceBEq,Nat.reduceAdd,ae aa,hlt,hget,Int.natCast_nonneg,hm,e0,Int.reduceBEq,ay]
theorem wP (l:List Sim) (last:Bool) (hl:l.length≤100000000) (hok : ∀ x∈l,Sl.Sb 100000000 x) : ∀ (rest:List Sim) (i:Nat),l.drop i=rest→i≤l.length →
  Ends (exL K 105 cpmlp (cpmH l last i)) fun o S=>if fV (i==0) rest=true then (o = .exit 0∧S.nt=43∧S.sl 0=L (l.map Sim.enc)∧S.sl 1=B last) else (o = .ret∧S.sl 4=B false)
 | [],i,hd,hi=>by
  have hin:i=l.length:=by
   have:=List.drop_eq_nil_iff.1 hd
   omega
  subst hin
  have hlt:decide ((l.length:Int)<(l.length:Int))=false:=decide_eq_false (by omega)
  rw[fV]
  simp only[if_true]
  unfold cpmlp
  conv in ao _ _=>whnf
  rw[aw]
  simp only[go_sem,Nat.reduceLT,reduceCtorEq,Nat.reduceEqDiff,Nat.reduceBEq,ay]
 | x::rest,i,hd,hi=>by
  obtain ⟨g1,g2,g3⟩:=bS hd
  have hx:=hok x (List.mem_of_getElem? g1)
  have hi0:(i+1==0)=false:=rfl
  rw[fV]
  by_cases hg:Sl.oneB x=true∧(i=0∨3≤x.kind)
  ·rw[EY l last i hl x g1 hx hg.1 hg.2]
   have e:(Sl.oneB x&&((i==0||decide (3≤x.kind))&&fV false rest))=fV (i+1==0) rest:=by
    rw[hg.1,hi0,Bool.true_and]
    have:(i==0||decide (3≤x.kind))=true:=by simpa using hg.2
    rw[this,Bool.true_and]
   rw[e]
   exact wP l last hl hok rest (i+1) g2 (by omega)
  ·have e:(Sl.oneB x&&((i==0||decide (3≤x.kind))&&fV false rest))=false:=by
    cases h1:Sl.oneB x with
    | false=>rfl
    | true =>
     have h2:(i==0||decide (3≤x.kind))=false:=by
      rw[Bool.or_eq_false_iff,beq_eq_false_iff_ne,decide_eq_false_iff_not]
      exact ⟨fun h=>hg ⟨h1,.inl h⟩,fun h=>hg ⟨h1,.inr h⟩⟩
     rw[h2];rfl
   rw[e]
   simp only[Bool.false_eq_true,if_false]
   refine JB l last i hl x g1 hx ?_
   cases h1:Sl.oneB x with
   | false=>exact .inl rfl
   | true =>
    right
    have h2 : ¬ (i=0∨3≤x.kind):=fun h=>hg ⟨h1,h⟩
    omega
set_option maxHeartbeats 8000000 in
theorem BX (l:List Sim) (last:Bool) (hl:l.length≤100000000) (hok : ∀ x∈l,Sl.Sb 100000000 x) :
  den K 105 [L (l.map Sim.enc),B last] []=some (.ret (B (fV true l&&(decide (l.length≤8)&&(!l.isEmpty||last)))) []):=by
 have hr:Tryz.f105.results = #[.tmp 4]:=rfl
 have h:=wP l last hl hok l 0 rfl (Nat.zero_le _)
 unfold cpmlp at h
 conv at h in ao _ _=>whnf
 obtain ⟨o,S,w,hq⟩:=h
 have z0:((0:Nat):Int)=0:=rfl
 simp only[cpmH,z0] at w
 have hq:if fV true l=true then (o = .exit 0∧S.nt=43∧S.sl 0=L (l.map Sim.enc)∧S.sl 1=B last) else (o = .ret∧S.sl 4=B false):=hq
 cases hg:fV true l with
 | false =>
  rw[hg,if_neg (by simp)] at hq
  obtain ⟨rfl,q1⟩:=hq
  rw[Bool.false_and]
  refine ai rfl rfl Tryz.func105 rfl Tryz.ntmps105 ⟨by simp,by simp[LK]⟩ ?_
  simp only[go_sem,Nat.reduceLT,reduceCtorEq,Nat.reduceEqDiff,Nat.reduceBEq,Nat.reduceAdd,ah aa,List.length_map]
  rw[aB]
  simp only[go_sem,reduceCtorEq,Nat.reduceEqDiff]
  erw [w]
  simp only[go_sem,hr,q1]
 | true =>
  rw[hg,if_pos rfl] at hq
  obtain ⟨rfl,q1,q2,q3⟩:=hq
  rw[Bool.true_and]
  cases h8:decide (l.length≤8) with
  | false =>
   have e8:decide ((l.length:Int)≤8)=false:=decide_eq_false (by have:=of_decide_eq_false h8;omega)
   refine ai rfl rfl Tryz.func105 rfl Tryz.ntmps105 ⟨by simp,by simp[LK]⟩ ?_
   simp only[go_sem,Nat.reduceLT,reduceCtorEq,Nat.reduceEqDiff,Nat.reduceBEq,Nat.reduceAdd,ah aa,List.length_map]
   rw[aB]
   simp only[go_sem,reduceCtorEq,Nat.reduceEqDiff]
   erw [w]
   simp only[go_sem,Nat.reduceLT,Nat.reduceEqDiff,Nat.reduceBEq,Nat.reduceAdd,ah aa,hr,q1,q2,e8]
  | true =>
   have e8:decide ((l.length:Int)≤8)=true:=decide_eq_true (by have:=of_decide_eq_true h8;omega)
   cases l with
   | nil =>
    have d0:decide ((0:Int)<((0:Nat):Int))=false:=rfl
    simp only[List.map_nil,List.length_nil] at w q2 e8
    refine ai rfl rfl Tryz.func105 rfl Tryz.ntmps105 ⟨by simp,by simp[LK]⟩ ?_
    simp only[go_sem,Nat.reduceLT,reduceCtorEq,Nat.reduceEqDiff,Nat.reduceBEq,Nat.reduceAdd,ah aa]
    rw[aB]
    simp only[go_sem,reduceCtorEq,Nat.reduceEqDiff]
    erw [w]
    simp only[go_sem,Nat.reduceLT,reduceCtorEq,Nat.reduceEqDiff,Nat.reduceBEq,Nat.reduceAdd,ah aa,hr,q1,q2,q3,e8,d0]
   | cons x r =>
    have d0:decide ((0:Int)<((r.length+1:Nat):Int))=true:=decide_eq_true (by omega)
    rw[List.length_cons] at e8
    refine ai rfl rfl Tryz.func105 rfl Tryz.ntmps105 ⟨by simp,by simp[LK]⟩ ?_
    simp only[go_sem,Nat.reduceLT,reduceCtorEq,Nat.reduceEqDiff,Nat.reduceBEq,Nat.reduceAdd,ah aa,List.length_map]
    rw[aB]
    simp only[go_sem,reduceCtorEq,Nat.reduceEqDiff]
    erw [w]
    simp only[go_sem,Nat.reduceLT,reduceCtorEq,Nat.reduceEqDiff,Nat.reduceBEq,Nat.reduceAdd,ah aa,hr,q1,q2,e8,d0,List.length_map]
def wS (first more:Bool) (s:List UInt8) (p:Prt):Bool :=
 (decide (0≤p.comb)&&(decide (p.comb≤4)&&((p.comb==0)==first)))&&(fV true p.l&&(decide (p.l.length≤8)&&(!p.l.isEmpty||(!more && !s.isEmpty))))
theorem zS (first:Bool) (p:Prt) (r:List Prt) (s:List UInt8):Sl.eM first (p::r) s=(wS first (!r.isEmpty) s p&&Sl.eM false r s):=by
 rw[Sl.eM,wS,Sl.mY,yV]
 cases decide (0≤p.comb)<;>cases decide (p.comb≤4)<;>cases ((p.comb==0)==first)<;>cases p.l.all Sl.oneB<;>cases (p.l.tail.all fun x=>decide (3≤x.kind))<;>cases decide (p.l.length≤8)<;>cases p.l.isEmpty<;>cases r.isEmpty<;>cases s.isEmpty<;>rfl
abbrev slmH (ps:List Prt) (s:List UInt8) (i:Nat):St :=
  { sl:=upd (upd (upd (upd (upd bot 13 (I i)) 12 (I ps.length)) 11 (L (encQ ps))) 3 (I ((ps.length:Int) - 1))) 1 (.c (.loc 1 0)),bx:=upd nobox 1 (some [.pv (.sl (encQ ps)),.pv (.str s)]),nt:=61 }
noncomputable def slmlp:Code := .loop (ao Tryz.f55 3)
theorem Ie (ps:List Prt) (i:Nat) (p:Prt) (h:ps[i]? = some p):(encQ ps)[(i:Int).toNat]? = some [.int .i64 p.comb,.sl (p.l.map Sim.enc)]:=by
 rw[Int.toNat_natCast,List.getElem?_map,h];rfl
set_option maxHeartbeats 16000000 in
theorem HJ (ps:List Prt) (s:List UInt8) (i:Nat) (hl:ps.length≤100000000) (p:Prt) (rest:List Prt) (hd:ps.drop i=p::rest) (hpl:p.l.length≤100000000) (hok : ∀ x∈p.l,Sl.Sb 100000000 x) :
  if wS (i==0) (!rest.isEmpty) s p=true then exL K 55 slmlp (slmH ps s i)=exL K 55 slmlp (slmH ps s (i+1))
  else Ends (exL K 55 slmlp (slmH ps s i)) fun o S=>o = .ret∧S.sl 2=B false:=by
 obtain ⟨g1,g2,g3⟩:=bS hd
 have hlt:decide ((i:Int)<(ps.length:Int))=true:=decide_eq_true (by omega)
 have hws:IntKind.i64.wrap ((i:Int)+1)=((i+1:Nat):Int):=bA i (by omega)
 have hget:=Ie ps i p g1
 have elast:((i:Int)==(ps.length:Int) - 1)=rest.isEmpty:=by
  have hlen:rest.length=ps.length - (i+1):=by rw[←g2,List.length_drop]
  cases rest with
  | nil=>rw[List.length_nil] at hlen;rw[List.isEmpty_nil,beq_iff_eq];omega
  | cons x r=>rw[List.length_cons] at hlen;rw[List.isEmpty_cons,beq_eq_false_iff_ne];omega
 have ei:((i:Int)==0)=(i==0):=by rw[Bool.eq_iff_iff];simp
 have esn:(s==[])=s.isEmpty:=by cases s<;>rfl
 unfold wS
 generalize hF:(i==0)=F at ei ⊢
 generalize hR:rest.isEmpty=R at elast ⊢
 generalize hS:s.isEmpty=Z at esn ⊢
 by_cases c1:0≤p.comb
 case neg =>
  have e1:decide (p.comb<0)=true:=decide_eq_true (by omega)
  rw[decide_eq_false c1,Bool.false_and,Bool.false_and,if_neg (by simp)]
  unfold slmlp
  conv in ao _ _=>whnf
  rw[aw]
  simp only[go_sem,Nat.reduceLT,Nat.reduceEqDiff,Nat.reduceBEq,Nat.reduceAdd,ae aN,hlt,hget,Int.natCast_nonneg,e1,ay]
 have e1:decide (p.comb<0)=false:=decide_eq_false (by omega)
 rw[decide_eq_true c1,Bool.true_and]
 by_cases c2:p.comb≤4
 case neg =>
  have e2:decide ((4:Int)<p.comb)=true:=decide_eq_true (by omega)
  rw[decide_eq_false c2,Bool.false_and,Bool.false_and,if_neg (by simp)]
  unfold slmlp
  conv in ao _ _=>whnf
  rw[aw]
  simp only[go_sem,Nat.reduceLT,Nat.reduceEqDiff,Nat.reduceBEq,Nat.reduceAdd,ae aN,hlt,hget,Int.natCast_nonneg,e1,e2,ay]
 have e2:decide ((4:Int)<p.comb)=false:=decide_eq_false (by omega)
 rw[decide_eq_true c2,Bool.true_and]
 cases c3:((p.comb==0)==F)
 ·rw[Bool.false_and,if_neg (by simp)]
  unfold slmlp
  conv in ao _ _=>whnf
  rw[aw]
  simp only[go_sem,Nat.reduceLT,Nat.reduceEqDiff,Nat.reduceBEq,Nat.reduceAdd,ae aN,hlt,hget,Int.natCast_nonneg,e1,e2,ei,c3,ay]
 rw[Bool.true_and]
 have fin : ∀ Y:Bool,(!R && !Z)=Y→True:=fun _ _=>trivial
 have key : ∀ flag:Bool,flag=(R && !Z)→if (fV true p.l&&(decide (p.l.length≤8)&&(!p.l.isEmpty||flag)))=true then exL K 55 slmlp (slmH ps s i)=exL K 55 slmlp (slmH ps s (i+1))
   else Ends (exL K 55 slmlp (slmH ps s i)) fun o S=>o = .ret∧S.sl 2=B false:=by
  intro flag hf
  have hc:=BX p.l flag hpl hok
  generalize (fV true p.l&&(decide (p.l.length≤8)&&(!p.l.isEmpty||flag)))=W at hc ⊢
  cases W with
  | false =>
   rw[if_neg (by simp)]
   unfold slmlp
   conv in ao _ _=>whnf
   rw[aw]
   cases R with
   | false =>
    have hf:flag=false:=hf
    subst hf
    simp only[go_sem,Nat.reduceLT,Nat.reduceEqDiff,Nat.reduceBEq,Nat.reduceAdd,ae aN,hlt,hget,Int.natCast_nonneg,e1,e2,ei,c3,elast,hc,ay]
   | true =>
    have hf:flag = !Z:=hf
    subst hf
    cases Z
    all_goals
     simp only[Bool.not_true,Bool.not_false] at hc
     simp only[go_sem,Nat.reduceLT,Nat.reduceEqDiff,Nat.reduceBEq,Nat.reduceAdd,ae aN,hlt,hget,Int.natCast_nonneg,e1,e2,ei,c3,elast,esn,bne,hc,ay]
  | true =>
   rw[if_pos rfl]
   unfold slmlp
   conv in ao _ _=>whnf
   conv in ao _ _=>whnf
   conv in exL _ _ _ (slmH ps s i)=>rw[aw]
   cases R with
   | false =>
    have hf:flag=false:=hf
    subst hf
    simp only[go_sem,Nat.reduceLT,Nat.reduceEqDiff,Nat.reduceBEq,Nat.reduceAdd,ae aN,hlt,hget,Int.natCast_nonneg,e1,e2,ei,c3,elast,hc,hws]
    rw[aB]
    simp only[go_sem,Nat.reduceEqDiff]
   | true =>
    have hf:flag = !Z:=hf
    subst hf
    cases Z
    all_goals
     simp only[Bool.not_true,Bool.not_false] at hc
     simp only[go_sem,Nat.reduceLT,Nat.reduceEqDiff,Nat.reduceBEq,Nat.reduceAdd,ae aN,hlt,hget,Int.natCast_nonneg,e1,e2,ei,c3,elast,esn,bne,hc,hws]
     rw[aB]
     simp only[go_sem,Nat.reduceEqDiff]
 have:=key (R && !Z) rfl
 rw[Bool.not_not]
 exact this
theorem xW (ps:List Prt) (s:List UInt8) (hl:ps.length≤100000000) (hok : ∀ p∈ps,p.l.length≤100000000 ∧ ∀ x∈p.l,Sl.Sb 100000000 x) : ∀ (rest:List Prt) (i:Nat),ps.drop i=rest→i≤ps.length →
  Ends (exL K 55 slmlp (slmH ps s i)) fun o S=>if Sl.eM (i==0) rest s=true then (o = .exit 0∧S.nt=61∧S.sl 1 = .c (.loc 1 0)∧S.sl 3=I ((ps.length:Int) - 1)∧S.bx 1=some [.pv (.sl (encQ ps)),.pv (.str s)]) else (o = .ret∧S.sl 2=B false)
 | [],i,hd,hi=>by
  have hin:i=ps.length:=by
   have:=List.drop_eq_nil_iff.1 hd
   omega
  subst hin
  have hlt:decide ((ps.length:Int)<(ps.length:Int))=false:=decide_eq_false (by omega)
  rw[Sl.eM]
  simp only[if_true]
  unfold slmlp
  conv in ao _ _=>whnf
  rw[aw]
  simp only[go_sem,Nat.reduceLT,Nat.reduceEqDiff,Nat.reduceBEq,ay]
 | p::rest,i,hd,hi=>by
  obtain ⟨g1,g2,g3⟩:=bS hd
  obtain ⟨k1,k2⟩:=hok p (List.mem_of_getElem? g1)
  have h1:=HJ ps s i hl p rest hd k1 k2
  have hi0:(i+1==0)=false:=rfl
  rw[zS]
  cases hp:wS (i==0) (!rest.isEmpty) s p with
  | false =>
   rw[hp,if_neg (by simp)] at h1
   rw[Bool.false_and]
   simp only[Bool.false_eq_true,if_false]
   exact h1
  | true =>
   rw[hp,if_pos rfl] at h1
   rw[h1,Bool.true_and,←hi0]
   exact xW ps s hl hok rest (i+1) g2 (by omega)
theorem zW (s:List UInt8):den K 106 [L [[.str []],[.str [98,101,102,111,114,101]],[.str [97,102,116,101,114]]],T s] []=some (.ret (B (Sl.ja s)) []):=by
 have h:=jx [[],Sl.fK,Sl.g6] s (by simp)
 have e:([[],Sl.fK,Sl.g6].any (s == ·))=Sl.ja s:=by
  unfold Sl.ja
  have:(s==[])=s.isEmpty:=by cases s<;>rfl
  simp only[List.any_cons,List.any_nil,Bool.or_false,this]
 rw[e] at h
 exact h
set_option maxHeartbeats 16000000 in
theorem ti (c:Cpx) (hl:c.parts.length≤100000000) (hok : ∀ p∈c.parts,p.l.length≤100000000 ∧ ∀ x∈p.l,Sl.Sb 100000000 x) :
  den K 55 [.agg [.pv (.sl (encQ c.parts)),.pv (.str c.pseudo)]] []=some (.ret (B (Sl.cpxB c)) []):=by
 have hr:Tryz.f55.results = #[.tmp 2]:=rfl
 obtain ⟨ps,s⟩:=c
 have h:=xW ps s hl hok ps 0 rfl (Nat.zero_le _)
 have hps:=zW s
 unfold slmlp at h
 conv at h in ao _ _=>whnf
 obtain ⟨o,S,w,hq⟩:=h
 have z0:((0:Nat):Int)=0:=rfl
 simp only[slmH,z0] at w
 have hq:if Sl.eM true ps s=true then (o = .exit 0∧S.nt=61∧S.sl 1 = .c (.loc 1 0)∧S.sl 3=I ((ps.length:Int) - 1)∧S.bx 1=some [.pv (.sl (encQ ps)),.pv (.str s)]) else (o = .ret∧S.sl 2=B false):=hq
 have hw1:IntKind.i64.wrap ((ps.length:Int) - 1)=(ps.length:Int) - 1:=IntWalk.i64_in _ (by have hl':ps.length≤100000000:=hl;omega)
 unfold Sl.cpxB
 simp only
 cases hp:Sl.eM true ps s with
 | false =>
  rw[hp,if_neg (by simp)] at hq
  obtain ⟨rfl,q1⟩:=hq
  rw[Bool.false_and]
  refine ai rfl rfl Tryz.func55 rfl Tryz.ntmps55 ⟨by simp,by simp[LK]⟩ ?_
  simp only[go_sem,Nat.reduceLT,Nat.reduceEqDiff,Nat.reduceBEq,Nat.reduceAdd,Nat.reduceSub,Nat.reduceLeDiff,ah aN,List.length_map,hw1]
  rw[aB]
  simp only[go_sem,Nat.reduceEqDiff,Nat.reduceSub,Nat.reduceLeDiff]
  erw [w]
  simp only[go_sem,hr,q1]
 | true =>
  rw[hp,if_pos rfl] at hq
  obtain ⟨rfl,q1,q2,q3,q4⟩:=hq
  rw[Bool.true_and]
  by_cases c1:1≤ps.length
  ·have e1:decide ((0:Int)≤(ps.length:Int) - 1)=true:=decide_eq_true (by omega)
   rw[decide_eq_true c1,Bool.true_and]
   by_cases c2:ps.length≤16
   ·have e2:decide ((ps.length:Int) - 1<16)=true:=decide_eq_true (by omega)
    rw[decide_eq_true c2,Bool.true_and]
    refine ai rfl rfl Tryz.func55 rfl Tryz.ntmps55 ⟨by simp,by simp[LK]⟩ ?_
    simp only[go_sem,Nat.reduceLT,Nat.reduceEqDiff,Nat.reduceBEq,Nat.reduceAdd,Nat.reduceSub,Nat.reduceLeDiff,ah aN,List.length_map,hw1]
    rw[aB]
    simp only[go_sem,Nat.reduceEqDiff,Nat.reduceSub,Nat.reduceLeDiff]
    erw [w]
    simp only[go_sem,Nat.reduceLT,Nat.reduceEqDiff,Nat.reduceBEq,Nat.reduceAdd,Nat.reduceLeDiff,Nat.reduceMul,am (len:=3) aG aI aF ⟨rfl,by decide,by decide⟩,hr,q1,q2,q3,q4,e1,e2,hps]
   ·have e2:decide ((ps.length:Int) - 1<16)=false:=decide_eq_false (by omega)
    rw[decide_eq_false c2,Bool.false_and]
    refine ai rfl rfl Tryz.func55 rfl Tryz.ntmps55 ⟨by simp,by simp[LK]⟩ ?_
    simp only[go_sem,Nat.reduceLT,Nat.reduceEqDiff,Nat.reduceBEq,Nat.reduceAdd,Nat.reduceSub,Nat.reduceLeDiff,ah aN,List.length_map,hw1]
    rw[aB]
    simp only[go_sem,Nat.reduceEqDiff,Nat.reduceSub,Nat.reduceLeDiff]
    erw [w]
    simp only[go_sem,Nat.reduceLT,Nat.reduceEqDiff,Nat.reduceBEq,Nat.reduceAdd,hr,q1,q3,e1,e2]
  ·have e1:decide ((0:Int)≤(ps.length:Int) - 1)=false:=decide_eq_false (by omega)
   rw[decide_eq_false c1,Bool.false_and]
   refine ai rfl rfl Tryz.func55 rfl Tryz.ntmps55 ⟨by simp,by simp[LK]⟩ ?_
   simp only[go_sem,Nat.reduceLT,Nat.reduceEqDiff,Nat.reduceBEq,Nat.reduceAdd,Nat.reduceSub,Nat.reduceLeDiff,ah aN,List.length_map,hw1]
   rw[aB]
   simp only[go_sem,Nat.reduceEqDiff,Nat.reduceSub,Nat.reduceLeDiff]
   erw [w]
   simp only[go_sem,Nat.reduceLT,Nat.reduceEqDiff,Nat.reduceBEq,Nat.reduceAdd,hr,q1,q3,e1]
theorem C9 (c:Cpx) (hl:c.parts.length≤100000000) (hok : ∀ p∈c.parts,p.l.length≤100000000 ∧ ∀ x∈p.l,Sl.Sb 100000000 x) :
  den K 54 [.agg [.pv (.sl (encQ c.parts)),.pv (.str c.pseudo)]] []=some (.ret (B (!Sl.cpxB c)) []):=by
 have hr:Tryz.f54.results = #[.tmp 2]:=rfl
 have h:=ti c hl hok
 refine ai rfl rfl Tryz.func54 rfl Tryz.ntmps54 ⟨by simp,by simp[LK]⟩ ?_
 simp only[go_sem,Nat.reduceLT,Nat.reduceEqDiff,Nat.reduceBEq,Nat.reduceAdd,Nat.reduceSub,Nat.reduceLeDiff,hr,h]
theorem Je {α:Type} (p:α→Bool) (l:List α):(l.any fun x => !p x) = !l.all p:=by
 induction l with
 | nil=>rfl
 | cons x l ih=>rw[List.any_cons,List.all_cons,ih];cases p x<;>rfl
set_option maxHeartbeats 8000000 in
theorem GR (l:List Cpx) (hl:l.length≤1000000) (hok : ∀ c∈l,c.parts.length≤100000000 ∧ ∀ p∈c.parts,p.l.length≤100000000 ∧ ∀ x∈p.l,Sl.Sb 100000000 x) :
  den K 23 [L (l.map Cpx.enc)] []=some (.ret (B (Sl.mayB l)) []):=by
 have hr:Tryz.f23.results = #[.tmp 2]:=rfl
 have hg:K.good 54=true:=by kernel_rfl
 have hc:=th hg rfl .no l (by omega) (p:=fun c => !Sl.cpxB c) fun c hcm=>C9 c (hok c hcm).1 (hok c hcm).2
 rw[Je] at hc
 unfold Sl.mayB
 have e1:decide ((0:Int)<(l.length:Int))=decide (1≤l.length):=by rw[decide_eq_decide];omega
 have e2:decide ((l.length:Int)≤32)=decide (l.length≤32):=by rw[decide_eq_decide];omega
 cases c1:decide (1≤l.length)
 ·rw[c1] at e1
  rw[Bool.false_and,Bool.and_false]
  refine ai rfl rfl Tryz.func23 rfl Tryz.ntmps23 ⟨by simp,by simp[LK]⟩ ?_
  simp only[go_sem,Nat.reduceLT,reduceCtorEq,Nat.reduceEqDiff,Nat.reduceBEq,Nat.reduceAdd,ah aP,hr,List.length_map,e1]
 rw[c1] at e1
 cases c2:decide (l.length≤32)
 ·rw[c2] at e2
  rw[Bool.and_false,Bool.and_false]
  refine ai rfl rfl Tryz.func23 rfl Tryz.ntmps23 ⟨by simp,by simp[LK]⟩ ?_
  simp only[go_sem,Nat.reduceLT,reduceCtorEq,Nat.reduceEqDiff,Nat.reduceBEq,Nat.reduceAdd,ah aP,hr,List.length_map,e1,e2]
 rw[c2] at e2
 rw[Bool.and_self,Bool.and_true]
 refine ai rfl rfl Tryz.func23 rfl Tryz.ntmps23 ⟨by simp,by simp[LK]⟩ ?_
 simp only[go_sem,Nat.reduceLT,reduceCtorEq,Nat.reduceEqDiff,Nat.reduceBEq,Nat.reduceAdd,ah aP,hr,List.length_map,e1,e2,hc,Bool.not_not,gq]
end Go.Abs
