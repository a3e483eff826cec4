/-
  WHAT THE FUNCTIONS COMPUTE, layer 4: whether a simple selector may be, as the document tells, some kinds. (Printed by gens9.py.)
  (And 1 texts more.)
-/
import Derived.Test.YtlomcifkckgneaaGreatDoorRd18
set_option maxHeartbeats 16000000
open Nat (reduceEqDiff reduceAdd reduceLT reduceLeDiff reduceSub reduceMul)
set_option linter.unusedSimpArgs false
set_option linter.unusedVariables false
namespace Go.Abs
open Go Go.Proofs
set_option maxRecDepth 10000
attribute [local go_sem] dP bZ de cB cK dL dh du bo ck ce cE dr ci opd avOf cvOf St.degAt St.put okPV fE okAV eL eP eV dM aP if_true Bool.false_eq_true if_false Option.map_some Option.map_none Option.bind_some Option.bind_none fo fw upd List.toList_toArray cM steal bI mvB fj dK db AV.deg CV.deg AV.gv AV.isIter dG dw cJ List.length_nil List.length_cons List.filterMap_cons List.filterMap_nil beq_iff_eq List.getElem?_cons_zero List.getElem?_cons_succ Option.getD_some fM gJ Bool.false_and Bool.and_false Bool.and_self K_P iJ cI dc bL lend back idx dedup AV.ren CV.ren TV.ren AV.ptrs CV.ptrs dE AV.flat CV.flat cQ cz br dD dY gi cL bf cS bV cu cH bU gS CV.pv? content bT ownT bv reps pvs chunks co leave gj cZ eD cm bB TV.deg TV.av LK CV.plain CV.noBld dR gD bound List.map_cons List.map_nil List.all_cons List.all_nil List.any_cons List.any_nil List.contains_cons List.contains_nil List.elem_cons List.elem_nil List.cons_append List.nil_append List.append_nil List.flatMap_cons List.flatMap_nil List.zip_cons_cons List.zip_nil_left List.zip_nil_right List.take_succ_cons List.take_zero List.take_nil List.drop_succ_cons List.drop_zero List.drop_nil List.isEmpty_nil List.isEmpty_cons Bool.and_true Bool.true_and Bool.or_true Bool.true_or Bool.or_false Bool.false_or Bool.not_true Bool.not_false Nat.add_zero Nat.zero_add Option.isNone_none Option.isNone_some Option.getD_none true_and and_true not_true_eq_false not_false_eq_true decide_true decide_false Nat.le_refl and_self Bool.not_eq_true Nat.sub_self or_true true_or Option.some.injEq List.length_map List.nil_eq and_false false_and AV.live CV.live CV.liveIn gk bu Option.orElse_some Option.orElse_none head bJ bG Int.lt_irrefl List.length_append ite_self fx cF dC cf Key.clash Key.sees Key.writes Nat.lt_irrefl gt_iff_lt dt fB false_or or_false beq_self_eq_true Bool.true_beq Bool.false_beq dz cy bK ab dZ fc aN cj sB sI eF fQ fS rX fL rP gO ib fI oQ pb
theorem Vg (n v:List UInt8)(a b:Int)(lc:List (List PV))(Q:Bool)(hn:n.length<1000000000)(hv:v.length<1000000000)(hq:eA Tryz.prog 146 [.int .i64 6,.str n,.str v,.int .i64 a,.int .i64 b] [.int .i64 6,.str n,.str v,.int .i64 0,.int .i64 0]=some Q) :
  den K 107 [.agg [.pv (.int .i64 6),.pv (.str n),.pv (.str v),.pv (.int .i64 a),.pv (.int .i64 b),.pv (.sl lc)]] []=some (.ret (B ((Tk.may ⟨1,n,0⟩&&(Tk.may ⟨6,v,34⟩||Tk.may ⟨6,v,39⟩))&&(Q&&((lc.length:Int)==0)))) []):=by
 have hr:Tryz.f107.results=#[.tmp 2]:=rfl
 have h1:=pV n hn
 have h2:=su 6 v 34 ⟨by decide,by decide⟩ hv
 have h3:=su 6 v 39 ⟨by decide,by decide⟩ hv
 cases q1:Tk.may ⟨1,n,0⟩
 ·rw[q1] at h1;refine ai rfl rfl Tryz.func107 rfl Tryz.ntmps107 ⟨by simp,by simp[LK]⟩ ?_
  simp (maxSteps:=2000000) only[go_sem,reduceLT,reduceEqDiff,Nat.reduceBEq,reduceAdd,reduceSub,reduceLeDiff,aa ab ah,aa ag al,af ae,aj ae,hr,aD,az,Int.reduceBEq,h1]
  all_goals (repeat (first|(rw[bm];rotate_left;(· kernel_rfl))|(first|rw[aY]|rw[aR]|rw[aV];rotate_left;(· kernel_rfl);simp (maxSteps:=2000000) only[go_sem,reduceLT,reduceCtorEq,reduceEqDiff,Nat.reduceBEq,reduceAdd,reduceSub,reduceLeDiff,reduceMul,aa ab ah,aa ag al,af ae,aj ae,hr,e00,i00,aD,az,Int.reduceBEq,h1])))
 ·rw[q1] at h1;cases q2:Tk.may ⟨6,v,34⟩
  ·rw[q2] at h2;cases q3:Tk.may ⟨6,v,39⟩
   ·rw[q3] at h3;refine ai rfl rfl Tryz.func107 rfl Tryz.ntmps107 ⟨by simp,by simp[LK]⟩ ?_
    simp (maxSteps:=2000000) only[go_sem,reduceLT,reduceEqDiff,Nat.reduceBEq,reduceAdd,reduceSub,reduceLeDiff,aa ab ah,aa ag al,af ae,aj ae,hr,aD,az,Int.reduceBEq,h1,h2,h3]
    all_goals (repeat (first|(rw[bm];rotate_left;(· kernel_rfl))|(first|rw[aY]|rw[aR]|rw[aV];rotate_left;(· kernel_rfl);simp (maxSteps:=2000000) only[go_sem,reduceLT,reduceCtorEq,reduceEqDiff,Nat.reduceBEq,reduceAdd,reduceSub,reduceLeDiff,reduceMul,aa ab ah,aa ag al,af ae,aj ae,hr,e00,i00,aD,az,Int.reduceBEq,h1,h2,h3])))
   ·rw[q3] at h3;cases Q
    ·refine ai rfl rfl Tryz.func107 rfl Tryz.ntmps107 ⟨by simp,by simp[LK]⟩ ?_
     simp (maxSteps:=2000000) only[go_sem,reduceLT,reduceEqDiff,Nat.reduceBEq,reduceAdd,reduceSub,reduceLeDiff,aa ab ah,aa ag al,af ae,aj ae,hr,aD,az,Int.reduceBEq,hq,h1,h2,h3]
     all_goals (repeat (first|(rw[bm];rotate_left;(· kernel_rfl))|(first|rw[aY]|rw[aR]|rw[aV];rotate_left;(· kernel_rfl);simp (maxSteps:=2000000) only[go_sem,reduceLT,reduceCtorEq,reduceEqDiff,Nat.reduceBEq,reduceAdd,reduceSub,reduceLeDiff,reduceMul,aa ab ah,aa ag al,af ae,aj ae,hr,e00,i00,aD,az,Int.reduceBEq,hq,h1,h2,h3])))
    ·refine ai rfl rfl Tryz.func107 rfl Tryz.ntmps107 ⟨by simp,by simp[LK]⟩ ?_
     simp (maxSteps:=2000000) only[go_sem,reduceLT,reduceEqDiff,Nat.reduceBEq,reduceAdd,reduceSub,reduceLeDiff,aa ab ah,aa ag al,af ae,aj ae,hr,aD,az,Int.reduceBEq,hq,h1,h2,h3]
     all_goals (repeat (first|(rw[bm];rotate_left;(· kernel_rfl))|(first|rw[aY]|rw[aR]|rw[aV];rotate_left;(· kernel_rfl);simp (maxSteps:=2000000) only[go_sem,reduceLT,reduceCtorEq,reduceEqDiff,Nat.reduceBEq,reduceAdd,reduceSub,reduceLeDiff,reduceMul,aa ab ah,aa ag al,af ae,aj ae,hr,e00,i00,aD,az,Int.reduceBEq,hq,h1,h2,h3])))
  ·rw[q2] at h2;cases Q
   ·refine ai rfl rfl Tryz.func107 rfl Tryz.ntmps107 ⟨by simp,by simp[LK]⟩ ?_
    simp (maxSteps:=2000000) only[go_sem,reduceLT,reduceEqDiff,Nat.reduceBEq,reduceAdd,reduceSub,reduceLeDiff,aa ab ah,aa ag al,af ae,aj ae,hr,aD,az,Int.reduceBEq,hq,h1,h2]
    all_goals (repeat (first|(rw[bm];rotate_left;(· kernel_rfl))|(first|rw[aY]|rw[aR]|rw[aV];rotate_left;(· kernel_rfl);simp (maxSteps:=2000000) only[go_sem,reduceLT,reduceCtorEq,reduceEqDiff,Nat.reduceBEq,reduceAdd,reduceSub,reduceLeDiff,reduceMul,aa ab ah,aa ag al,af ae,aj ae,hr,e00,i00,aD,az,Int.reduceBEq,hq,h1,h2])))
   ·refine ai rfl rfl Tryz.func107 rfl Tryz.ntmps107 ⟨by simp,by simp[LK]⟩ ?_
    simp (maxSteps:=2000000) only[go_sem,reduceLT,reduceEqDiff,Nat.reduceBEq,reduceAdd,reduceSub,reduceLeDiff,aa ab ah,aa ag al,af ae,aj ae,hr,aD,az,Int.reduceBEq,hq,h1,h2]
    all_goals (repeat (first|(rw[bm];rotate_left;(· kernel_rfl))|(first|rw[aY]|rw[aR]|rw[aV];rotate_left;(· kernel_rfl);simp (maxSteps:=2000000) only[go_sem,reduceLT,reduceCtorEq,reduceEqDiff,Nat.reduceBEq,reduceAdd,reduceSub,reduceLeDiff,reduceMul,aa ab ah,aa ag al,af ae,aj ae,hr,e00,i00,aD,az,Int.reduceBEq,hq,h1,h2])))
theorem Ic (k:Int)(hk:k<1∨11<k)(n v:List UInt8)(a b:Int)(lc:List (List PV)):den K 107 [.agg [.pv (.int .i64 k),.pv (.str n),.pv (.str v),.pv (.int .i64 a),.pv (.int .i64 b),.pv (.sl lc)]] []=some (.ret (B false) []):=by
 have hr:Tryz.f107.results=#[.tmp 2]:=rfl
 have e1:(k==1)=false:=by rw[beq_eq_false_iff_ne];omega
 have e2:(k==2)=false:=by rw[beq_eq_false_iff_ne];omega
 have e3:(k==3)=false:=by rw[beq_eq_false_iff_ne];omega
 have e4:(k==4)=false:=by rw[beq_eq_false_iff_ne];omega
 have e5:(k==5)=false:=by rw[beq_eq_false_iff_ne];omega
 have e6:(k==6)=false:=by rw[beq_eq_false_iff_ne];omega
 have e7:(k==7)=false:=by rw[beq_eq_false_iff_ne];omega
 have e8:(k==8)=false:=by rw[beq_eq_false_iff_ne];omega
 have e9:(k==9)=false:=by rw[beq_eq_false_iff_ne];omega
 have e10:(k==10)=false:=by rw[beq_eq_false_iff_ne];omega
 have e11:(k==11)=false:=by rw[beq_eq_false_iff_ne];omega
 refine ai rfl rfl Tryz.func107 rfl Tryz.ntmps107 ⟨by simp,by simp[LK]⟩ ?_
 simp (maxSteps:=2000000) only[go_sem,reduceLT,reduceEqDiff,Nat.reduceBEq,reduceAdd,reduceSub,reduceLeDiff,aa ab ah,aa ag al,af ae,aj ae,hr,aD,az,e1,e2,e3,e4,e5,e6,e7,e8,e9,e10,e11]
 all_goals (repeat (first|(rw[bm];rotate_left;(· kernel_rfl))|(first|rw[aY]|rw[aR]|rw[aV];rotate_left;(· kernel_rfl);simp (maxSteps:=2000000) only[go_sem,reduceLT,reduceCtorEq,reduceEqDiff,Nat.reduceBEq,reduceAdd,reduceSub,reduceLeDiff,reduceMul,aa ab ah,aa ag al,af ae,aj ae,hr,e00,i00,aD,az,Int.reduceBEq,e1,e2,e3,e4,e5,e6,e7,e8,e9,e10,e11])))
theorem Pi (n v:List UInt8)(a b:Int)(lc:List (List PV))(hq:eA Tryz.prog 146 [.int .i64 11,.str n,.str v,.int .i64 a,.int .i64 b] [.int .i64 11,.str [],.str [],.int .i64 0,.int .i64 0]=some false) :
  den K 107 [.agg [.pv (.int .i64 11),.pv (.str n),.pv (.str v),.pv (.int .i64 a),.pv (.int .i64 b),.pv (.sl lc)]] []=some (.ret (B false) []):=by
 have hr:Tryz.f107.results=#[.tmp 2]:=rfl
 refine ai rfl rfl Tryz.func107 rfl Tryz.ntmps107 ⟨by simp,by simp[LK]⟩ ?_
 simp (maxSteps:=2000000) only[go_sem,reduceLT,reduceEqDiff,Nat.reduceBEq,reduceAdd,reduceSub,reduceLeDiff,aa ab ah,aa ag al,hr,aD,az,Int.reduceBEq,hq]
 all_goals (repeat (first|(rw[bm];rotate_left;(· kernel_rfl))|(first|rw[aY]|rw[aR]|rw[aV];rotate_left;(· kernel_rfl);simp (maxSteps:=2000000) only[go_sem,reduceLT,reduceCtorEq,reduceEqDiff,Nat.reduceBEq,reduceAdd,reduceSub,reduceLeDiff,reduceMul,aa ab ah,aa ag al,af ae,aj ae,hr,e00,i00,aD,az,Int.reduceBEq,hq])))
attribute [local go_sem] Lr SA fy fT kw jb Kn cP lC aO kD fV JP fU
def Si4 (l m:List Sim):Prop:=∃ r:Bool,den K 52 [L (l.map Sim.enc),L (m.map Sim.enc)] []=some (.ret (B r) [])∧(r=true↔l=m)
abbrev sj4H (l m:List Sim)(i:Nat):St := { sl:=upd (upd (upd bot 5 (I i)) 1 (L (m.map Sim.enc))) 0 (L (l.map Sim.enc)),bx:=nobox,nt:=42 }
theorem AB {q q' a a' b b':Int}{n n' v v':List UInt8}{l l':List Sim}:Sim.mk q n v a b l=Sim.mk q' n' v' a' b' l'↔(((q==q')&&((n==n')&&((v==v')&&((a==a')&&((b==b')&&true)))))=true∧l=l'):=by
 simp only[Sim.mk.injEq,Bool.and_eq_true,beq_iff_eq,Bool.and_true,and_assoc]
theorem Sf (l m:List Sim) :
  Ends (exL K 52 si4lp (sj4H l m l.length)) fun o S=>o=.exit 0∧S.nt=42:=by
 have hlt:decide ((l.length:Int)<(l.length:Int))=false:=decide_eq_false (by omega)
 unfold si4lp
 conv in ap _ _=>whnf
 rw[aq];simp only[go_sem,reduceLT,reduceCtorEq,reduceEqDiff,Nat.reduceBEq,reduceAdd,af ae,aw]
theorem Nz (l m:List Sim)(hlm:l.length=m.length)(hal:l.length≤100000000)(i:Nat){q q' a a' b b':Int}{n n' v v':List UInt8}{l' m':List Sim}(h1:l[i]? = some (.mk q n v a b l'))(k1:m[i]? = some (.mk q' n' v' a' b' m'))(hq:((q==q')&&((n==n')&&((v==v')&&((a==a')&&((b==b')&&true)))))=false) :
  Ends (exL K 52 si4lp (sj4H l m i)) fun o S=>o=.ret∧S.sl 4=B false:=by
 have hil:i<l.length:=(List.getElem?_eq_some_iff.1 h1).1
 have hget:(l.map Sim.enc)[(i:Int).toNat]? = some [.int .i64 q,.str n,.str v,.int .i64 a,.int .i64 b,.sl (l'.map Sim.enc)]:=by simp[h1,Sim.enc_mk]
 have kget:(m.map Sim.enc)[(i:Int).toNat]? = some [.int .i64 q',.str n',.str v',.int .i64 a',.int .i64 b',.sl (m'.map Sim.enc)]:=by simp[k1,Sim.enc_mk]
 have hlt:decide ((i:Int)<(l.length:Int))=true:=decide_eq_true (by omega)
 have hp:=aD q a b n v (l'.map Sim.enc)
 have kp:=aD q' a' b' n' v' (m'.map Sim.enc)
 have hws:IntKind.i64.wrap ((i:Int)+1)=((i+1:Nat):Int):=aX i (by omega)
 have hb:=iG q q' a a' b b' n n' v v'
 rw[hq] at hb;unfold si4lp
 conv in ap _ _=>whnf
 rw[aq];simp only[go_sem,reduceLT,reduceCtorEq,reduceEqDiff,Nat.reduceBEq,reduceAdd,af ae,aj ae,hlt,hget,kget,Int.natCast_nonneg,hp,kp,hb,aw]
theorem Ob (l m:List Sim)(hlm:l.length=m.length)(hal:l.length≤100000000)(i:Nat){q q' a a' b b':Int}{n n' v v':List UInt8}{l' m':List Sim}(h1:l[i]? = some (.mk q n v a b l'))(k1:m[i]? = some (.mk q' n' v' a' b' m'))(hq:((q==q')&&((n==n')&&((v==v')&&((a==a')&&((b==b')&&true)))))=true)(hc:den K 52 [L (l'.map Sim.enc),L (m'.map Sim.enc)] []=some (.ret (B false) [])) :
  Ends (exL K 52 si4lp (sj4H l m i)) fun o S=>o=.ret∧S.sl 4=B false:=by
 have hil:i<l.length:=(List.getElem?_eq_some_iff.1 h1).1
 have hget:(l.map Sim.enc)[(i:Int).toNat]? = some [.int .i64 q,.str n,.str v,.int .i64 a,.int .i64 b,.sl (l'.map Sim.enc)]:=by simp[h1,Sim.enc_mk]
 have kget:(m.map Sim.enc)[(i:Int).toNat]? = some [.int .i64 q',.str n',.str v',.int .i64 a',.int .i64 b',.sl (m'.map Sim.enc)]:=by simp[k1,Sim.enc_mk]
 have hlt:decide ((i:Int)<(l.length:Int))=true:=decide_eq_true (by omega)
 have hp:=aD q a b n v (l'.map Sim.enc)
 have kp:=aD q' a' b' n' v' (m'.map Sim.enc)
 have hws:IntKind.i64.wrap ((i:Int)+1)=((i+1:Nat):Int):=aX i (by omega)
 have hb:=iG q q' a a' b b' n n' v v'
 rw[hq] at hb;unfold si4lp
 conv in ap _ _=>whnf
 rw[aq];simp only[go_sem,reduceLT,reduceCtorEq,reduceEqDiff,Nat.reduceBEq,reduceAdd,af ae,aj ae,hlt,hget,kget,Int.natCast_nonneg,hp,kp,hb,hc,aw]
theorem Rk (l m:List Sim)(hlm:l.length=m.length)(hal:l.length≤100000000)(i:Nat){q q' a a' b b':Int}{n n' v v':List UInt8}{l' m':List Sim}(h1:l[i]? = some (.mk q n v a b l'))(k1:m[i]? = some (.mk q' n' v' a' b' m'))(hq:((q==q')&&((n==n')&&((v==v')&&((a==a')&&((b==b')&&true)))))=true)(hc:den K 52 [L (l'.map Sim.enc),L (m'.map Sim.enc)] []=some (.ret (B true) [])) :
  exL K 52 si4lp (sj4H l m i)=exL K 52 si4lp (sj4H l m (i+1)):=by
 have hil:i<l.length:=(List.getElem?_eq_some_iff.1 h1).1
 have hget:(l.map Sim.enc)[(i:Int).toNat]? = some [.int .i64 q,.str n,.str v,.int .i64 a,.int .i64 b,.sl (l'.map Sim.enc)]:=by simp[h1,Sim.enc_mk]
 have kget:(m.map Sim.enc)[(i:Int).toNat]? = some [.int .i64 q',.str n',.str v',.int .i64 a',.int .i64 b',.sl (m'.map Sim.enc)]:=by simp[k1,Sim.enc_mk]
 have hlt:decide ((i:Int)<(l.length:Int))=true:=decide_eq_true (by omega)
 have hp:=aD q a b n v (l'.map Sim.enc)
 have kp:=aD q' a' b' n' v' (m'.map Sim.enc)
 have hws:IntKind.i64.wrap ((i:Int)+1)=((i+1:Nat):Int):=aX i (by omega)
 have hb:=iG q q' a a' b b' n n' v v'
 rw[hq] at hb;unfold si4lp
 conv in ap _ _=>whnf
 conv in ap _ _=>whnf
 conv in exL _ _ _ (sj4H l m i)=>rw[aq]
 simp only[go_sem,reduceLT,reduceCtorEq,reduceEqDiff,Nat.reduceBEq,reduceAdd,af ae,aj ae,hlt,hget,kget,Int.natCast_nonneg,hp,kp,hb,hc,hws];rw[au];simp only[go_sem,reduceCtorEq,reduceEqDiff]
theorem Dn (l m:List Sim)(hlm:l.length=m.length)(hal:l.length≤100000000)(hin:∀ q n v a b l',Sim.mk q n v a b l'∈l→∀ q' n' v' a' b' m',Sim.mk q' n' v' a' b' m'∈m→Si4 l' m'):∀ (rest:List Sim) (i:Nat),l.drop i=rest→i≤l.length →
  Ends (exL K 52 si4lp (sj4H l m i)) fun o S=>(o=.exit 0∧S.nt=42∧l.drop i=m.drop i)∨(o=.ret∧S.sl 4=B false∧l.drop i≠m.drop i)
 | [],i,hd,hi=>by
  have hin:i=l.length:=by
   have:=List.drop_eq_nil_iff.1 hd
   omega
  have hdm:m.drop i=[]:=List.drop_eq_nil_iff.2 (by omega)
  rw[hd,hdm];subst hin;exact aW (Sf l m) fun o S q=>.inl ⟨q.1,q.2,rfl⟩
 | .mk q n v a b l'::rest,i,hd,hi=>by
  obtain⟨h1,h2,h3⟩:=bH hd;have him:i<m.length:=by have:=(List.getElem?_eq_some_iff.1 h1).1;omega
  cases hy:m[i] with
  | mk q' n' v' a' b' m' =>
  have k1:m[i]? = some (.mk q' n' v' a' b' m'):=by rw[List.getElem?_eq_getElem him,hy]
  have kd:m.drop i=.mk q' n' v' a' b' m'::m.drop (i+1):=by rw[List.drop_eq_getElem_cons him,hy]
  rw[hd,kd,←h2];obtain⟨r,hc,hr⟩:=hin q n v a b l' (List.mem_of_getElem? h1) q' n' v' a' b' m' (List.mem_of_getElem? k1)
  cases hq:((q==q')&&((n==n')&&((v==v')&&((a==a')&&((b==b')&&true))))) with
  | false =>
   refine aW (Nz l m hlm hal i h1 k1 hq) fun o S z=>.inr ⟨z.1,z.2,fun e => ?_⟩
   have:=(AB.1 (List.cons.inj e).1).1
   rw[hq] at this
   cases this
  | true =>
   cases r with
   | false =>
    refine aW (Ob l m hlm hal i h1 k1 hq hc) fun o S z=>.inr ⟨z.1,z.2,fun e => ?_⟩
    exact absurd (hr.2 (AB.1 (List.cons.inj e).1).2) (by decide)
   | true =>
    rw[Rk l m hlm hal i h1 k1 hq hc];refine aW (Dn l m hlm hal hin rest (i+1) h2 (by omega)) fun o S z => ?_
    have e0:=AB.2 ⟨hq,hr.1 rfl⟩
    rcases z with⟨z1,z2,z3⟩|⟨z1,z2,z3⟩
    ·exact .inl ⟨z1,z2,by rw[e0,z3]⟩
    ·exact .inr ⟨z1,z2,fun e=>z3 (List.cons.inj e).2⟩
theorem It (l m:List Sim)(hal:l.length≤100000000)(hin:∀ q n v a b l',Sim.mk q n v a b l'∈l→∀ q' n' v' a' b' m',Sim.mk q' n' v' a' b' m'∈m→Si4 l' m'):Si4 l m:=by
 unfold Si4;have hr:Tryz.f52.results=#[.tmp 4]:=rfl
 by_cases hlm:l.length=m.length
 ·have hnext:=Dn l m hlm hal hin l 0 rfl (Nat.zero_le _)
  have hb:((l.length:Int)==(m.length:Int))=true:=by rw[beq_iff_eq];omega
  unfold si4lp at hnext
  conv at hnext in ap _ _=>whnf
  have z0:((0:Nat):Int)=0:=rfl
  obtain⟨o,S',e,hq⟩:=hnext;simp only[sj4H,z0] at e
  rcases hq with⟨rfl,hn,hx⟩|⟨rfl,hn,hx⟩
  ·refine⟨true,?_,fun _=>by simpa using hx,fun _=>rfl⟩
   refine ai rfl rfl Tryz.func52 rfl Tryz.ntmps52 ⟨by simp,by simp[LK]⟩ ?_
   simp only[go_sem,reduceLT,reduceCtorEq,reduceEqDiff,Nat.reduceBEq,reduceAdd,af ae,hb,bne];rw[au];simp only[go_sem,reduceCtorEq,reduceEqDiff];erw [e];simp only[go_sem,reduceLT,Nat.reduceBEq,hr,hn]
  ·refine⟨false,?_,fun h=>(by cases h),fun h=>absurd (by rw[h]) hx⟩
   refine ai rfl rfl Tryz.func52 rfl Tryz.ntmps52 ⟨by simp,by simp[LK]⟩ ?_
   simp only[go_sem,reduceLT,reduceCtorEq,reduceEqDiff,Nat.reduceBEq,reduceAdd,af ae,hb,bne];rw[au];simp only[go_sem,reduceCtorEq,reduceEqDiff];erw [e];simp only[go_sem,hr,hn]
 ·have hb:((l.length:Int)==(m.length:Int))=false:=by rw[beq_eq_false_iff_ne];omega
  refine⟨false,?_,fun h=>(by cases h),fun h=>absurd (by rw[h]) hlm⟩
  refine ai rfl rfl Tryz.func52 rfl Tryz.ntmps52 ⟨by simp,by simp[LK]⟩ ?_
  simp only[go_sem,reduceLT,reduceCtorEq,reduceEqDiff,Nat.reduceBEq,reduceAdd,af ae,hb,bne,hr]
theorem Ba (l m:List Sim)(hal:l.length≤100000000)(hok:∀ x∈l,Fin4 x):Si4 l m:=by
 have key:∀ x:Sim,Fin4 x→∀ q n v a b l',x=Sim.mk q n v a b l'→∀ m',Si4 l' m':=by
  intro x hx
  induction hx with
  | @mk k n v a c l hll hl ih =>
   intro q n' v' a' b' l' e m';cases e;exact It l m' hll (fun q n v a b l' hm _ _ _ _ _ m'' _=>ih _ hm q n v a b l' rfl m'')
 exact It l m hal (fun q n v a b l' hm _ _ _ _ _ m'' _=>key _ (hok _ hm) q n v a b l' rfl m'')
abbrev sb4In (l m:List Cpx)(i j:Nat):St := { sl:=upd (upd (upd (upd bot 6 (I j)) 5 (I i)) 1 (L (m.map Cpx.enc))) 0 (L (l.map Cpx.enc)),bx:=nobox,nt:=85 }
abbrev sb4Out (l m:List Cpx)(i:Nat):St := { sl:=upd (upd (upd bot 5 (I i)) 1 (L (m.map Cpx.enc))) 0 (L (l.map Cpx.enc)),bx:=nobox,nt:=85 }
theorem JL (l m:List Cpx)(i:Nat){ps qs:List Prt}{s t:List UInt8}(h1:l[i]? = some ⟨ps,s⟩)(k1:m[i]? = some ⟨qs,t⟩) :
  Ends (exL K 22 sa4lp (sb4In l m i ps.length)) fun o S=>o=.exit 2∧S.nt=85∧S.sl 0=L (l.map Cpx.enc)∧S.sl 1=L (m.map Cpx.enc)∧S.sl 5=I i:=by
 have g1:(l.map Cpx.enc)[(i:Int).toNat]? = some [.sl (ps.map Prt.enc),.str s]:=by simp[h1,Cpx.enc]
 have hlt:decide ((ps.length:Int)<(ps.length:Int))=false:=decide_eq_false (by omega)
 unfold sa4lp
 conv in ap _ _=>whnf
 rw[aq];simp only[go_sem,reduceLT,reduceCtorEq,reduceEqDiff,Nat.reduceBEq,reduceAdd,aj aL,af ay,aw,g1,Int.natCast_nonneg]
theorem GI (l m:List Cpx)(i j:Nat){ps qs:List Prt}{s t:List UInt8}(h1:l[i]? = some ⟨ps,s⟩)(k1:m[i]? = some ⟨qs,t⟩)(hps:ps.length≤100000000){k k':Int}{ls ms:List Sim}(g3:ps[j]? = some ⟨k,ls⟩)(q3:qs[j]? = some ⟨k',ms⟩)(hk:(k==k')=false) :
  Ends (exL K 22 sa4lp (sb4In l m i j)) fun o S=>o=.ret∧S.sl 4=B false:=by
 have hjl:j<ps.length:=(List.getElem?_eq_some_iff.1 g3).1
 have g1:(l.map Cpx.enc)[(i:Int).toNat]? = some [.sl (ps.map Prt.enc),.str s]:=by simp[h1,Cpx.enc]
 have p1:(m.map Cpx.enc)[(i:Int).toNat]? = some [.sl (qs.map Prt.enc),.str t]:=by simp[k1,Cpx.enc]
 have g2:(ps.map Prt.enc)[(j:Int).toNat]? = some [.int .i64 k,.sl (ls.map Sim.enc)]:=by simp[g3,Prt.enc]
 have p2:(qs.map Prt.enc)[(j:Int).toNat]? = some [.int .i64 k',.sl (ms.map Sim.enc)]:=by simp[q3,Prt.enc]
 have hlt:decide ((j:Int)<(ps.length:Int))=true:=decide_eq_true (by omega)
 have hws:IntKind.i64.wrap ((j:Int)+1)=((j+1:Nat):Int):=aX j (by omega)
 unfold sa4lp
 conv in ap _ _=>whnf
 rw[aq];simp only[go_sem,reduceLT,reduceCtorEq,reduceEqDiff,Nat.reduceBEq,reduceAdd,aj aL,af ay,aj ay,g1,g2,p1,p2,hlt,Int.natCast_nonneg]
 try (first|rw[aY]|rw[aR]|rw[aV])
 try rotate_left
 try kernel_rfl
 try simp only[go_sem,reduceLT,reduceCtorEq,reduceEqDiff,Nat.reduceBEq,reduceAdd,hk,aw,bne]
theorem Hl (l m:List Cpx)(i j:Nat){ps qs:List Prt}{s t:List UInt8}(h1:l[i]? = some ⟨ps,s⟩)(k1:m[i]? = some ⟨qs,t⟩)(hps:ps.length≤100000000){k k':Int}{ls ms:List Sim}(g3:ps[j]? = some ⟨k,ls⟩)(q3:qs[j]? = some ⟨k',ms⟩)(hk:(k==k')=true)(hc:den K 52 [L (ls.map Sim.enc),L (ms.map Sim.enc)] []=some (.ret (B false) [])) :
  Ends (exL K 22 sa4lp (sb4In l m i j)) fun o S=>o=.ret∧S.sl 4=B false:=by
 have hjl:j<ps.length:=(List.getElem?_eq_some_iff.1 g3).1
 have g1:(l.map Cpx.enc)[(i:Int).toNat]? = some [.sl (ps.map Prt.enc),.str s]:=by simp[h1,Cpx.enc]
 have p1:(m.map Cpx.enc)[(i:Int).toNat]? = some [.sl (qs.map Prt.enc),.str t]:=by simp[k1,Cpx.enc]
 have g2:(ps.map Prt.enc)[(j:Int).toNat]? = some [.int .i64 k,.sl (ls.map Sim.enc)]:=by simp[g3,Prt.enc]
 have p2:(qs.map Prt.enc)[(j:Int).toNat]? = some [.int .i64 k',.sl (ms.map Sim.enc)]:=by simp[q3,Prt.enc]
 have hlt:decide ((j:Int)<(ps.length:Int))=true:=decide_eq_true (by omega)
 have hws:IntKind.i64.wrap ((j:Int)+1)=((j+1:Nat):Int):=aX j (by omega)
 unfold sa4lp
 conv in ap _ _=>whnf
 rw[aq];simp only[go_sem,reduceLT,reduceCtorEq,reduceEqDiff,Nat.reduceBEq,reduceAdd,aj aL,af ay,aj ay,g1,g2,p1,p2,hlt,Int.natCast_nonneg]
 try (first|rw[aY]|rw[aR]|rw[aV])
 try rotate_left
 try kernel_rfl
 try simp only[go_sem,reduceLT,reduceCtorEq,reduceEqDiff,Nat.reduceBEq,reduceAdd,hk,hc,aw,bne]
theorem Hk (l m:List Cpx)(i j:Nat){ps qs:List Prt}{s t:List UInt8}(h1:l[i]? = some ⟨ps,s⟩)(k1:m[i]? = some ⟨qs,t⟩)(hps:ps.length≤100000000){k k':Int}{ls ms:List Sim}(g3:ps[j]? = some ⟨k,ls⟩)(q3:qs[j]? = some ⟨k',ms⟩)(hk:(k==k')=true)(hc:den K 52 [L (ls.map Sim.enc),L (ms.map Sim.enc)] []=some (.ret (B true) [])) :
  exL K 22 sa4lp (sb4In l m i j)=exL K 22 sa4lp (sb4In l m i (j+1)):=by
 have hjl:j<ps.length:=(List.getElem?_eq_some_iff.1 g3).1
 have g1:(l.map Cpx.enc)[(i:Int).toNat]? = some [.sl (ps.map Prt.enc),.str s]:=by simp[h1,Cpx.enc]
 have p1:(m.map Cpx.enc)[(i:Int).toNat]? = some [.sl (qs.map Prt.enc),.str t]:=by simp[k1,Cpx.enc]
 have g2:(ps.map Prt.enc)[(j:Int).toNat]? = some [.int .i64 k,.sl (ls.map Sim.enc)]:=by simp[g3,Prt.enc]
 have p2:(qs.map Prt.enc)[(j:Int).toNat]? = some [.int .i64 k',.sl (ms.map Sim.enc)]:=by simp[q3,Prt.enc]
 have hlt:decide ((j:Int)<(ps.length:Int))=true:=decide_eq_true (by omega)
 have hws:IntKind.i64.wrap ((j:Int)+1)=((j+1:Nat):Int):=aX j (by omega)
 unfold sa4lp
 conv in ap _ _=>whnf
 conv in ap _ _=>whnf
 conv in exL _ _ _ (sb4In l m i j)=>rw[aq]
 simp only[go_sem,reduceLT,reduceCtorEq,reduceEqDiff,Nat.reduceBEq,reduceAdd,aj aL,af ay,aj ay,g1,g2,p1,p2,hlt,Int.natCast_nonneg]
 try (first|rw[aY]|rw[aR]|rw[aV])
 try rotate_left
 try kernel_rfl
 try simp only[go_sem,reduceLT,reduceCtorEq,reduceEqDiff,Nat.reduceBEq,reduceAdd,hk,hc,hws,bne]
 rw[au];simp only[go_sem,reduceCtorEq,reduceEqDiff]
theorem BK {k k':Int}{l l':List Sim}:(⟨k,l⟩:Prt)=⟨k',l'⟩↔(k==k')=true∧l=l':=by
 simp only[Prt.mk.injEq,beq_iff_eq]
theorem NP (l m:List Cpx)(i:Nat){ps qs:List Prt}{s t:List UInt8}(h1:l[i]? = some ⟨ps,s⟩)(k1:m[i]? = some ⟨qs,t⟩)(hps:ps.length≤100000000)(hlen:ps.length=qs.length)(hp:∀ p∈ps, ∀ ms,Si4 p.l ms):∀ (rest:List Prt) (j:Nat),ps.drop j=rest→j≤ps.length →
  Ends (exL K 22 sa4lp (sb4In l m i j)) fun o S=>(o=.exit 2∧S.nt=85∧S.sl 0=L (l.map Cpx.enc)∧S.sl 1=L (m.map Cpx.enc)∧S.sl 5=I i∧ps.drop j=qs.drop j)∨(o=.ret∧S.sl 4=B false∧ps.drop j≠qs.drop j)
 | [],j,hd,hj=>by
  have hin:j=ps.length:=by
   have:=List.drop_eq_nil_iff.1 hd
   omega
  have hdm:qs.drop j=[]:=List.drop_eq_nil_iff.2 (by omega)
  rw[hd,hdm];subst hin;exact aW (JL l m i h1 k1) fun o S q=>.inl ⟨q.1,q.2.1,q.2.2.1,q.2.2.2.1,q.2.2.2.2,rfl⟩
 | ⟨k,ls⟩::rest,j,hd,hj=>by
  obtain⟨g3,g4,g5⟩:=bH hd;have him:j<qs.length:=by have:=(List.getElem?_eq_some_iff.1 g3).1;omega
  cases hy:qs[j] with
  | mk k' ms =>
  have q3:qs[j]? = some ⟨k',ms⟩:=by rw[List.getElem?_eq_getElem him,hy]
  have kd:qs.drop j=⟨k',ms⟩::qs.drop (j+1):=by rw[List.drop_eq_getElem_cons him,hy]
  rw[hd,kd,←g4];obtain⟨r,hc,hr⟩:=hp ⟨k,ls⟩ (List.mem_of_getElem? g3) ms
  cases hk:(k==k') with
  | false =>
   refine aW (GI l m i j h1 k1 hps g3 q3 hk) fun o S z=>.inr ⟨z.1,z.2,fun e => ?_⟩
   have:=(BK.1 (List.cons.inj e).1).1
   rw[hk] at this
   cases this
  | true =>
   cases r with
   | false =>
    refine aW (Hl l m i j h1 k1 hps g3 q3 hk hc) fun o S z=>.inr ⟨z.1,z.2,fun e => ?_⟩
    exact absurd (hr.2 (BK.1 (List.cons.inj e).1).2) (by decide)
   | true =>
    rw[Hk l m i j h1 k1 hps g3 q3 hk hc];refine aW (NP l m i h1 k1 hps hlen hp rest (j+1) g4 (by omega)) fun o S z => ?_
    have e0:=BK.2 ⟨hk,hr.1 rfl⟩
    rcases z with⟨z1,z2,z3,z4,z5,z6⟩|⟨z1,z2,z3⟩
    ·exact .inl ⟨z1,z2,z3,z4,z5,by rw[e0,z6]⟩
    ·exact .inr ⟨z1,z2,fun e=>z3 (List.cons.inj e).2⟩
theorem GR (l m:List Cpx) :
  Ends (exL K 22 sa4op (sb4Out l m l.length)) fun o S=>o=.exit 0∧S.nt=85:=by
 have hlt:decide ((l.length:Int)<(l.length:Int))=false:=decide_eq_false (by omega)
 unfold sa4op
 conv in ap _ _=>whnf
 rw[aq];simp only[go_sem,reduceLT,reduceCtorEq,reduceEqDiff,Nat.reduceBEq,reduceAdd,af aL,aw]
theorem QU (l m:List Cpx)(hal:l.length≤100000000)(i:Nat){ps qs:List Prt}{s t:List UInt8}(h1:l[i]? = some ⟨ps,s⟩)(k1:m[i]? = some ⟨qs,t⟩)(hs:(s==t)=false) :
  Ends (exL K 22 sa4op (sb4Out l m i)) fun o S=>o=.ret∧S.sl 4=B false:=by
 have hil:i<l.length:=(List.getElem?_eq_some_iff.1 h1).1
 have g1:(l.map Cpx.enc)[(i:Int).toNat]? = some [.sl (ps.map Prt.enc),.str s]:=by simp[h1,Cpx.enc]
 have p1:(m.map Cpx.enc)[(i:Int).toNat]? = some [.sl (qs.map Prt.enc),.str t]:=by simp[k1,Cpx.enc]
 have hlt:decide ((i:Int)<(l.length:Int))=true:=decide_eq_true (by omega)
 have hws:IntKind.i64.wrap ((i:Int)+1)=((i+1:Nat):Int):=aX i (by omega)
 unfold sa4op
 conv in ap _ _=>whnf
 rw[aq];simp only[go_sem,reduceLT,reduceCtorEq,reduceEqDiff,Nat.reduceBEq,reduceAdd,af aL,aj aL,hlt,g1,p1,Int.natCast_nonneg,hs,aw,bne]
theorem PA (l m:List Cpx)(hal:l.length≤100000000)(i:Nat){ps qs:List Prt}{s t:List UInt8}(h1:l[i]? = some ⟨ps,s⟩)(k1:m[i]? = some ⟨qs,t⟩)(hs:(s==t)=true)(hn:ps.length≠qs.length) :
  Ends (exL K 22 sa4op (sb4Out l m i)) fun o S=>o=.ret∧S.sl 4=B false:=by
 have hlq:((ps.length:Int)==(qs.length:Int))=false:=by rw[beq_eq_false_iff_ne];omega
 have hil:i<l.length:=(List.getElem?_eq_some_iff.1 h1).1
 have g1:(l.map Cpx.enc)[(i:Int).toNat]? = some [.sl (ps.map Prt.enc),.str s]:=by simp[h1,Cpx.enc]
 have p1:(m.map Cpx.enc)[(i:Int).toNat]? = some [.sl (qs.map Prt.enc),.str t]:=by simp[k1,Cpx.enc]
 have hlt:decide ((i:Int)<(l.length:Int))=true:=decide_eq_true (by omega)
 have hws:IntKind.i64.wrap ((i:Int)+1)=((i+1:Nat):Int):=aX i (by omega)
 unfold sa4op
 conv in ap _ _=>whnf
 rw[aq];simp only[go_sem,reduceLT,reduceCtorEq,reduceEqDiff,Nat.reduceBEq,reduceAdd,af aL,aj aL,af ay,hlt,g1,p1,Int.natCast_nonneg,hs,hlq,aw,bne]
theorem MZ (l m:List Cpx)(hal:l.length≤100000000)(i:Nat){ps qs:List Prt}{s t:List UInt8}(h1:l[i]? = some ⟨ps,s⟩)(k1:m[i]? = some ⟨qs,t⟩)(hs:(s==t)=true)(hn:ps.length=qs.length){S':St}(e:exL K 22 sa4lp (sb4In l m i 0)=some (.ret,S'))(e4:S'.sl 4=B false) :
  Ends (exL K 22 sa4op (sb4Out l m i)) fun o S=>o=.ret∧S.sl 4=B false:=by
 have hlq:((ps.length:Int)==(qs.length:Int))=true:=by rw[beq_iff_eq];omega
 unfold sa4lp at e
 conv at e in ap _ _=>whnf
 have z0:((0:Nat):Int)=0:=rfl
 simp only[sb4In,z0] at e
 have hil:i<l.length:=(List.getElem?_eq_some_iff.1 h1).1
 have g1:(l.map Cpx.enc)[(i:Int).toNat]? = some [.sl (ps.map Prt.enc),.str s]:=by simp[h1,Cpx.enc]
 have p1:(m.map Cpx.enc)[(i:Int).toNat]? = some [.sl (qs.map Prt.enc),.str t]:=by simp[k1,Cpx.enc]
 have hlt:decide ((i:Int)<(l.length:Int))=true:=decide_eq_true (by omega)
 have hws:IntKind.i64.wrap ((i:Int)+1)=((i+1:Nat):Int):=aX i (by omega)
 unfold sa4op
 conv in ap _ _=>whnf
 rw[aq];simp only[go_sem,reduceLT,reduceCtorEq,reduceEqDiff,Nat.reduceBEq,reduceAdd,af aL,aj aL,af ay,hlt,g1,p1,Int.natCast_nonneg,hs,hlq,bne];rw[au];simp only[go_sem,reduceCtorEq,reduceEqDiff];erw [e];simp only[go_sem,aw,e4]
theorem QM (l m:List Cpx)(hal:l.length≤100000000)(i:Nat){ps qs:List Prt}{s t:List UInt8}(h1:l[i]? = some ⟨ps,s⟩)(k1:m[i]? = some ⟨qs,t⟩)(hs:(s==t)=true)(hn:ps.length=qs.length){S':St}(e:exL K 22 sa4lp (sb4In l m i 0)=some (.exit 2,S'))(gn:S'.nt=85)(q0:S'.sl 0=L (l.map Cpx.enc))(q1:S'.sl 1=L (m.map Cpx.enc))(q5:S'.sl 5=I i) :
  exL K 22 sa4op (sb4Out l m i)=exL K 22 sa4op (sb4Out l m (i+1)):=by
 have hlq:((ps.length:Int)==(qs.length:Int))=true:=by rw[beq_iff_eq];omega
 unfold sa4lp at e
 conv at e in ap _ _=>whnf
 have z0:((0:Nat):Int)=0:=rfl
 simp only[sb4In,z0] at e
 have hil:i<l.length:=(List.getElem?_eq_some_iff.1 h1).1
 have g1:(l.map Cpx.enc)[(i:Int).toNat]? = some [.sl (ps.map Prt.enc),.str s]:=by simp[h1,Cpx.enc]
 have p1:(m.map Cpx.enc)[(i:Int).toNat]? = some [.sl (qs.map Prt.enc),.str t]:=by simp[k1,Cpx.enc]
 have hlt:decide ((i:Int)<(l.length:Int))=true:=decide_eq_true (by omega)
 have hws:IntKind.i64.wrap ((i:Int)+1)=((i+1:Nat):Int):=aX i (by omega)
 unfold sa4op
 conv in ap _ _=>whnf
 conv in ap _ _=>whnf
 conv in exL _ _ _ (sb4Out l m i)=>rw[aq]
 simp only[go_sem,reduceLT,reduceCtorEq,reduceEqDiff,Nat.reduceBEq,reduceAdd,af aL,aj aL,af ay,hlt,g1,p1,Int.natCast_nonneg,hs,hlq,bne]
 conv in exL _ _ _ _=>rw[au]
 simp only[go_sem,reduceCtorEq,reduceEqDiff];erw [e];simp only[go_sem,reduceLT,reduceEqDiff,Nat.reduceBEq,reduceAdd,gn,q5,hws];rw[au];simp only[go_sem,reduceCtorEq,reduceEqDiff,q0,q1,q5]
theorem vo {ps qs:List Prt}{s t:List UInt8}:(⟨ps,s⟩:Cpx)=⟨qs,t⟩↔ps=qs∧(s==t)=true:=by
 simp only[Cpx.mk.injEq,beq_iff_eq]
theorem Jq (l m:List Cpx)(hal:l.length≤100000000)(hlm:l.length=m.length)(hl:∀ c∈l,c.parts.length≤100000000∧∀ p∈c.parts, ∀ ms,Si4 p.l ms):∀ (rest:List Cpx) (i:Nat),l.drop i=rest→i≤l.length →
  Ends (exL K 22 sa4op (sb4Out l m i)) fun o S=>(o=.exit 0∧S.nt=85∧l.drop i=m.drop i)∨(o=.ret∧S.sl 4=B false∧l.drop i≠m.drop i)
 | [],i,hd,hi=>by
  have hin:i=l.length:=by
   have:=List.drop_eq_nil_iff.1 hd
   omega
  have hdm:m.drop i=[]:=List.drop_eq_nil_iff.2 (by omega)
  rw[hd,hdm];subst hin;exact aW (GR l m) fun o S q=>.inl ⟨q.1,q.2,rfl⟩
 | ⟨ps,s⟩::rest,i,hd,hi=>by
  obtain⟨h1,h2,h3⟩:=bH hd;have him:i<m.length:=by have:=(List.getElem?_eq_some_iff.1 h1).1;omega
  cases hy:m[i] with
  | mk qs t =>
  have k1:m[i]? = some ⟨qs,t⟩:=by rw[List.getElem?_eq_getElem him,hy]
  have kd:m.drop i=⟨qs,t⟩::m.drop (i+1):=by rw[List.drop_eq_getElem_cons him,hy]
  rw[hd,kd,←h2];obtain⟨hps,hp⟩:=hl ⟨ps,s⟩ (List.mem_of_getElem? h1)
  cases hs:(s==t) with
  | false =>
   refine aW (QU l m hal i h1 k1 hs) fun o S z=>.inr ⟨z.1,z.2,fun e => ?_⟩
   have:=(vo.1 (List.cons.inj e).1).2
   rw[hs] at this
   cases this
  | true =>
   by_cases hn:ps.length=qs.length
   ·obtain⟨o,S',e,hq⟩:=NP l m i h1 k1 hps hn hp ps 0 rfl (Nat.zero_le _);rcases hq with⟨rfl,gn,q0,q1,q5,hx⟩|⟨rfl,e4,hx⟩
    ·rw[QM l m hal i h1 k1 hs hn e gn q0 q1 q5];have e0:=vo.2 ⟨show ps=qs by simpa using hx,hs⟩
     refine aW (Jq l m hal hlm hl rest (i+1) h2 (by omega)) fun o S z => ?_
     rcases z with⟨z1,z2,z3⟩|⟨z1,z2,z3⟩
     ·exact .inl ⟨z1,z2,by rw[e0,z3]⟩
     ·exact .inr ⟨z1,z2,fun e=>z3 (List.cons.inj e).2⟩
    ·refine aW (MZ l m hal i h1 k1 hs hn e e4) fun o S z=>.inr ⟨z.1,z.2,fun e => ?_⟩
     exact hx (by rw[(vo.1 (List.cons.inj e).1).1])
   ·refine aW (PA l m hal i h1 k1 hs hn) fun o S z=>.inr ⟨z.1,z.2,fun e => ?_⟩
    exact hn (by rw[(vo.1 (List.cons.inj e).1).1])
theorem yZ (l m:List Cpx)(hal:l.length≤100000000)(hl:∀ c∈l,c.parts.length≤100000000∧∀ p∈c.parts, ∀ ms,Si4 p.l ms):∃ r:Bool,den K 22 [L (l.map Cpx.enc),L (m.map Cpx.enc)] []=some (.ret (B r) [])∧(r=true↔l=m):=by
 have hr:Tryz.f22.results=#[.tmp 4]:=rfl
 by_cases hlm:l.length=m.length
 ·have hnext:=Jq l m hal hlm hl l 0 rfl (Nat.zero_le _)
  have hb:((l.length:Int)==(m.length:Int))=true:=by rw[beq_iff_eq];omega
  unfold sa4op at hnext
  conv at hnext in ap _ _=>whnf
  have z0:((0:Nat):Int)=0:=rfl
  obtain⟨o,S',e,hq⟩:=hnext;simp only[sb4Out,z0] at e
  rcases hq with⟨rfl,hn,hx⟩|⟨rfl,hn,hx⟩
  ·refine⟨true,?_,fun _=>by simpa using hx,fun _=>rfl⟩
   refine ai rfl rfl Tryz.func22 rfl Tryz.ntmps22 ⟨by simp,by simp[LK]⟩ ?_
   simp only[go_sem,reduceLT,reduceCtorEq,reduceEqDiff,Nat.reduceBEq,reduceAdd,af aL,hb,bne];rw[au];simp only[go_sem,reduceCtorEq,reduceEqDiff];erw [e];simp only[go_sem,reduceLT,Nat.reduceBEq,hr,hn]
  ·refine⟨false,?_,fun h=>(by cases h),fun h=>absurd (by rw[h]) hx⟩
   refine ai rfl rfl Tryz.func22 rfl Tryz.ntmps22 ⟨by simp,by simp[LK]⟩ ?_
   simp only[go_sem,reduceLT,reduceCtorEq,reduceEqDiff,Nat.reduceBEq,reduceAdd,af aL,hb,bne];rw[au];simp only[go_sem,reduceCtorEq,reduceEqDiff];erw [e];simp only[go_sem,hr,hn]
 ·have hb:((l.length:Int)==(m.length:Int))=false:=by rw[beq_eq_false_iff_ne];omega
  refine⟨false,?_,fun h=>(by cases h),fun h=>absurd (by rw[h]) hlm⟩
  refine ai rfl rfl Tryz.func22 rfl Tryz.ntmps22 ⟨by simp,by simp[LK]⟩ ?_
  simp only[go_sem,reduceLT,reduceCtorEq,reduceEqDiff,Nat.reduceBEq,reduceAdd,af aL,hb,bne,hr]
end Go.Abs
