/-
  WHAT THE FUNCTIONS COMPUTE, layer 4: whether a simple selector may be, as the document tells, some kinds. (Printed by gens9.py.)
  (And 1 texts more.)
-/
import Derived.Test.YtlomcifkckgneaaGreatDoorRd18
set_option maxHeartbeats 16000000
open Nat (reduceEqDiff reduceAdd reduceLT reduceLeDiff reduceSub reduceMul)
set_option linter.unusedSimpArgs false
set_option linter.unusedVariables false
namespace Go.Abs
open Go Go.Proofs
set_option maxRecDepth 10000
attribute [local go_sem] dP bZ de cB cK dL dh du bo ck ce cE dr ci opd avOf cvOf St.degAt St.put okPV fE okAV eL eP eV dM aP if_true Bool.false_eq_true if_false Option.map_some Option.map_none Option.bind_some Option.bind_none fo fw upd List.toList_toArray cM steal bI mvB fj dK db AV.deg CV.deg AV.gv AV.isIter dG dw cJ List.length_nil List.length_cons List.filterMap_cons List.filterMap_nil beq_iff_eq List.getElem?_cons_zero List.getElem?_cons_succ Option.getD_some fM gJ Bool.false_and Bool.and_false Bool.and_self K_P iJ cI dc bL lend back idx dedup AV.ren CV.ren TV.ren AV.ptrs CV.ptrs dE AV.flat CV.flat cQ cz br dD dY gi cL bf cS bV cu cH bU gS CV.pv? content bT ownT bv reps pvs chunks co leave gj cZ eD cm bB TV.deg TV.av LK CV.plain CV.noBld dR gD bound List.map_cons List.map_nil List.all_cons List.all_nil List.any_cons List.any_nil List.contains_cons List.contains_nil List.elem_cons List.elem_nil List.cons_append List.nil_append List.append_nil List.flatMap_cons List.flatMap_nil List.zip_cons_cons List.zip_nil_left List.zip_nil_right List.take_succ_cons List.take_zero List.take_nil List.drop_succ_cons List.drop_zero List.drop_nil List.isEmpty_nil List.isEmpty_cons Bool.and_true Bool.true_and Bool.or_true Bool.true_or Bool.or_false Bool.false_or Bool.not_true Bool.not_false Nat.add_zero Nat.zero_add Option.isNone_none Option.isNone_some Option.getD_none true_and and_true not_true_eq_false not_false_eq_true decide_true decide_false Nat.le_refl and_self Bool.not_eq_true Nat.sub_self or_true true_or Option.some.injEq List.length_map List.nil_eq and_false false_and AV.live CV.live CV.liveIn gk bu Option.orElse_some Option.orElse_none head bJ bG Int.lt_irrefl List.length_append ite_self fx cF dC cf Key.clash Key.sees Key.writes Nat.lt_irrefl gt_iff_lt dt fB false_or or_false beq_self_eq_true Bool.true_beq Bool.false_beq dz cy bK ab dZ fc aN cj sB pb sI eF fQ fS rX fL rP gO ib fI oQ
theorem UU (n v:List UInt8)(a b:Int)(lc:List (List PV))(Q:Bool)(hn:n.length<1000000000)(hq:eA Tryz.prog 146 [.int .i64 3,.str n,.str v,.int .i64 a,.int .i64 b] [.int .i64 3,.str n,.str [],.int .i64 0,.int .i64 0]=some Q) :
  den K 107 [.agg [.pv (.int .i64 3),.pv (.str n),.pv (.str v),.pv (.int .i64 a),.pv (.int .i64 b),.pv (.sl lc)]] []=some (.ret (B ((Tk.may ⟨4,n,0⟩)&&(Q&&((lc.length:Int)==0)))) []):=by
 have hr:Tryz.f107.results=#[.tmp 2]:=rfl
 have h1:=su 4 n 0 z64 hn
 cases q1:Tk.may ⟨4,n,0⟩
 ·rw[q1] at h1;refine ai rfl rfl Tryz.func107 rfl Tryz.ntmps107 ⟨by simp,by simp[LK]⟩ ?_
  simp (maxSteps:=2000000) only[go_sem,reduceLT,reduceEqDiff,Nat.reduceBEq,reduceAdd,reduceSub,reduceLeDiff,aa ab ah,aa ag al,af ae,aj ae,hr,aD,az,Int.reduceBEq,h1]
  all_goals (repeat (first|(rw[bm];rotate_left;(· kernel_rfl))|(first|rw[aY]|rw[aR]|rw[aV];rotate_left;(· kernel_rfl);simp (maxSteps:=2000000) only[go_sem,reduceLT,reduceCtorEq,reduceEqDiff,Nat.reduceBEq,reduceAdd,reduceSub,reduceLeDiff,reduceMul,aa ab ah,aa ag al,af ae,aj ae,hr,e00,i00,aD,az,Int.reduceBEq,h1])))
 ·rw[q1] at h1;cases Q
  ·refine ai rfl rfl Tryz.func107 rfl Tryz.ntmps107 ⟨by simp,by simp[LK]⟩ ?_
   simp (maxSteps:=2000000) only[go_sem,reduceLT,reduceEqDiff,Nat.reduceBEq,reduceAdd,reduceSub,reduceLeDiff,aa ab ah,aa ag al,af ae,aj ae,hr,aD,az,Int.reduceBEq,hq,h1]
   all_goals (repeat (first|(rw[bm];rotate_left;(· kernel_rfl))|(first|rw[aY]|rw[aR]|rw[aV];rotate_left;(· kernel_rfl);simp (maxSteps:=2000000) only[go_sem,reduceLT,reduceCtorEq,reduceEqDiff,Nat.reduceBEq,reduceAdd,reduceSub,reduceLeDiff,reduceMul,aa ab ah,aa ag al,af ae,aj ae,hr,e00,i00,aD,az,Int.reduceBEq,hq,h1])))
  ·refine ai rfl rfl Tryz.func107 rfl Tryz.ntmps107 ⟨by simp,by simp[LK]⟩ ?_
   simp (maxSteps:=2000000) only[go_sem,reduceLT,reduceEqDiff,Nat.reduceBEq,reduceAdd,reduceSub,reduceLeDiff,aa ab ah,aa ag al,af ae,aj ae,hr,aD,az,Int.reduceBEq,hq,h1]
   all_goals (repeat (first|(rw[bm];rotate_left;(· kernel_rfl))|(first|rw[aY]|rw[aR]|rw[aV];rotate_left;(· kernel_rfl);simp (maxSteps:=2000000) only[go_sem,reduceLT,reduceCtorEq,reduceEqDiff,Nat.reduceBEq,reduceAdd,reduceSub,reduceLeDiff,reduceMul,aa ab ah,aa ag al,af ae,aj ae,hr,e00,i00,aD,az,Int.reduceBEq,hq,h1])))
theorem UE (n v:List UInt8)(a b:Int)(lc:List (List PV))(Q:Bool)(hn:n.length<1000000000)(hq:eA Tryz.prog 146 [.int .i64 4,.str n,.str v,.int .i64 a,.int .i64 b] [.int .i64 4,.str n,.str [],.int .i64 0,.int .i64 0]=some Q) :
  den K 107 [.agg [.pv (.int .i64 4),.pv (.str n),.pv (.str v),.pv (.int .i64 a),.pv (.int .i64 b),.pv (.sl lc)]] []=some (.ret (B ((Tk.may ⟨1,n,0⟩)&&(Q&&((lc.length:Int)==0)))) []):=by
 have hr:Tryz.f107.results=#[.tmp 2]:=rfl
 have h1:=pV n hn
 cases q1:Tk.may ⟨1,n,0⟩
 ·rw[q1] at h1;refine ai rfl rfl Tryz.func107 rfl Tryz.ntmps107 ⟨by simp,by simp[LK]⟩ ?_
  simp (maxSteps:=2000000) only[go_sem,reduceLT,reduceEqDiff,Nat.reduceBEq,reduceAdd,reduceSub,reduceLeDiff,aa ab ah,aa ag al,af ae,aj ae,hr,aD,az,Int.reduceBEq,h1]
  all_goals (repeat (first|(rw[bm];rotate_left;(· kernel_rfl))|(first|rw[aY]|rw[aR]|rw[aV];rotate_left;(· kernel_rfl);simp (maxSteps:=2000000) only[go_sem,reduceLT,reduceCtorEq,reduceEqDiff,Nat.reduceBEq,reduceAdd,reduceSub,reduceLeDiff,reduceMul,aa ab ah,aa ag al,af ae,aj ae,hr,e00,i00,aD,az,Int.reduceBEq,h1])))
 ·rw[q1] at h1;cases Q
  ·refine ai rfl rfl Tryz.func107 rfl Tryz.ntmps107 ⟨by simp,by simp[LK]⟩ ?_
   simp (maxSteps:=2000000) only[go_sem,reduceLT,reduceEqDiff,Nat.reduceBEq,reduceAdd,reduceSub,reduceLeDiff,aa ab ah,aa ag al,af ae,aj ae,hr,aD,az,Int.reduceBEq,hq,h1]
   all_goals (repeat (first|(rw[bm];rotate_left;(· kernel_rfl))|(first|rw[aY]|rw[aR]|rw[aV];rotate_left;(· kernel_rfl);simp (maxSteps:=2000000) only[go_sem,reduceLT,reduceCtorEq,reduceEqDiff,Nat.reduceBEq,reduceAdd,reduceSub,reduceLeDiff,reduceMul,aa ab ah,aa ag al,af ae,aj ae,hr,e00,i00,aD,az,Int.reduceBEq,hq,h1])))
  ·refine ai rfl rfl Tryz.func107 rfl Tryz.ntmps107 ⟨by simp,by simp[LK]⟩ ?_
   simp (maxSteps:=2000000) only[go_sem,reduceLT,reduceEqDiff,Nat.reduceBEq,reduceAdd,reduceSub,reduceLeDiff,aa ab ah,aa ag al,af ae,aj ae,hr,aD,az,Int.reduceBEq,hq,h1]
   all_goals (repeat (first|(rw[bm];rotate_left;(· kernel_rfl))|(first|rw[aY]|rw[aR]|rw[aV];rotate_left;(· kernel_rfl);simp (maxSteps:=2000000) only[go_sem,reduceLT,reduceCtorEq,reduceEqDiff,Nat.reduceBEq,reduceAdd,reduceSub,reduceLeDiff,reduceMul,aa ab ah,aa ag al,af ae,aj ae,hr,e00,i00,aD,az,Int.reduceBEq,hq,h1])))
theorem Vl (n v:List UInt8)(a b:Int)(lc:List (List PV))(Q:Bool)(hn:n.length<1000000000)(hq:eA Tryz.prog 146 [.int .i64 5,.str n,.str v,.int .i64 a,.int .i64 b] [.int .i64 5,.str n,.str [],.int .i64 0,.int .i64 0]=some Q) :
  den K 107 [.agg [.pv (.int .i64 5),.pv (.str n),.pv (.str v),.pv (.int .i64 a),.pv (.int .i64 b),.pv (.sl lc)]] []=some (.ret (B ((Tk.may ⟨1,n,0⟩)&&(Q&&((lc.length:Int)==0)))) []):=by
 have hr:Tryz.f107.results=#[.tmp 2]:=rfl
 have h1:=pV n hn
 cases q1:Tk.may ⟨1,n,0⟩
 ·rw[q1] at h1;refine ai rfl rfl Tryz.func107 rfl Tryz.ntmps107 ⟨by simp,by simp[LK]⟩ ?_
  simp (maxSteps:=2000000) only[go_sem,reduceLT,reduceEqDiff,Nat.reduceBEq,reduceAdd,reduceSub,reduceLeDiff,aa ab ah,aa ag al,af ae,aj ae,hr,aD,az,Int.reduceBEq,h1]
  all_goals (repeat (first|(rw[bm];rotate_left;(· kernel_rfl))|(first|rw[aY]|rw[aR]|rw[aV];rotate_left;(· kernel_rfl);simp (maxSteps:=2000000) only[go_sem,reduceLT,reduceCtorEq,reduceEqDiff,Nat.reduceBEq,reduceAdd,reduceSub,reduceLeDiff,reduceMul,aa ab ah,aa ag al,af ae,aj ae,hr,e00,i00,aD,az,Int.reduceBEq,h1])))
 ·rw[q1] at h1;cases Q
  ·refine ai rfl rfl Tryz.func107 rfl Tryz.ntmps107 ⟨by simp,by simp[LK]⟩ ?_
   simp (maxSteps:=2000000) only[go_sem,reduceLT,reduceEqDiff,Nat.reduceBEq,reduceAdd,reduceSub,reduceLeDiff,aa ab ah,aa ag al,af ae,aj ae,hr,aD,az,Int.reduceBEq,hq,h1]
   all_goals (repeat (first|(rw[bm];rotate_left;(· kernel_rfl))|(first|rw[aY]|rw[aR]|rw[aV];rotate_left;(· kernel_rfl);simp (maxSteps:=2000000) only[go_sem,reduceLT,reduceCtorEq,reduceEqDiff,Nat.reduceBEq,reduceAdd,reduceSub,reduceLeDiff,reduceMul,aa ab ah,aa ag al,af ae,aj ae,hr,e00,i00,aD,az,Int.reduceBEq,hq,h1])))
  ·refine ai rfl rfl Tryz.func107 rfl Tryz.ntmps107 ⟨by simp,by simp[LK]⟩ ?_
   simp (maxSteps:=2000000) only[go_sem,reduceLT,reduceEqDiff,Nat.reduceBEq,reduceAdd,reduceSub,reduceLeDiff,aa ab ah,aa ag al,af ae,aj ae,hr,aD,az,Int.reduceBEq,hq,h1]
   all_goals (repeat (first|(rw[bm];rotate_left;(· kernel_rfl))|(first|rw[aY]|rw[aR]|rw[aV];rotate_left;(· kernel_rfl);simp (maxSteps:=2000000) only[go_sem,reduceLT,reduceCtorEq,reduceEqDiff,Nat.reduceBEq,reduceAdd,reduceSub,reduceLeDiff,reduceMul,aa ab ah,aa ag al,af ae,aj ae,hr,e00,i00,aD,az,Int.reduceBEq,hq,h1])))
theorem US (n v:List UInt8)(a b:Int)(lc:List (List PV))(Q:Bool)  (hq:eA Tryz.prog 146 [.int .i64 8,.str n,.str v,.int .i64 a,.int .i64 b] [.int .i64 8,.str [],.str [],.int .i64 a,.int .i64 b]=some Q) :
  den K 107 [.agg [.pv (.int .i64 8),.pv (.str n),.pv (.str v),.pv (.int .i64 a),.pv (.int .i64 b),.pv (.sl lc)]] []=some (.ret (B ((decide (Sl.few a)&&decide (Sl.few b))&&(Q&&((lc.length:Int)==0)))) []):=by
 have hr:Tryz.f107.results=#[.tmp 2]:=rfl
 have h1:=uY a
 have h2:=uY b
 cases q1:decide (Sl.few a)
 ·rw[q1] at h1;refine ai rfl rfl Tryz.func107 rfl Tryz.ntmps107 ⟨by simp,by simp[LK]⟩ ?_
  simp (maxSteps:=2000000) only[go_sem,reduceLT,reduceEqDiff,Nat.reduceBEq,reduceAdd,reduceSub,reduceLeDiff,aa ab ah,aa ag al,af ae,aj ae,hr,aD,az,Int.reduceBEq,h1]
  all_goals (repeat (first|(rw[bm];rotate_left;(· kernel_rfl))|(first|rw[aY]|rw[aR]|rw[aV];rotate_left;(· kernel_rfl);simp (maxSteps:=2000000) only[go_sem,reduceLT,reduceCtorEq,reduceEqDiff,Nat.reduceBEq,reduceAdd,reduceSub,reduceLeDiff,reduceMul,aa ab ah,aa ag al,af ae,aj ae,hr,e00,i00,aD,az,Int.reduceBEq,h1])))
 ·rw[q1] at h1;cases q2:decide (Sl.few b)
  ·rw[q2] at h2;refine ai rfl rfl Tryz.func107 rfl Tryz.ntmps107 ⟨by simp,by simp[LK]⟩ ?_
   simp (maxSteps:=2000000) only[go_sem,reduceLT,reduceEqDiff,Nat.reduceBEq,reduceAdd,reduceSub,reduceLeDiff,aa ab ah,aa ag al,af ae,aj ae,hr,aD,az,Int.reduceBEq,h1,h2]
   all_goals (repeat (first|(rw[bm];rotate_left;(· kernel_rfl))|(first|rw[aY]|rw[aR]|rw[aV];rotate_left;(· kernel_rfl);simp (maxSteps:=2000000) only[go_sem,reduceLT,reduceCtorEq,reduceEqDiff,Nat.reduceBEq,reduceAdd,reduceSub,reduceLeDiff,reduceMul,aa ab ah,aa ag al,af ae,aj ae,hr,e00,i00,aD,az,Int.reduceBEq,h1,h2])))
  ·rw[q2] at h2;cases Q
   ·refine ai rfl rfl Tryz.func107 rfl Tryz.ntmps107 ⟨by simp,by simp[LK]⟩ ?_
    simp (maxSteps:=2000000) only[go_sem,reduceLT,reduceEqDiff,Nat.reduceBEq,reduceAdd,reduceSub,reduceLeDiff,aa ab ah,aa ag al,af ae,aj ae,hr,aD,az,Int.reduceBEq,hq,h1,h2]
    all_goals (repeat (first|(rw[bm];rotate_left;(· kernel_rfl))|(first|rw[aY]|rw[aR]|rw[aV];rotate_left;(· kernel_rfl);simp (maxSteps:=2000000) only[go_sem,reduceLT,reduceCtorEq,reduceEqDiff,Nat.reduceBEq,reduceAdd,reduceSub,reduceLeDiff,reduceMul,aa ab ah,aa ag al,af ae,aj ae,hr,e00,i00,aD,az,Int.reduceBEq,hq,h1,h2])))
   ·refine ai rfl rfl Tryz.func107 rfl Tryz.ntmps107 ⟨by simp,by simp[LK]⟩ ?_
    simp (maxSteps:=2000000) only[go_sem,reduceLT,reduceEqDiff,Nat.reduceBEq,reduceAdd,reduceSub,reduceLeDiff,aa ab ah,aa ag al,af ae,aj ae,hr,aD,az,Int.reduceBEq,hq,h1,h2]
    all_goals (repeat (first|(rw[bm];rotate_left;(· kernel_rfl))|(first|rw[aY]|rw[aR]|rw[aV];rotate_left;(· kernel_rfl);simp (maxSteps:=2000000) only[go_sem,reduceLT,reduceCtorEq,reduceEqDiff,Nat.reduceBEq,reduceAdd,reduceSub,reduceLeDiff,reduceMul,aa ab ah,aa ag al,af ae,aj ae,hr,e00,i00,aD,az,Int.reduceBEq,hq,h1,h2])))
attribute [local go_sem] Ku Si fy fT kw jb MN cP fV KB fU
def Sim.big:Sim→Bool
 | .mk _ n v _ _ _=>decide (100<n.length)||decide (100<v.length)
mutual
def cntX:Sim→Int→Int→Int
 | .mk _ _ _ _ _ l,k,m=>cntL l k m
def cntL:List Sim→Int→Int→Int
 | [],k,_=>k
 | x::l,k,m=>if k≤m then(if x.big then m+1 else cntL l (cntX x (k+1) m) m) else k
end
theorem Md (l:List Sim){k m:Int}(h:m<k):cntL l k m=k:=by
 cases l with
 | nil=>rw[cntL]
 | cons x l=>rw[cntL,if_neg (by omega)]
theorem tD (x:Sim)(hx:x.Ok):∀ k m:Int,k≤m+1→cntX x k m≤m+1∧(k≤cntX x k m):=by
 induction hx with
 | @mk q n v a b l ha hb hn hv hll hl ih =>
  intro k m hk;rw[cntX];have:∀ (l:List Sim),(∀ x∈l, ∀ k m:Int,k≤m+1→cntX x k m≤m+1∧(k≤cntX x k m))→∀ k:Int,k≤m+1→cntL l k m≤m+1∧k≤cntL l k m:=by
   intro l
   induction l with
   | nil=>intro _ k hk;rw[cntL];exact⟨hk,Int.le_refl _⟩
   | cons x l ihl =>
    intro h k hk;rw[cntL];by_cases h1:k≤m
    ·rw[if_pos h1];split
     ·exact⟨Int.le_refl _,hk⟩
     ·have h2:=h x (by simp) (k+1) m (by omega)
      have h3:=ihl (fun y hy=>h y (by simp[hy])) _ h2.1
      exact⟨h3.1,by omega⟩
    ·rw[if_neg h1];exact⟨hk,Int.le_refl _⟩
  exact this l ih k hk
theorem oq (l:List Sim)(hl:∀ x∈l,x.Ok):∀ k m:Int,k≤m+1→cntL l k m≤m+1∧k≤cntL l k m:=fun k m hk=>by
 induction l generalizing k with
 | nil=>rw[cntL];exact⟨hk,Int.le_refl _⟩
 | cons x l ihl =>
  rw[cntL];by_cases h1:k≤m
  ·rw[if_pos h1];split
   ·exact⟨Int.le_refl _,hk⟩
   ·have h2:=tD x (hl x (by simp)) (k+1) m (by omega)
    have h3:=ihl (fun y hy=>hl y (by simp[hy])) _ h2.1
    exact⟨h3.1,by omega⟩
  ·rw[if_neg h1];exact⟨hk,Int.le_refl _⟩
abbrev cntH (l:List Sim)(k m:Int)(i:Nat):St :=
  { sl:=upd (upd (upd (upd bot 7 (I i)) 2 (I m)) 1 (I k)) 0 (L (l.map Sim.enc)),bx:=nobox,nt:=48 }
def vL (l:List Sim):Prop:=∀ k m:Int,0≤k→k≤m+1→m≤100000→den K 43 [L (l.map Sim.enc),I k,I m] []=some (.ret (I (cntL l k m)) [])
theorem vN (l:List Sim)(hal:l.length≤reachBytes)(m:Int)(hm:m≤100000)(hin:∀ x∈l, ∀ q n v a b l',x=Sim.mk q n v a b l'→vL l')(hok:∀ x∈l,x.Ok):∀ (rest:List Sim) (i:Nat) (k:Int),l.drop i=rest→0≤k→k≤m+1→i≤l.length →
  Ends (exL K 43 (.loop (ap Tryz.f43 2)) (cntH l k m i)) fun o S=>(o=.exit 0∧S.sl 1=I (cntL rest k m)∧S.nt=48)∨(o=.ret∧S.sl 6=I (cntL rest k m))
 | [],i,k,hd,hk0,hk,hi=>by
  have hin:i=l.length:=by
   have:=List.drop_eq_nil_iff.1 hd
   omega
  subst hin
  conv in ap _ _=>whnf
  rw[aq];simp[go_sem,reduceLT,reduceCtorEq,reduceEqDiff,Nat.reduceBEq,reduceAdd,af ae,aw,cntL]
 | .mk q n v a b l'::rest,i,k,hd,hk0,hk,hi=>by
  obtain⟨h1,h2,h3⟩:=bH hd;have hmem:Sim.mk q n v a b l'∈l:=List.mem_of_getElem? h1
  have hc:=hin _ hmem q n v a b l' rfl
  have hget:(l.map Sim.enc)[(i:Int).toNat]? = some [.int .i64 q,.str n,.str v,.int .i64 a,.int .i64 b,.sl (l'.map Sim.enc)]:=by simp[h1,Sim.enc_mk]
  have hlt:decide ((i:Int)<(l.length:Int))=true:=kQ (by omega)
  have hi2:i+1<9223372036854775807:=by have:=nn hal;omega
  by_cases hkm:k≤m
  ·have ekm:decide (k≤m)=true:=decide_eq_true hkm
   have ew:IntKind.i64.wrap (k+1)=k+1:=IntWalk.i64_in _ (by omega)
   have ewm:IntKind.i64.wrap (m+1)=m+1:=IntWalk.i64_in _ (by omega)
   by_cases hn:100<n.length
   ·have en:decide ((100:Int)<(n.length:Int))=true:=kQ (by omega)
    have hv:cntL (.mk q n v a b l'::rest) k m=m+1:=by rw[cntL,if_pos hkm,if_pos (by simp[Sim.big,hn])]
    rw[hv]
    conv in ap _ _=>whnf
    rw[aq];simp only[go_sem,reduceLT,reduceCtorEq,reduceEqDiff,Nat.reduceBEq,reduceAdd,af ae,aj ae,aE am,aw,hlt,hget,Int.natCast_nonneg,ekm,ew,ewm,en]
   ·have en:decide ((100:Int)<(n.length:Int))=false:=decide_eq_false (by omega)
    by_cases hv':100<v.length
    ·have ev:decide ((100:Int)<(v.length:Int))=true:=kQ (by omega)
     have hv:cntL (.mk q n v a b l'::rest) k m=m+1:=by rw[cntL,if_pos hkm,if_pos (by simp[Sim.big,hv'])]
     rw[hv]
     conv in ap _ _=>whnf
     rw[aq];simp only[go_sem,reduceLT,reduceCtorEq,reduceEqDiff,Nat.reduceBEq,reduceAdd,af ae,aj ae,aE am,aw,hlt,hget,Int.natCast_nonneg,ekm,ew,ewm,en,ev]
    ·have ev:decide ((100:Int)<(v.length:Int))=false:=decide_eq_false (by omega)
     have hc':=hc (k+1) m (by omega) (by omega) hm
     have hv:cntL (.mk q n v a b l'::rest) k m=cntL rest (cntL l' (k+1) m) m:=by rw[cntL,if_pos hkm,if_neg (by simp[Sim.big,hn,hv']),cntX]
     rw[hv];have hokl:∀ x∈l',x.Ok:=by
      have:=hok _ hmem
      cases this;assumption
     have hb:=oq l' hokl (k+1) m (by omega)
     have hnext:=vN l hal m hm hin hok rest (i+1) (cntL l' (k+1) m) h2 (by omega) hb.1 (by omega)
     conv at hnext in ap _ _=>whnf
     conv in ap _ _=>whnf
     rw[aq];simp only[go_sem,reduceLT,reduceCtorEq,reduceEqDiff,Nat.reduceBEq,reduceAdd,af ae,aj ae,aE am,hlt,hget,Int.natCast_nonneg,ekm,ew,ewm,en,ev,hc',aX i (by omega)]
     rw[au];simp only[go_sem,reduceCtorEq,reduceEqDiff];exact hnext
  ·have ekm:decide (k≤m)=false:=decide_eq_false hkm
   have hv:cntL (.mk q n v a b l'::rest) k m=k:=by rw[cntL,if_neg hkm]
   rw[hv]
   conv in ap _ _=>whnf
   rw[aq];simp only[go_sem,reduceLT,reduceCtorEq,reduceEqDiff,Nat.reduceBEq,reduceAdd,af ae,aw,hlt,ekm]
theorem zJ (l:List Sim)(hal:l.length≤reachBytes)(hin:∀ x∈l, ∀ q n v a b l',x=Sim.mk q n v a b l'→vL l')(hok:∀ x∈l,x.Ok):vL l:=by
 intro k m hk0 hk hm;refine ai rfl rfl Tryz.func43 rfl Tryz.ntmps43 ⟨by simp,by simp[LK]⟩ ?_
 have hr:Tryz.f43.results=#[.tmp 6]:=rfl
 have hnext:=vN l hal m hm hin hok l 0 k rfl hk0 hk (by omega)
 conv at hnext in ap _ _=>whnf
 obtain⟨o,S',e,h⟩:=hnext;simp only[go_sem,reduceLT,Nat.reduceBEq];rw[au];simp only[go_sem,reduceCtorEq,reduceEqDiff];erw [e];rcases h with⟨rfl,h1,h2⟩|⟨rfl,h1⟩
 ·simp only[go_sem,reduceLT,reduceEqDiff,Nat.reduceBEq,reduceAdd,hr,h1,h2]
 ·simp only[go_sem,hr,h1]
theorem JK (l:List Sim)(hal:l.length≤reachBytes)(hok:∀ x∈l,x.Ok):vL l:=by
 have key:∀ x:Sim,x.Ok→∀ q n v a b l',x=Sim.mk q n v a b l'→vL l':=by
  intro x hx
  induction hx with
  | @mk k n v a c l ha hc hn hv hll hl ih =>
   intro q n' v' a' b' l' e;cases e;exact zJ l hll (fun y hy=>ih y hy) hl
 exact zJ l hal (fun x hx=>key x (hok x hx)) hok
def jq:List Prt→Int→Int→Int
 | [],n,_=>n
 | p::ps,n,m=>if n≤m then jq ps (cntL p.l n m) m else n
def ku:List Cpx→Int→Int→Option Int
 | [],n,_=>some n
 | c::l,n,m=>if n≤m then(if 100<c.pseudo.length then none else ku l (jq c.parts (n+c.parts.length) m) m) else some n
def pt (l:List Cpx)(m:Int):Bool:=match ku l l.length m with
 | none=>false
 | some n=>decide (n≤m)
theorem rf (ps:List Prt)(hp:∀ p∈ps,p.Ok)(n m:Int):n≤jq ps n m:=by
 induction ps generalizing n with
 | nil=>exact Int.le_refl _
 | cons p ps ih =>
  rw[jq];split
  ·have h1:=(oq p.l (hp p (by simp)).all n m (by omega)).2
   have h2:=ih (fun q hq=>hp q (by simp[hq])) (cntL p.l n m)
   omega
  ·exact Int.le_refl _
abbrev VH (l:List Cpx)(n m:Int)(i j:Nat):St :=
  { sl:=upd (upd (upd (upd (upd bot 7 (I j)) 6 (I i)) 5 (I n)) 1 (I m)) 0 (L (l.map Cpx.enc)),bx:=nobox,nt:=66 }
theorem EH (l:List Cpx)(m:Int)(hm:0≤m∧m≤100000)(i:Nat)(ps:List Prt)(s:List UInt8)(hi:l[i]? = some ⟨ps,s⟩)(hps:ps.length≤reachBytes):∀ (rest:List Prt) (j:Nat) (n:Int),ps.drop j=rest→(∀ p∈rest,p.Ok)→0≤n→j≤ps.length →
  Ends (exL K 15 (.loop (ap Tryz.f15 7)) (VH l n m i j)) fun o S=>o=.exit 2∧S.sl 0=L (l.map Cpx.enc)∧S.sl 1=I m∧S.sl 5=I (jq rest n m)∧S.sl 6=I i∧S.nt=66
 | [],j,n,hd,hok,hn,hj=>by
  have hin:j=ps.length:=by
   have:=List.drop_eq_nil_iff.1 hd
   omega
  subst hin;have hget:(l.map Cpx.enc)[(i:Int).toNat]? = some [.sl (ps.map Prt.enc),.str s]:=by simp[hi,Cpx.enc]
  conv in ap _ _=>whnf
  rw[aq];simp only[go_sem,reduceLT,reduceCtorEq,reduceEqDiff,Nat.reduceBEq,reduceAdd,aj aL,af ay,aw,hget,jq,Int.natCast_nonneg]
 | ⟨q,p⟩::rest,j,n,hd,hok,hn,hj=>by
  obtain⟨h1,h2,h3⟩:=bH hd;have hp:=hok ⟨q,p⟩ (by simp)
  have hp1:p.length≤reachBytes:=hp.len
  have hget:(l.map Cpx.enc)[(i:Int).toNat]? = some [.sl (ps.map Prt.enc),.str s]:=by simp[hi,Cpx.enc]
  have hget2:(ps.map Prt.enc)[(j:Int).toNat]? = some [.int .i64 q,.sl (p.map Sim.enc)]:=by simp[h1,Prt.enc]
  have hlt:decide ((j:Int)<(ps.length:Int))=true:=kQ (by omega)
  have hj2:j+1<9223372036854775807:=by have:=nn hps;omega
  by_cases hnm:n≤m
  ·have e1:decide (n≤m)=true:=decide_eq_true hnm
   have hc:=JK p hp1 hp.all n m hn (by omega) hm.2
   have hv:jq (⟨q,p⟩::rest) n m=jq rest (cntL p n m) m:=by rw[jq,if_pos hnm]
   rw[hv];have hge:=(oq p hp.all n m (by omega)).2
   have hnext:=EH l m hm i ps s hi hps rest (j+1) (cntL p n m) h2 (fun y hy=>hok y (by simp[hy])) (by omega) (by omega)
   conv at hnext in ap _ _=>whnf
   conv in ap _ _=>whnf
   rw[aq];simp only[go_sem,reduceLT,reduceCtorEq,reduceEqDiff,Nat.reduceBEq,reduceAdd,aj aL,af ay,aj ay,hget,hget2,hlt,Int.natCast_nonneg,e1,hc,aX j (by omega)]
   rw[au];simp only[go_sem,reduceCtorEq,reduceEqDiff];exact hnext
  ·have e1:decide (n≤m)=false:=decide_eq_false hnm
   have hv:jq (⟨q,p⟩::rest) n m=n:=by rw[jq,if_neg hnm]
   rw[hv]
   conv in ap _ _=>whnf
   rw[aq];simp only[go_sem,reduceLT,reduceCtorEq,reduceEqDiff,Nat.reduceBEq,reduceAdd,aj aL,af ay,aw,hget,hlt,Int.natCast_nonneg,e1]
abbrev smH (l:List Cpx)(n m:Int)(i:Nat):St :=
  { sl:=upd (upd (upd (upd bot 6 (I i)) 5 (I n)) 1 (I m)) 0 (L (l.map Cpx.enc)),bx:=nobox,nt:=66 }
theorem yU (l:List Cpx)(hl:l.length≤reachBytes)(m:Int)(hm:0≤m∧m≤100000):∀ (rest:List Cpx) (i:Nat) (n:Int),l.drop i=rest→(∀ c∈rest,c.Ok)→0≤n→i≤l.length →
  Ends (exL K 15 (.loop (ap Tryz.f15 3)) (smH l n m i)) fun o S=>(match ku rest n m with
   | some k=>o=.exit 0∧S.sl 5=I k∧S.sl 1=I m∧S.nt=66
   | none=>o=.ret∧S.sl 4=B false)
 | [],i,n,hd,hok,hn,hi=>by
  have hin:i=l.length:=by
   have:=List.drop_eq_nil_iff.1 hd
   omega
  subst hin
  conv in ap _ _=>whnf
  rw[aq];simp only[go_sem,reduceLT,reduceCtorEq,reduceEqDiff,Nat.reduceBEq,reduceAdd,af aL,aw,ku]
 | ⟨ps,s⟩::rest,i,n,hd,hok,hn,hi=>by
  obtain⟨h1,h2,h3⟩:=bH hd;have hc:=hok ⟨ps,s⟩ (by simp)
  have hps:ps.length≤reachBytes:=hc.len
  have hpl:=nn hps
  have hget:(l.map Cpx.enc)[(i:Int).toNat]? = some [.sl (ps.map Prt.enc),.str s]:=by simp[h1,Cpx.enc]
  have hlt:decide ((i:Int)<(l.length:Int))=true:=kQ (by omega)
  have hi2:i+1<9223372036854775807:=by have:=nn hl;omega
  by_cases hnm:n≤m
  ·have e1:decide (n≤m)=true:=decide_eq_true hnm
   have ew:IntKind.i64.wrap (n+(ps.length:Int))=n+ps.length:=IntWalk.i64_in _ (by omega)
   have hin:=EH l m hm i ps s h1 hps ps 0 (n+ps.length) rfl hc.all (by omega) (by omega)
   conv at hin in ap _ _=>whnf
   obtain⟨o,S',e,rfl,g0,g1,g5,g6,gn⟩:=hin;by_cases hs:100<s.length
   ·have e2:decide ((100:Int)<(s.length:Int))=true:=kQ (by omega)
    have hv:ku (⟨ps,s⟩::rest) n m=none:=by rw[ku,if_pos hnm,if_pos hs]
    rw[hv]
    conv in ap _ _=>whnf
    rw[aq];simp only[go_sem,reduceLT,reduceCtorEq,reduceEqDiff,Nat.reduceBEq,reduceAdd,af aL,aj aL,af ay,hget,hlt,Int.natCast_nonneg,e1,ew];rw[au];simp only[go_sem,reduceCtorEq,reduceEqDiff];erw [e];simp only[go_sem,reduceLT,reduceEqDiff,Nat.reduceBEq,reduceAdd,aj aL,aE am,aw,hget,Int.natCast_nonneg,g0,g6,gn,e2]
   ·have e2:decide ((100:Int)<(s.length:Int))=false:=decide_eq_false (by omega)
    have hv:ku (⟨ps,s⟩::rest) n m=ku rest (jq ps (n+ps.length) m) m:=by rw[ku,if_pos hnm,if_neg hs]
    rw[hv];have hge:=rf ps hc.all (n+ps.length) m
    have hnext:=yU l hl m hm rest (i+1) (jq ps (n+ps.length) m) h2 (fun y hy=>hok y (by simp[hy])) (by omega) (by omega)
    conv at hnext in ap _ _=>whnf
    conv in ap _ _=>whnf
    rw[aq];simp only[go_sem,reduceLT,reduceCtorEq,reduceEqDiff,Nat.reduceBEq,reduceAdd,af aL,aj aL,af ay,hget,hlt,Int.natCast_nonneg,e1,ew];rw[au];simp only[go_sem,reduceCtorEq,reduceEqDiff];erw [e];simp only[go_sem,reduceLT,reduceEqDiff,Nat.reduceBEq,reduceAdd,aj aL,aE am,hget,Int.natCast_nonneg,g0,g6,gn,e2,aX i (by omega)]
    rw[au];simp only[go_sem,reduceCtorEq,reduceEqDiff,g0,g1,g5,g6];exact hnext
  ·have e1:decide (n≤m)=false:=decide_eq_false hnm
   have hv:ku (⟨ps,s⟩::rest) n m=some n:=by rw[ku,if_neg hnm]
   rw[hv]
   conv in ap _ _=>whnf
   rw[aq];simp only[go_sem,reduceLT,reduceCtorEq,reduceEqDiff,Nat.reduceBEq,reduceAdd,af aL,aw,hlt,e1]
theorem zV (l:List Cpx)(hl:l.length≤reachBytes)(hok:∀ c∈l,c.Ok)(m:Int)(hm:0≤m∧m≤100000):den K 15 [L (l.map Cpx.enc),I m] []=some (.ret (B (pt l m)) []):=by
 refine ai rfl rfl Tryz.func15 rfl Tryz.ntmps15 ⟨by simp,by simp[LK]⟩ ?_
 have hr:Tryz.f15.results=#[.tmp 4]:=rfl
 have hnext:=yU l hl m hm l 0 l.length rfl hok (by omega) (by omega)
 conv at hnext in ap _ _=>whnf
 obtain⟨o,S',e,h⟩:=hnext;simp only[go_sem,reduceLT,reduceCtorEq,reduceEqDiff,Nat.reduceBEq,reduceAdd,af aL];rw[au];simp only[go_sem,reduceCtorEq,reduceEqDiff];erw [e];unfold pt;cases hc:ku l l.length m with
 | none =>
  rw[hc] at h;obtain⟨rfl,h1⟩:=h;simp only[go_sem,hr,h1]
 | some k =>
  rw[hc] at h;obtain⟨rfl,h1,h2,h3⟩:=h;simp only[go_sem,reduceLT,reduceEqDiff,Nat.reduceBEq,reduceAdd,hr,h1,h2,h3]
end Go.Abs
