/-
  SheetMedia, as the interpreter answers it: true, whatever the numbers are.
-/
import Derived.Test.YtcfklbkkdipjhaaGreatDoorSm13
open Nat (reduceEqDiff reduceAdd reduceLT)
set_option linter.unusedSimpArgs false
set_option linter.unusedVariables false
namespace Go.Abs
open Go Go.Proofs
set_option maxRecDepth 100000
attribute [local go_sem] cG bA cj bF bH cF cf ce ay aV aR bw bU bg opd avOf cvOf St.degAt St.put okPV dr okAV cQ cR cP cv aj if_true Bool.false_eq_true if_false Option.map_some Option.map_none Option.bind_some Option.bind_none du dh upd List.toList_toArray bC steal aH mvB cX cw bR AV.deg CV.deg AV.gv AV.isIter co cg bG List.length_nil List.length_cons List.filterMap_cons List.filterMap_nil beq_iff_eq List.getElem?_cons_zero List.getElem?_cons_succ Option.getD_some eG fh Bool.false_and Bool.and_false Bool.and_self K_P fT bv bO aJ lend back idx dedup AV.ren CV.ren TV.ren AV.ptrs CV.ptrs ck AV.flat CV.flat bL bu az bV cz dK bD ar bK aQ bd bt aP dV CV.pv? content aN ownT aD reps pvs chunks aZ leave dT bW cN bf aK TV.deg TV.av LK CV.plain CV.noBld cq dS bound List.map_cons List.map_nil List.all_cons List.all_nil List.any_cons List.any_nil List.contains_cons List.contains_nil List.elem_cons List.elem_nil List.cons_append List.nil_append List.append_nil List.flatMap_cons List.flatMap_nil List.zip_cons_cons List.zip_nil_left List.zip_nil_right List.take_succ_cons List.take_zero List.take_nil List.drop_succ_cons List.drop_zero List.drop_nil List.isEmpty_nil List.isEmpty_cons Bool.and_true Bool.true_and Bool.or_true Bool.true_or Bool.or_false Bool.false_or Bool.not_true Bool.not_false Nat.add_zero Nat.zero_add Option.isNone_none Option.isNone_some Option.getD_none true_and and_true not_true_eq_false not_false_eq_true decide_true decide_false Nat.le_refl and_self Bool.not_eq_true Nat.sub_self or_true true_or Option.some.injEq List.length_map List.nil_eq and_false false_and AV.live CV.live CV.liveIn dX ax Option.orElse_some Option.orElse_none head aI aF Int.lt_irrefl List.length_append ite_self dt br bZ aY Key.clash Key.sees Key.writes Nat.lt_irrefl gt_iff_lt ci dp false_or or_false beq_self_eq_true Bool.true_beq Bool.false_beq CM vv zf dY gW cB bJ fA fD fw kL iT
theorem sn (x y z:List UInt8):((((([64,109,101,100,105,97,32,40,109,105,110,45,119,105,100,116,104,58]++x)++[112,120,41,32,97,110,100,32,40,32,109,97,120,45,119,105,100,116,104,32,58,32])++y) ++
  [112,120,32,41,32,65,78,68,32,40,109,105,110,45,119,105,100,116,104,58])++z)++[112,120,41,123,97,123,98,58,99,125,125] =
  64::(Sh.jC++(32::40::(Sh.minT++(58::(x++(Sh.pxT++(41::32::(Sh.andT++(32::40::32::(Sh.maxT++(32::58::32::(y++(Sh.pxT++(32::41::32::(Sh.andU++(32::40::(Sh.minT++(58::(z++(Sh.pxT++(41::123::([97]++(123::([98]++(58::([99]++[125,125])))))))))))))))))))))))))):=by
 simp[Sh.jC,Sh.minT,Sh.maxT,Sh.pxT,Sh.andT,Sh.andU]
theorem yY (a b c:Int) (ha:(Lib.itoa a).length≤21) (hb:(Lib.itoa b).length≤21) (hc:(Lib.itoa c).length≤21):(Sh.medS a b c).length≤1000:=by
 unfold Sh.medS;rw[←sn];simp;omega
set_option maxHeartbeats 16000000 in
theorem nS (a b c:Int) (ha:I64 a) (hb:I64 b) (hc:I64 c):den K 4 [I a,I b,I c] []=some (.ret (B true) []):=by
 have hr:Tryz.f4.results=#[.tmp 6]:=rfl
 have hf:=uG
 cases e1:decide (a < -5)
 case true =>
  refine ak rfl rfl Tryz.func4 rfl Tryz.ntmps4 ⟨by simp,by simp[LK]⟩ ?_
  simp only[go_sem,reduceLT,reduceCtorEq,reduceEqDiff,Nat.reduceBEq,reduceAdd,hr,hf,e1]
 cases e2:decide ((200000:Int)<a)
 case true =>
  refine ak rfl rfl Tryz.func4 rfl Tryz.ntmps4 ⟨by simp,by simp[LK]⟩ ?_
  simp only[go_sem,reduceLT,reduceCtorEq,reduceEqDiff,Nat.reduceBEq,reduceAdd,hr,hf,e1,e2]
 cases e3:decide (b < -5)
 case true =>
  refine ak rfl rfl Tryz.func4 rfl Tryz.ntmps4 ⟨by simp,by simp[LK]⟩ ?_
  simp only[go_sem,reduceLT,reduceCtorEq,reduceEqDiff,Nat.reduceBEq,reduceAdd,hr,hf,e1,e2,e3]
 cases e4:decide ((200000:Int)<b)
 case true =>
  refine ak rfl rfl Tryz.func4 rfl Tryz.ntmps4 ⟨by simp,by simp[LK]⟩ ?_
  simp only[go_sem,reduceLT,reduceCtorEq,reduceEqDiff,Nat.reduceBEq,reduceAdd,hr,hf,e1,e2,e3,e4]
 cases e5:decide (c<0)
 case true =>
  refine ak rfl rfl Tryz.func4 rfl Tryz.ntmps4 ⟨by simp,by simp[LK]⟩ ?_
  simp only[go_sem,reduceLT,reduceCtorEq,reduceEqDiff,Nat.reduceBEq,reduceAdd,hr,hf,e1,e2,e3,e4,e5]
 cases e6:decide ((100000:Int)<c)
 case true =>
  refine ak rfl rfl Tryz.func4 rfl Tryz.ntmps4 ⟨by simp,by simp[LK]⟩ ?_
  simp only[go_sem,reduceLT,reduceCtorEq,reduceEqDiff,Nat.reduceBEq,reduceAdd,hr,hf,e1,e2,e3,e4,e5,e6]
 have h1:=of_decide_eq_false e1
 have h2:=of_decide_eq_false e2
 have h3:=of_decide_eq_false e3
 have h4:=of_decide_eq_false e4
 have h5:=of_decide_eq_false e5
 have h6:=of_decide_eq_false e6
 have la:=Lib.itoa_length_le a (by omega) (by omega)
 have lb:=Lib.itoa_length_le b (by omega) (by omega)
 have lc:=Lib.itoa_length_le c (by omega) (by omega)
 have da:=kI _ a (Nat.le_refl _) ha
 have db:=kI _ b (Nat.le_refl _) hb
 have dc:=kI _ c (Nat.le_refl _) hc
 have okc:Sh.okW c:=⟨by omega,by omega⟩
 have hp:=xn (a:=a) (b:=b) ⟨by omega,by omega⟩ ⟨by omega,by omega⟩ okc (yY a b c (by omega) (by omega) (by omega))
 unfold Sh.medS at hp;rw[←sn] at hp;simp only[List.cons_append,List.nil_append] at hp;have q0:((0:Int)==0)=true:=rfl
 have z0:(((0:Nat):Int)==0)=true:=rfl
 have s1:18+(Lib.itoa a).length<bz:=by unfold bz;omega
 have s2:(Lib.itoa a).length+1+1+1+1+1+1+1+1+1+1+1+1+1+1+1+1+1+1+22<bz:=by unfold bz;omega
 have s3:(Lib.itoa a).length+22+1+1+1+1+1+1+1+1+1+1+1+1+1+1+1+1+1+1+(Lib.itoa b).length<bz:=by unfold bz;omega
 have s4:(Lib.itoa a).length+22+(Lib.itoa b).length+1+1+1+1+1+1+1+1+1+1+1+1+1+1+1+1+1+1+20<bz:=by unfold bz;omega
 have s5:(Lib.itoa a).length+22+(Lib.itoa b).length+20+1+1+1+1+1+1+1+1+1+1+1+1+1+1+1+1+1+1+(Lib.itoa c).length<bz:=by unfold bz;omega
 have s6:(Lib.itoa a).length+22+(Lib.itoa b).length+20+(Lib.itoa c).length+1+1+1+1+1+1+1+1+1+1+1+1+1+1+1+1+1+1+11<bz:=by unfold bz;omega
 by_cases hab:Sh.okW a∧Sh.okW b
 ·obtain⟨⟨a1,a2⟩,b1,b2⟩:=id hab;have p1:decide (a<0)=false:=decide_eq_false (by omega)
  have p2:decide ((100000:Int)<a)=false:=decide_eq_false (by omega)
  have p3:decide (b<0)=false:=decide_eq_false (by omega)
  have p4:decide ((100000:Int)<b)=false:=decide_eq_false (by omega)
  rw[if_pos hab] at hp;have n1:(((1:Nat):Int)==1)=true:=rfl
  have g0:[medY a b c][(0:Int).toNat]? = some (medY a b c):=rfl
  have n2:(((blkY.length:Nat):Int)==1)=true:=by rw[tf];rfl
  have r2:((2:Int)==2)=true:=rfl
  refine ak rfl rfl Tryz.func4 rfl Tryz.ntmps4 ⟨by simp,by simp[LK]⟩ ?_
  simp (maxSteps:=2000000) only[go_sem,reduceLT,reduceCtorEq,reduceEqDiff,Nat.reduceBEq,reduceAdd,ah bT,ag bT,hr,hf,e1,e2,e3,e4,e5,e6,da,db,dc,hp,s1,s2,s3,s4,s5,s6,p1,p2,p3,p4,q0,n1,n2,g0,le00,r2,vU,TV.flat]
 ·have hx:¬(0≤a∧a≤100000)∨¬(0≤b∧b≤100000):=by
   by_cases q:0≤a∧a≤100000
   ·exact .inr fun q2=>hab ⟨q,q2⟩
   ·exact .inl q
  rw[if_neg hab] at hp;cases p1:decide (a<0)<;>cases p2:decide ((100000:Int)<a)<;>cases p3:decide (b<0)<;>cases p4:decide ((100000:Int)<b)
  all_goals
   have u1:=p1
   have u2:=p2
   have u3:=p3
   have u4:=p4
   simp only[decide_eq_false_iff_not,decide_eq_true_eq] at u1 u2 u3 u4
   first
    | (exfalso;omega)
    | skip
  all_goals
   refine ak rfl rfl Tryz.func4 rfl Tryz.ntmps4 ⟨by simp,by simp[LK]⟩ ?_
   simp (maxSteps:=2000000) only[go_sem,reduceLT,reduceCtorEq,reduceEqDiff,Nat.reduceBEq,reduceAdd,ah bT,hr,hf,e1,e2,e3,e4,e5,e6,da,db,dc,hp,s1,s2,s3,s4,s5,s6,p1,p2,p3,p4,q0,z0,TV.flat]
end Go.Abs
