/-
  WHAT THE FUNCTIONS COMPUTE, layer 4: whether a simple selector may be, as the document tells, some kinds. (Printed by gens9.py.)
-/
import Derived.Test.YtlomcifkckgneaaGreatDoorRt21
set_option maxHeartbeats 16000000
open Nat (reduceEqDiff reduceAdd reduceLT reduceLeDiff reduceSub reduceMul)
set_option linter.unusedSimpArgs false
set_option linter.unusedVariables false
namespace Go.Abs
open Go Go.Proofs
set_option maxRecDepth 10000
attribute [local go_sem] c7 bF cD bW bZ db cJ cE a7 ck ce cF c8 bS opd avOf cvOf St.degAt St.put okPV d6 okAV du dv dt cU aM if_true Bool.false_eq_true if_false Option.map_some Option.map_none Option.bind_some Option.bind_none dY dV upd List.toList_toArray cR steal bz mvB dE cV cT AV.deg CV.deg AV.gv AV.isIter cN cI bU List.length_nil List.length_cons List.filterMap_cons List.filterMap_nil beq_iff_eq List.getElem?_cons_zero List.getElem?_cons_succ Option.getD_some d8 eV Bool.false_and Bool.and_false Bool.and_self K_P fq co cO bw lend back idx dedup AV.ren CV.ren TV.ren AV.ptrs CV.ptrs cX AV.flat CV.flat cz cg bc c9 dk eo cj aY cm bt bH cf br eF CV.pv? content bA ownT bd reps pvs chunks cd leave eB cK dr bT bv TV.deg TV.av LK CV.plain CV.noBld c5 eA bound List.map_cons List.map_nil List.all_cons List.all_nil List.any_cons List.any_nil List.contains_cons List.contains_nil List.elem_cons List.elem_nil List.cons_append List.nil_append List.append_nil List.flatMap_cons List.flatMap_nil List.zip_cons_cons List.zip_nil_left List.zip_nil_right List.take_succ_cons List.take_zero List.take_nil List.drop_succ_cons List.drop_zero List.drop_nil List.isEmpty_nil List.isEmpty_cons Bool.and_true Bool.true_and Bool.or_true Bool.true_or Bool.or_false Bool.false_or Bool.not_true Bool.not_false Nat.add_zero Nat.zero_add Option.isNone_none Option.isNone_some Option.getD_none true_and and_true not_true_eq_false not_false_eq_true decide_true decide_false Nat.le_refl and_self Bool.not_eq_true Nat.sub_self or_true true_or Option.some.injEq List.length_map List.nil_eq and_false false_and AV.live CV.live CV.liveIn dU bg Option.orElse_some Option.orElse_none head bm bh Int.lt_irrefl List.length_append ite_self dZ cA dc bC Key.clash Key.sees Key.writes Nat.lt_irrefl gt_iff_lt cH dH false_or or_false beq_self_eq_true Bool.true_beq Bool.false_beq c6 cB bG ae dh dK aL bX oJ mG mZ dx eI eJ pt dL mo eH fH eM mV
theorem Ml (n v:List UInt8) (a b:Int) (lc:List (List PV)) (Q:Bool)  (hq:dS Tryz.prog 146 [.int .i64 7,.str n,.str v,.int .i64 a,.int .i64 b] [.int .i64 7,.str n,.str [],.int .i64 0,.int .i64 0]=some Q) :
  den K 107 [.agg [.pv (.int .i64 7),.pv (.str n),.pv (.str v),.pv (.int .i64 a),.pv (.int .i64 b),.pv (.sl lc)]] []=some (.ret (B ((Sl.fx n)&&(Q&&((lc.length:Int)==0)))) []):=by
 have hr:Tryz.f107.results=#[.tmp 2]:=rfl
 unfold Sl.fx Sl.mM Sl.mW Sl.kJ Sl.jn;cases s0:(n==[104,111,118,101,114])
 case true =>
  cases Q
  ·refine ah rfl rfl Tryz.func107 rfl Tryz.ntmps107 ⟨by simp,by simp[LK]⟩ ?_
   simp (maxSteps:=2000000) only[go_sem,reduceLT,reduceEqDiff,Nat.reduceBEq,reduceAdd,reduceSub,reduceLeDiff,ab ae aj,ab ai am,af aa,ag aa,hr,aG,aB,Int.reduceBEq,hq,s0]
   all_goals (repeat (first|(rw[aV];rotate_left;(· kernel_rfl))|(first|rw[aR]|rw[aJ]|rw[aO];rotate_left;(· kernel_rfl);simp (maxSteps:=2000000) only[go_sem,reduceLT,reduceCtorEq,reduceEqDiff,Nat.reduceBEq,reduceAdd,reduceSub,reduceLeDiff,reduceMul,ab ae aj,ab ai am,af aa,ag aa,hr,e00,i00,aG,aB,Int.reduceBEq,hq,s0])))
  ·refine ah rfl rfl Tryz.func107 rfl Tryz.ntmps107 ⟨by simp,by simp[LK]⟩ ?_
   simp (maxSteps:=2000000) only[go_sem,reduceLT,reduceEqDiff,Nat.reduceBEq,reduceAdd,reduceSub,reduceLeDiff,ab ae aj,ab ai am,af aa,ag aa,hr,aG,aB,Int.reduceBEq,hq,s0]
   all_goals (repeat (first|(rw[aV];rotate_left;(· kernel_rfl))|(first|rw[aR]|rw[aJ]|rw[aO];rotate_left;(· kernel_rfl);simp (maxSteps:=2000000) only[go_sem,reduceLT,reduceCtorEq,reduceEqDiff,Nat.reduceBEq,reduceAdd,reduceSub,reduceLeDiff,reduceMul,ab ae aj,ab ai am,af aa,ag aa,hr,e00,i00,aG,aB,Int.reduceBEq,hq,s0])))
 cases s1:(n==[102,111,99,117,115])
 case true =>
  cases Q
  ·refine ah rfl rfl Tryz.func107 rfl Tryz.ntmps107 ⟨by simp,by simp[LK]⟩ ?_
   simp (maxSteps:=2000000) only[go_sem,reduceLT,reduceEqDiff,Nat.reduceBEq,reduceAdd,reduceSub,reduceLeDiff,ab ae aj,ab ai am,af aa,ag aa,hr,aG,aB,Int.reduceBEq,hq,s0,s1]
   all_goals (repeat (first|(rw[aV];rotate_left;(· kernel_rfl))|(first|rw[aR]|rw[aJ]|rw[aO];rotate_left;(· kernel_rfl);simp (maxSteps:=2000000) only[go_sem,reduceLT,reduceCtorEq,reduceEqDiff,Nat.reduceBEq,reduceAdd,reduceSub,reduceLeDiff,reduceMul,ab ae aj,ab ai am,af aa,ag aa,hr,e00,i00,aG,aB,Int.reduceBEq,hq,s0,s1])))
  ·refine ah rfl rfl Tryz.func107 rfl Tryz.ntmps107 ⟨by simp,by simp[LK]⟩ ?_
   simp (maxSteps:=2000000) only[go_sem,reduceLT,reduceEqDiff,Nat.reduceBEq,reduceAdd,reduceSub,reduceLeDiff,ab ae aj,ab ai am,af aa,ag aa,hr,aG,aB,Int.reduceBEq,hq,s0,s1]
   all_goals (repeat (first|(rw[aV];rotate_left;(· kernel_rfl))|(first|rw[aR]|rw[aJ]|rw[aO];rotate_left;(· kernel_rfl);simp (maxSteps:=2000000) only[go_sem,reduceLT,reduceCtorEq,reduceEqDiff,Nat.reduceBEq,reduceAdd,reduceSub,reduceLeDiff,reduceMul,ab ae aj,ab ai am,af aa,ag aa,hr,e00,i00,aG,aB,Int.reduceBEq,hq,s0,s1])))
 cases s2:(n==[97,99,116,105,118,101])
 case true =>
  cases Q
  ·refine ah rfl rfl Tryz.func107 rfl Tryz.ntmps107 ⟨by simp,by simp[LK]⟩ ?_
   simp (maxSteps:=2000000) only[go_sem,reduceLT,reduceEqDiff,Nat.reduceBEq,reduceAdd,reduceSub,reduceLeDiff,ab ae aj,ab ai am,af aa,ag aa,hr,aG,aB,Int.reduceBEq,hq,s0,s1,s2]
   all_goals (repeat (first|(rw[aV];rotate_left;(· kernel_rfl))|(first|rw[aR]|rw[aJ]|rw[aO];rotate_left;(· kernel_rfl);simp (maxSteps:=2000000) only[go_sem,reduceLT,reduceCtorEq,reduceEqDiff,Nat.reduceBEq,reduceAdd,reduceSub,reduceLeDiff,reduceMul,ab ae aj,ab ai am,af aa,ag aa,hr,e00,i00,aG,aB,Int.reduceBEq,hq,s0,s1,s2])))
  ·refine ah rfl rfl Tryz.func107 rfl Tryz.ntmps107 ⟨by simp,by simp[LK]⟩ ?_
   simp (maxSteps:=2000000) only[go_sem,reduceLT,reduceEqDiff,Nat.reduceBEq,reduceAdd,reduceSub,reduceLeDiff,ab ae aj,ab ai am,af aa,ag aa,hr,aG,aB,Int.reduceBEq,hq,s0,s1,s2]
   all_goals (repeat (first|(rw[aV];rotate_left;(· kernel_rfl))|(first|rw[aR]|rw[aJ]|rw[aO];rotate_left;(· kernel_rfl);simp (maxSteps:=2000000) only[go_sem,reduceLT,reduceCtorEq,reduceEqDiff,Nat.reduceBEq,reduceAdd,reduceSub,reduceLeDiff,reduceMul,ab ae aj,ab ai am,af aa,ag aa,hr,e00,i00,aG,aB,Int.reduceBEq,hq,s0,s1,s2])))
 cases s3:(n==[99,104,101,99,107,101,100])
 case true =>
  cases Q
  ·refine ah rfl rfl Tryz.func107 rfl Tryz.ntmps107 ⟨by simp,by simp[LK]⟩ ?_
   simp (maxSteps:=2000000) only[go_sem,reduceLT,reduceEqDiff,Nat.reduceBEq,reduceAdd,reduceSub,reduceLeDiff,ab ae aj,ab ai am,af aa,ag aa,hr,aG,aB,Int.reduceBEq,hq,s0,s1,s2,s3]
   all_goals (repeat (first|(rw[aV];rotate_left;(· kernel_rfl))|(first|rw[aR]|rw[aJ]|rw[aO];rotate_left;(· kernel_rfl);simp (maxSteps:=2000000) only[go_sem,reduceLT,reduceCtorEq,reduceEqDiff,Nat.reduceBEq,reduceAdd,reduceSub,reduceLeDiff,reduceMul,ab ae aj,ab ai am,af aa,ag aa,hr,e00,i00,aG,aB,Int.reduceBEq,hq,s0,s1,s2,s3])))
  ·refine ah rfl rfl Tryz.func107 rfl Tryz.ntmps107 ⟨by simp,by simp[LK]⟩ ?_
   simp (maxSteps:=2000000) only[go_sem,reduceLT,reduceEqDiff,Nat.reduceBEq,reduceAdd,reduceSub,reduceLeDiff,ab ae aj,ab ai am,af aa,ag aa,hr,aG,aB,Int.reduceBEq,hq,s0,s1,s2,s3]
   all_goals (repeat (first|(rw[aV];rotate_left;(· kernel_rfl))|(first|rw[aR]|rw[aJ]|rw[aO];rotate_left;(· kernel_rfl);simp (maxSteps:=2000000) only[go_sem,reduceLT,reduceCtorEq,reduceEqDiff,Nat.reduceBEq,reduceAdd,reduceSub,reduceLeDiff,reduceMul,ab ae aj,ab ai am,af aa,ag aa,hr,e00,i00,aG,aB,Int.reduceBEq,hq,s0,s1,s2,s3])))
 refine ah rfl rfl Tryz.func107 rfl Tryz.ntmps107 ⟨by simp,by simp[LK]⟩ ?_
 simp (maxSteps:=2000000) only[go_sem,reduceLT,reduceEqDiff,Nat.reduceBEq,reduceAdd,reduceSub,reduceLeDiff,ab ae aj,ab ai am,af aa,ag aa,hr,aG,aB,Int.reduceBEq,s0,s1,s2,s3]
 all_goals (repeat (first|(rw[aV];rotate_left;(· kernel_rfl))|(first|rw[aR]|rw[aJ]|rw[aO];rotate_left;(· kernel_rfl);simp (maxSteps:=2000000) only[go_sem,reduceLT,reduceCtorEq,reduceEqDiff,Nat.reduceBEq,reduceAdd,reduceSub,reduceLeDiff,reduceMul,ab ae aj,ab ai am,af aa,ag aa,hr,e00,i00,aG,aB,Int.reduceBEq,s0,s1,s2,s3])))
theorem yf (n v:List UInt8) (a b:Int) (lc:List (List PV)) (hl:lc.length≠1) (hq:dS Tryz.prog 146 [.int .i64 11,.str n,.str v,.int .i64 a,.int .i64 b] [.int .i64 11,.str [],.str [],.int .i64 0,.int .i64 0]=some true) :
  den K 107 [.agg [.pv (.int .i64 11),.pv (.str n),.pv (.str v),.pv (.int .i64 a),.pv (.int .i64 b),.pv (.sl lc)]] []=some (.ret (B false) []):=by
 have hr:Tryz.f107.results=#[.tmp 2]:=rfl
 have q1:((lc.length:Int)==1)=false:=by rw[beq_eq_false_iff_ne];omega
 refine ah rfl rfl Tryz.func107 rfl Tryz.ntmps107 ⟨by simp,by simp[LK]⟩ ?_
 simp (maxSteps:=2000000) only[go_sem,reduceLT,reduceEqDiff,Nat.reduceBEq,reduceAdd,reduceSub,reduceLeDiff,ab ae aj,ab ai am,af aa,hr,aG,aB,Int.reduceBEq,hq,q1]
 all_goals (repeat (first|(rw[aV];rotate_left;(· kernel_rfl))|(first|rw[aR]|rw[aJ]|rw[aO];rotate_left;(· kernel_rfl);simp (maxSteps:=2000000) only[go_sem,reduceLT,reduceCtorEq,reduceEqDiff,Nat.reduceBEq,reduceAdd,reduceSub,reduceLeDiff,reduceMul,ab ae aj,ab ai am,af aa,ag aa,hr,e00,i00,aG,aB,Int.reduceBEq,hq,q1])))
theorem Iq (n v:List UInt8) (a b:Int) (k:Int) (n2 v2:List UInt8) (a2 b2:Int) (l2:List (List PV)) (r:Bool) (hm:den K 107 [.agg [.pv (.int .i64 k),.pv (.str n2),.pv (.str v2),.pv (.int .i64 a2),.pv (.int .i64 b2),.pv (.sl l2)]] []=some (.ret (B r) [])) (hq:dS Tryz.prog 146 [.int .i64 11,.str n,.str v,.int .i64 a,.int .i64 b] [.int .i64 11,.str [],.str [],.int .i64 0,.int .i64 0]=some true) :
  den K 107 [.agg [.pv (.int .i64 11),.pv (.str n),.pv (.str v),.pv (.int .i64 a),.pv (.int .i64 b),.pv (.sl [[.int .i64 k,.str n2,.str v2,.int .i64 a2,.int .i64 b2,.sl l2]])]] []=some (.ret (B (k != 11&&r)) []):=by
 have hr:Tryz.f107.results=#[.tmp 2]:=rfl
 have q1:(((0:Nat):Int)+1==1)=true:=rfl
 have q2:(((1:Nat):Int)==1)=true:=rfl
 cases q3:(k==11)
 ·simp only[bne,q3];refine ah rfl rfl Tryz.func107 rfl Tryz.ntmps107 ⟨by simp,by simp[LK]⟩ ?_
  simp (maxSteps:=2000000) only[go_sem,reduceLT,reduceEqDiff,Nat.reduceBEq,reduceAdd,reduceSub,reduceLeDiff,ab ae aj,ab ai am,af aa,ag aa,hr,aG,aB,Int.reduceBEq,hq,q2,q3,bne,le00,hm,Int.toNat_zero]
  all_goals (repeat (first|(rw[aV];rotate_left;(· kernel_rfl))|(first|rw[aR]|rw[aJ]|rw[aO];rotate_left;(· kernel_rfl);simp (maxSteps:=2000000) only[go_sem,reduceLT,reduceCtorEq,reduceEqDiff,Nat.reduceBEq,reduceAdd,reduceSub,reduceLeDiff,reduceMul,ab ae aj,ab ai am,af aa,ag aa,hr,e00,i00,aG,aB,Int.reduceBEq,hq,q1,q2,q3,bne,le00,hm,Int.toNat_zero])))
 ·simp only[bne,q3];refine ah rfl rfl Tryz.func107 rfl Tryz.ntmps107 ⟨by simp,by simp[LK]⟩ ?_
  simp (maxSteps:=2000000) only[go_sem,reduceLT,reduceEqDiff,Nat.reduceBEq,reduceAdd,reduceSub,reduceLeDiff,ab ae aj,ab ai am,af aa,ag aa,hr,aG,aB,Int.reduceBEq,hq,q2,q3,bne,le00,Int.toNat_zero]
  all_goals (repeat (first|(rw[aV];rotate_left;(· kernel_rfl))|(first|rw[aR]|rw[aJ]|rw[aO];rotate_left;(· kernel_rfl);simp (maxSteps:=2000000) only[go_sem,reduceLT,reduceCtorEq,reduceEqDiff,Nat.reduceBEq,reduceAdd,reduceSub,reduceLeDiff,reduceMul,ab ae aj,ab ai am,af aa,ag aa,hr,e00,i00,aG,aB,Int.reduceBEq,hq,q1,q2,q3,bne,le00,Int.toNat_zero])))
end Go.Abs
