/-
  WHAT THE FUNCTIONS COMPUTE, layer 4: whether a simple selector may be, as the document tells, some kinds. (Printed by gens9.py.)
-/
import Derived.Test.YtlomcifkckgneaaGreatDoorRt21
set_option maxHeartbeats 16000000
open Nat (reduceEqDiff reduceAdd reduceLT reduceLeDiff reduceSub reduceMul)
set_option linter.unusedSimpArgs false
set_option linter.unusedVariables false
namespace Go.Abs
open Go Go.Proofs
set_option maxRecDepth 10000
attribute [local go_sem] c7 bF cD bW bZ db cJ cE a7 ck ce cF c8 bS opd avOf cvOf St.degAt St.put okPV d6 okAV du dv dt cU aM if_true Bool.false_eq_true if_false Option.map_some Option.map_none Option.bind_some Option.bind_none dY dV upd List.toList_toArray cR steal bz mvB dE cV cT AV.deg CV.deg AV.gv AV.isIter cN cI bU List.length_nil List.length_cons List.filterMap_cons List.filterMap_nil beq_iff_eq List.getElem?_cons_zero List.getElem?_cons_succ Option.getD_some d8 eV Bool.false_and Bool.and_false Bool.and_self K_P fq co cO bw lend back idx dedup AV.ren CV.ren TV.ren AV.ptrs CV.ptrs cX AV.flat CV.flat cz cg bc c9 dk eo cj aY cm bt bH cf br eF CV.pv? content bA ownT bd reps pvs chunks cd leave eB cK dr bT bv TV.deg TV.av LK CV.plain CV.noBld c5 eA bound List.map_cons List.map_nil List.all_cons List.all_nil List.any_cons List.any_nil List.contains_cons List.contains_nil List.elem_cons List.elem_nil List.cons_append List.nil_append List.append_nil List.flatMap_cons List.flatMap_nil List.zip_cons_cons List.zip_nil_left List.zip_nil_right List.take_succ_cons List.take_zero List.take_nil List.drop_succ_cons List.drop_zero List.drop_nil List.isEmpty_nil List.isEmpty_cons Bool.and_true Bool.true_and Bool.or_true Bool.true_or Bool.or_false Bool.false_or Bool.not_true Bool.not_false Nat.add_zero Nat.zero_add Option.isNone_none Option.isNone_some Option.getD_none true_and and_true not_true_eq_false not_false_eq_true decide_true decide_false Nat.le_refl and_self Bool.not_eq_true Nat.sub_self or_true true_or Option.some.injEq List.length_map List.nil_eq and_false false_and AV.live CV.live CV.liveIn dU bg Option.orElse_some Option.orElse_none head bm bh Int.lt_irrefl List.length_append ite_self dZ cA dc bC Key.clash Key.sees Key.writes Nat.lt_irrefl gt_iff_lt cH dH false_or or_false beq_self_eq_true Bool.true_beq Bool.false_beq c6 cB bG ae dh dK aL bX oJ mZ dx eI eJ pt dL mo eH fH eM mV mG
theorem Ms (n v:List UInt8) (a b:Int) (lc:List (List PV)) (Q:Bool) (hn:n.length<1000000000) (hv:v.length<1000000000) (hq:dS Tryz.prog 146 [.int .i64 6,.str n,.str v,.int .i64 a,.int .i64 b] [.int .i64 6,.str n,.str v,.int .i64 0,.int .i64 0]=some Q) :
  den K 107 [.agg [.pv (.int .i64 6),.pv (.str n),.pv (.str v),.pv (.int .i64 a),.pv (.int .i64 b),.pv (.sl lc)]] []=some (.ret (B ((Tk.may ⟨1,n,0⟩&&(Tk.may ⟨6,v,34⟩||Tk.may ⟨6,v,39⟩))&&(Q&&((lc.length:Int)==0)))) []):=by
 have hr:Tryz.f107.results=#[.tmp 2]:=rfl
 have h1:=m6 n hn
 have h2:=pd 6 v 34 ⟨by decide,by decide⟩ hv
 have h3:=pd 6 v 39 ⟨by decide,by decide⟩ hv
 cases q1:Tk.may ⟨1,n,0⟩
 ·rw[q1] at h1;refine ah rfl rfl Tryz.func107 rfl Tryz.ntmps107 ⟨by simp,by simp[LK]⟩ ?_
  simp (maxSteps:=2000000) only[go_sem,reduceLT,reduceEqDiff,Nat.reduceBEq,reduceAdd,reduceSub,reduceLeDiff,ab ae aj,ab ai am,af aa,ag aa,hr,aG,aB,Int.reduceBEq,h1]
  all_goals (repeat (first|(rw[aV];rotate_left;(· kernel_rfl))|(first|rw[aR]|rw[aJ]|rw[aO];rotate_left;(· kernel_rfl);simp (maxSteps:=2000000) only[go_sem,reduceLT,reduceCtorEq,reduceEqDiff,Nat.reduceBEq,reduceAdd,reduceSub,reduceLeDiff,reduceMul,ab ae aj,ab ai am,af aa,ag aa,hr,e00,i00,aG,aB,Int.reduceBEq,h1])))
 ·rw[q1] at h1;cases q2:Tk.may ⟨6,v,34⟩
  ·rw[q2] at h2;cases q3:Tk.may ⟨6,v,39⟩
   ·rw[q3] at h3;refine ah rfl rfl Tryz.func107 rfl Tryz.ntmps107 ⟨by simp,by simp[LK]⟩ ?_
    simp (maxSteps:=2000000) only[go_sem,reduceLT,reduceEqDiff,Nat.reduceBEq,reduceAdd,reduceSub,reduceLeDiff,ab ae aj,ab ai am,af aa,ag aa,hr,aG,aB,Int.reduceBEq,h1,h2,h3]
    all_goals (repeat (first|(rw[aV];rotate_left;(· kernel_rfl))|(first|rw[aR]|rw[aJ]|rw[aO];rotate_left;(· kernel_rfl);simp (maxSteps:=2000000) only[go_sem,reduceLT,reduceCtorEq,reduceEqDiff,Nat.reduceBEq,reduceAdd,reduceSub,reduceLeDiff,reduceMul,ab ae aj,ab ai am,af aa,ag aa,hr,e00,i00,aG,aB,Int.reduceBEq,h1,h2,h3])))
   ·rw[q3] at h3;cases Q
    ·refine ah rfl rfl Tryz.func107 rfl Tryz.ntmps107 ⟨by simp,by simp[LK]⟩ ?_
     simp (maxSteps:=2000000) only[go_sem,reduceLT,reduceEqDiff,Nat.reduceBEq,reduceAdd,reduceSub,reduceLeDiff,ab ae aj,ab ai am,af aa,ag aa,hr,aG,aB,Int.reduceBEq,hq,h1,h2,h3]
     all_goals (repeat (first|(rw[aV];rotate_left;(· kernel_rfl))|(first|rw[aR]|rw[aJ]|rw[aO];rotate_left;(· kernel_rfl);simp (maxSteps:=2000000) only[go_sem,reduceLT,reduceCtorEq,reduceEqDiff,Nat.reduceBEq,reduceAdd,reduceSub,reduceLeDiff,reduceMul,ab ae aj,ab ai am,af aa,ag aa,hr,e00,i00,aG,aB,Int.reduceBEq,hq,h1,h2,h3])))
    ·refine ah rfl rfl Tryz.func107 rfl Tryz.ntmps107 ⟨by simp,by simp[LK]⟩ ?_
     simp (maxSteps:=2000000) only[go_sem,reduceLT,reduceEqDiff,Nat.reduceBEq,reduceAdd,reduceSub,reduceLeDiff,ab ae aj,ab ai am,af aa,ag aa,hr,aG,aB,Int.reduceBEq,hq,h1,h2,h3]
     all_goals (repeat (first|(rw[aV];rotate_left;(· kernel_rfl))|(first|rw[aR]|rw[aJ]|rw[aO];rotate_left;(· kernel_rfl);simp (maxSteps:=2000000) only[go_sem,reduceLT,reduceCtorEq,reduceEqDiff,Nat.reduceBEq,reduceAdd,reduceSub,reduceLeDiff,reduceMul,ab ae aj,ab ai am,af aa,ag aa,hr,e00,i00,aG,aB,Int.reduceBEq,hq,h1,h2,h3])))
  ·rw[q2] at h2;cases Q
   ·refine ah rfl rfl Tryz.func107 rfl Tryz.ntmps107 ⟨by simp,by simp[LK]⟩ ?_
    simp (maxSteps:=2000000) only[go_sem,reduceLT,reduceEqDiff,Nat.reduceBEq,reduceAdd,reduceSub,reduceLeDiff,ab ae aj,ab ai am,af aa,ag aa,hr,aG,aB,Int.reduceBEq,hq,h1,h2]
    all_goals (repeat (first|(rw[aV];rotate_left;(· kernel_rfl))|(first|rw[aR]|rw[aJ]|rw[aO];rotate_left;(· kernel_rfl);simp (maxSteps:=2000000) only[go_sem,reduceLT,reduceCtorEq,reduceEqDiff,Nat.reduceBEq,reduceAdd,reduceSub,reduceLeDiff,reduceMul,ab ae aj,ab ai am,af aa,ag aa,hr,e00,i00,aG,aB,Int.reduceBEq,hq,h1,h2])))
   ·refine ah rfl rfl Tryz.func107 rfl Tryz.ntmps107 ⟨by simp,by simp[LK]⟩ ?_
    simp (maxSteps:=2000000) only[go_sem,reduceLT,reduceEqDiff,Nat.reduceBEq,reduceAdd,reduceSub,reduceLeDiff,ab ae aj,ab ai am,af aa,ag aa,hr,aG,aB,Int.reduceBEq,hq,h1,h2]
    all_goals (repeat (first|(rw[aV];rotate_left;(· kernel_rfl))|(first|rw[aR]|rw[aJ]|rw[aO];rotate_left;(· kernel_rfl);simp (maxSteps:=2000000) only[go_sem,reduceLT,reduceCtorEq,reduceEqDiff,Nat.reduceBEq,reduceAdd,reduceSub,reduceLeDiff,reduceMul,ab ae aj,ab ai am,af aa,ag aa,hr,e00,i00,aG,aB,Int.reduceBEq,hq,h1,h2])))
theorem BU (k:Int) (hk:k<1∨11<k) (n v:List UInt8) (a b:Int) (lc:List (List PV)):den K 107 [.agg [.pv (.int .i64 k),.pv (.str n),.pv (.str v),.pv (.int .i64 a),.pv (.int .i64 b),.pv (.sl lc)]] []=some (.ret (B false) []):=by
 have hr:Tryz.f107.results=#[.tmp 2]:=rfl
 have e1:(k==1)=false:=by rw[beq_eq_false_iff_ne];omega
 have e2:(k==2)=false:=by rw[beq_eq_false_iff_ne];omega
 have e3:(k==3)=false:=by rw[beq_eq_false_iff_ne];omega
 have e4:(k==4)=false:=by rw[beq_eq_false_iff_ne];omega
 have e5:(k==5)=false:=by rw[beq_eq_false_iff_ne];omega
 have e6:(k==6)=false:=by rw[beq_eq_false_iff_ne];omega
 have e7:(k==7)=false:=by rw[beq_eq_false_iff_ne];omega
 have e8:(k==8)=false:=by rw[beq_eq_false_iff_ne];omega
 have e9:(k==9)=false:=by rw[beq_eq_false_iff_ne];omega
 have e10:(k==10)=false:=by rw[beq_eq_false_iff_ne];omega
 have e11:(k==11)=false:=by rw[beq_eq_false_iff_ne];omega
 refine ah rfl rfl Tryz.func107 rfl Tryz.ntmps107 ⟨by simp,by simp[LK]⟩ ?_
 simp (maxSteps:=2000000) only[go_sem,reduceLT,reduceEqDiff,Nat.reduceBEq,reduceAdd,reduceSub,reduceLeDiff,ab ae aj,ab ai am,af aa,ag aa,hr,aG,aB,e1,e2,e3,e4,e5,e6,e7,e8,e9,e10,e11]
 all_goals (repeat (first|(rw[aV];rotate_left;(· kernel_rfl))|(first|rw[aR]|rw[aJ]|rw[aO];rotate_left;(· kernel_rfl);simp (maxSteps:=2000000) only[go_sem,reduceLT,reduceCtorEq,reduceEqDiff,Nat.reduceBEq,reduceAdd,reduceSub,reduceLeDiff,reduceMul,ab ae aj,ab ai am,af aa,ag aa,hr,e00,i00,aG,aB,Int.reduceBEq,e1,e2,e3,e4,e5,e6,e7,e8,e9,e10,e11])))
theorem Hj (n v:List UInt8) (a b:Int) (lc:List (List PV)) (hq:dS Tryz.prog 146 [.int .i64 11,.str n,.str v,.int .i64 a,.int .i64 b] [.int .i64 11,.str [],.str [],.int .i64 0,.int .i64 0]=some false) :
  den K 107 [.agg [.pv (.int .i64 11),.pv (.str n),.pv (.str v),.pv (.int .i64 a),.pv (.int .i64 b),.pv (.sl lc)]] []=some (.ret (B false) []):=by
 have hr:Tryz.f107.results=#[.tmp 2]:=rfl
 refine ah rfl rfl Tryz.func107 rfl Tryz.ntmps107 ⟨by simp,by simp[LK]⟩ ?_
 simp (maxSteps:=2000000) only[go_sem,reduceLT,reduceEqDiff,Nat.reduceBEq,reduceAdd,reduceSub,reduceLeDiff,ab ae aj,ab ai am,hr,aG,aB,Int.reduceBEq,hq]
 all_goals (repeat (first|(rw[aV];rotate_left;(· kernel_rfl))|(first|rw[aR]|rw[aJ]|rw[aO];rotate_left;(· kernel_rfl);simp (maxSteps:=2000000) only[go_sem,reduceLT,reduceCtorEq,reduceEqDiff,Nat.reduceBEq,reduceAdd,reduceSub,reduceLeDiff,reduceMul,ab ae aj,ab ai am,af aa,ag aa,hr,e00,i00,aG,aB,Int.reduceBEq,hq])))
end Go.Abs
