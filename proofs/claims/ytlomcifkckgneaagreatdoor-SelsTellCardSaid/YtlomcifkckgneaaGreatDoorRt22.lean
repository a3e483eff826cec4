/-
  WHAT THE FUNCTIONS COMPUTE, layer 4: whether a simple selector may be, as the program tells. (Printed by gens9.py.)
-/
import Derived.Test.YtlomcifkckgneaaGreatDoorRt15
import Derived.Test.YtlomcifkckgneaaGreatDoorRt19
set_option maxHeartbeats 8000000
open Nat (reduceEqDiff reduceAdd reduceLT reduceLeDiff reduceSub reduceMul)
set_option linter.unusedSimpArgs false
set_option linter.unusedVariables false
namespace Go.Abs
open Go Go.Proofs
set_option maxRecDepth 10000
attribute [local go_sem] c7 bF cD bW bZ db cJ cE a7 ck ce cF c8 bS opd avOf cvOf St.degAt St.put okPV d6 okAV du dv dt cU aM if_true Bool.false_eq_true if_false Option.map_some Option.map_none Option.bind_some Option.bind_none dY dV upd List.toList_toArray cR steal bz mvB dE cV cT AV.deg CV.deg AV.gv AV.isIter cN cI bU List.length_nil List.length_cons List.filterMap_cons List.filterMap_nil beq_iff_eq List.getElem?_cons_zero List.getElem?_cons_succ Option.getD_some d8 eV Bool.false_and Bool.and_false Bool.and_self K_P fq co cO bw lend back idx dedup AV.ren CV.ren TV.ren AV.ptrs CV.ptrs cX AV.flat CV.flat cz cg bc c9 dk eo cj aY cm bt bH cf br eF CV.pv? content bA ownT bd reps pvs chunks cd leave eB cK dr bT bv TV.deg TV.av LK CV.plain CV.noBld c5 eA bound List.map_cons List.map_nil List.all_cons List.all_nil List.any_cons List.any_nil List.contains_cons List.contains_nil List.elem_cons List.elem_nil List.cons_append List.nil_append List.append_nil List.flatMap_cons List.flatMap_nil List.zip_cons_cons List.zip_nil_left List.zip_nil_right List.take_succ_cons List.take_zero List.take_nil List.drop_succ_cons List.drop_zero List.drop_nil List.isEmpty_nil List.isEmpty_cons Bool.and_true Bool.true_and Bool.or_true Bool.true_or Bool.or_false Bool.false_or Bool.not_true Bool.not_false Nat.add_zero Nat.zero_add Option.isNone_none Option.isNone_some Option.getD_none true_and and_true not_true_eq_false not_false_eq_true decide_true decide_false Nat.le_refl and_self Bool.not_eq_true Nat.sub_self or_true true_or Option.some.injEq List.length_map List.nil_eq and_false false_and AV.live CV.live CV.liveIn dU bg Option.orElse_some Option.orElse_none head bm bh Int.lt_irrefl List.length_append ite_self dZ cA dc bC Key.clash Key.sees Key.writes Nat.lt_irrefl gt_iff_lt cH dH false_or or_false beq_self_eq_true Bool.true_beq Bool.false_beq Hl H9 dL ae c6 cB bG dK aL dx eI eJ eH fH dh Hx bX eM GB xx Gg Ah pA C8 yz
theorem lO (k:Int) (s:List UInt8) (n:Int) (hn:I64 n) (hs:s.length<1000000000):den K 189 [I k,T s,I n] []=some (.ret (B (Tk.may ⟨k,s,n⟩)) []):=by
 have hr:Tryz.f189.results=#[.tmp 6]:=rfl
 have h:=JM ⟨k,s,n⟩ hn hs
 simp only[Tok.cells] at h;refine ah rfl rfl Tryz.func189 rfl Tryz.ntmps189 ⟨by simp,by simp[LK]⟩ ?_
 simp only[go_sem,reduceLT,reduceCtorEq,reduceEqDiff,Nat.reduceBEq,reduceAdd,reduceLeDiff,ab ai am,hr,h]
theorem lB (s:List UInt8) (hs:s.length<1000000000):den K 188 [T s] []=some (.ret (B (Tk.may ⟨1,s,0⟩)) []):=by
 have hr:Tryz.f188.results=#[.tmp 2]:=rfl
 have h:=lO 1 s 0 z64 hs
 refine ah rfl rfl Tryz.func188 rfl Tryz.ntmps188 ⟨by simp,by simp[LK]⟩ ?_
 simp only[go_sem,reduceLT,reduceCtorEq,reduceEqDiff,Nat.reduceBEq,reduceAdd,hr,h]
theorem GC (s:List UInt8) (hs:s.length<1000000000):den K 190 [T s] []=some (.ret (B (Tk.may ⟨6,s,34⟩||Tk.may ⟨6,s,39⟩)) []):=by
 have hr:Tryz.f190.results=#[.tmp 2]:=rfl
 have h1:=lO 6 s 34 ⟨by decide,by decide⟩ hs
 have h2:=lO 6 s 39 ⟨by decide,by decide⟩ hs
 cases e:Tk.may ⟨6,s,34⟩
 ·rw[e] at h1;refine ah rfl rfl Tryz.func190 rfl Tryz.ntmps190 ⟨by simp,by simp[LK]⟩ ?_
  simp only[go_sem,reduceLT,reduceCtorEq,reduceEqDiff,Nat.reduceBEq,reduceAdd,hr,h1,h2]
 ·rw[e] at h1;refine ah rfl rfl Tryz.func190 rfl Tryz.ntmps190 ⟨by simp,by simp[LK]⟩ ?_
  simp only[go_sem,reduceLT,reduceCtorEq,reduceEqDiff,Nat.reduceBEq,reduceAdd,hr,h1]
def bN (k:Int) (n:List UInt8):List UInt8:=if k=2∨k=3∨k=4∨k=5∨k=6∨k=7 then [] else n
def bV (k:Int) (v:List UInt8):List UInt8:=if k=6 then [] else v
def bI (k a:Int):Int:=if k=8 then 0 else a
def bL (k:Int) (lc:List (List PV)):CV:=if k=11 then .nils else .pv (.sl lc)
theorem eX (k:Int) (n v:List UInt8) (a b:Int) (lc:List (List PV)):den K 187 [.agg [.pv (.int .i64 k),.pv (.str n),.pv (.str v),.pv (.int .i64 a),.pv (.int .i64 b),.pv (.sl lc)]] []=some (.ret (.agg [.pv (.int .i64 k),.pv (.str (bN k n)),.pv (.str (bV k v)),.pv (.int .i64 (bI k a)),.pv (.int .i64 (bI k b)),bL k lc]) []):=by
 have hr:Tryz.f187.results=#[.cell 2 52]:=rfl
 by_cases k2:k=2
 ·subst k2
  show _=(some (.ret (.agg [.pv (.int .i64 2),.pv (.str []),.pv (.str v),.pv (.int .i64 a),.pv (.int .i64 b),.pv (.sl lc)]) []):Option Res)
  refine ah rfl rfl Tryz.func187 rfl Tryz.ntmps187 ⟨by simp,by simp[LK]⟩ ?_
  simp only[go_sem,reduceLT,reduceEqDiff,Nat.reduceBEq,reduceAdd,reduceSub,reduceLeDiff,hr,Int.reduceBEq]
 by_cases k3:k=3
 ·subst k3
  show _=(some (.ret (.agg [.pv (.int .i64 3),.pv (.str []),.pv (.str v),.pv (.int .i64 a),.pv (.int .i64 b),.pv (.sl lc)]) []):Option Res)
  refine ah rfl rfl Tryz.func187 rfl Tryz.ntmps187 ⟨by simp,by simp[LK]⟩ ?_
  simp only[go_sem,reduceLT,reduceEqDiff,Nat.reduceBEq,reduceAdd,reduceSub,reduceLeDiff,hr,Int.reduceBEq]
 by_cases k4:k=4
 ·subst k4
  show _=(some (.ret (.agg [.pv (.int .i64 4),.pv (.str []),.pv (.str v),.pv (.int .i64 a),.pv (.int .i64 b),.pv (.sl lc)]) []):Option Res)
  refine ah rfl rfl Tryz.func187 rfl Tryz.ntmps187 ⟨by simp,by simp[LK]⟩ ?_
  simp only[go_sem,reduceLT,reduceEqDiff,Nat.reduceBEq,reduceAdd,reduceSub,reduceLeDiff,hr,Int.reduceBEq]
 by_cases k5:k=5
 ·subst k5
  show _=(some (.ret (.agg [.pv (.int .i64 5),.pv (.str []),.pv (.str v),.pv (.int .i64 a),.pv (.int .i64 b),.pv (.sl lc)]) []):Option Res)
  refine ah rfl rfl Tryz.func187 rfl Tryz.ntmps187 ⟨by simp,by simp[LK]⟩ ?_
  simp only[go_sem,reduceLT,reduceEqDiff,Nat.reduceBEq,reduceAdd,reduceSub,reduceLeDiff,hr,Int.reduceBEq]
 by_cases k6:k=6
 ·subst k6
  show _=(some (.ret (.agg [.pv (.int .i64 6),.pv (.str []),.pv (.str []),.pv (.int .i64 a),.pv (.int .i64 b),.pv (.sl lc)]) []):Option Res)
  refine ah rfl rfl Tryz.func187 rfl Tryz.ntmps187 ⟨by simp,by simp[LK]⟩ ?_
  simp only[go_sem,reduceLT,reduceEqDiff,Nat.reduceBEq,reduceAdd,reduceSub,reduceLeDiff,hr,Int.reduceBEq]
 by_cases k7:k=7
 ·subst k7
  show _=(some (.ret (.agg [.pv (.int .i64 7),.pv (.str []),.pv (.str v),.pv (.int .i64 a),.pv (.int .i64 b),.pv (.sl lc)]) []):Option Res)
  refine ah rfl rfl Tryz.func187 rfl Tryz.ntmps187 ⟨by simp,by simp[LK]⟩ ?_
  simp only[go_sem,reduceLT,reduceEqDiff,Nat.reduceBEq,reduceAdd,reduceSub,reduceLeDiff,hr,Int.reduceBEq]
 by_cases k8:k=8
 ·subst k8
  show _=(some (.ret (.agg [.pv (.int .i64 8),.pv (.str n),.pv (.str v),.pv (.int .i64 0),.pv (.int .i64 0),.pv (.sl lc)]) []):Option Res)
  refine ah rfl rfl Tryz.func187 rfl Tryz.ntmps187 ⟨by simp,by simp[LK]⟩ ?_
  simp only[go_sem,reduceLT,reduceEqDiff,Nat.reduceBEq,reduceAdd,reduceSub,reduceLeDiff,hr,Int.reduceBEq]
 by_cases k11:k=11
 ·subst k11
  show _=(some (.ret (.agg [.pv (.int .i64 11),.pv (.str n),.pv (.str v),.pv (.int .i64 a),.pv (.int .i64 b),.nils]) []):Option Res)
  refine ah rfl rfl Tryz.func187 rfl Tryz.ntmps187 ⟨by simp,by simp[LK]⟩ ?_
  simp only[go_sem,reduceLT,reduceEqDiff,Nat.reduceBEq,reduceAdd,reduceSub,reduceLeDiff,hr,Int.reduceBEq]
 have hn:bN k n=n:=if_neg (by rintro (h|h|h|h|h|h)<;>contradiction)
 have hv:bV k v=v:=if_neg k6
 have ha:bI k a=a:=if_neg k8
 have hb:bI k b=b:=if_neg k8
 have hl:bL k lc=.pv (.sl lc):=if_neg k11
 rw[hn,hv,ha,hb,hl];have e2:(k==2)=false:=by rw[beq_eq_false_iff_ne];exact k2
 have e3:(k==3)=false:=by rw[beq_eq_false_iff_ne];exact k3
 have e4:(k==4)=false:=by rw[beq_eq_false_iff_ne];exact k4
 have e5:(k==5)=false:=by rw[beq_eq_false_iff_ne];exact k5
 have e6:(k==6)=false:=by rw[beq_eq_false_iff_ne];exact k6
 have e7:(k==7)=false:=by rw[beq_eq_false_iff_ne];exact k7
 have e8:(k==8)=false:=by rw[beq_eq_false_iff_ne];exact k8
 have e11:(k==11)=false:=by rw[beq_eq_false_iff_ne];exact k11
 refine ah rfl rfl Tryz.func187 rfl Tryz.ntmps187 ⟨by simp,by simp[LK]⟩ ?_
 simp only[go_sem,reduceLT,reduceEqDiff,Nat.reduceBEq,reduceAdd,reduceSub,reduceLeDiff,hr,e2,e3,e4,e5,e6,e7,e8,e11]
theorem MD (k:Int) (n:List UInt8):(bN k n).length≤n.length:=by unfold bN;split<;>simp
theorem Mx (k:Int) (v:List UInt8):(bV k v).length≤v.length:=by unfold bV;split<;>simp
def PreM (k:Int) (n v:List UInt8) (a b:Int) (lc:List (List PV)):Prop:=bN k n++bV k v=[]∧bI k a=0∧bI k b=0∧(k=11∨lc=[])
theorem Kk (k:Int) (n v:List UInt8) (a b:Int) (lc:List (List PV)) (hn:n.length≤100000000) (hv:v.length≤100000000) (hp:¬ PreM k n v a b lc):den K 150 [.agg [.pv (.int .i64 k),.pv (.str n),.pv (.str v),.pv (.int .i64 a),.pv (.int .i64 b),.pv (.sl lc)]] []=some (.ret (B false) []):=by
 have hr:Tryz.f150.results=#[.tmp 2]:=rfl
 have hb:=eX k n v a b lc
 have h1:=MD k n
 have h2:=Mx k v
 have hs:(bN k n).length+(bV k v).length<ci:=by unfold ci;omega
 have hL:∃ c:List (List PV),bL k lc=.nils∨bL k lc=.pv (.sl c):=by unfold bL;split;exact⟨[],.inl rfl⟩;exact⟨lc,.inr rfl⟩
 obtain⟨c,hL⟩:=hL;cases q1:(bN k n++bV k v==[])
 ·rcases hL with hL|hL
  all_goals
   rw[hL] at hb;refine ah rfl rfl Tryz.func150 rfl Tryz.ntmps150 ⟨by simp,by simp[LK]⟩ ?_
   simp only[go_sem,reduceLT,reduceEqDiff,Nat.reduceBEq,reduceAdd,reduceSub,reduceLeDiff,hr,hb,hs,q1,bne]
 cases q2:(bI k a==0)
 ·rcases hL with hL|hL
  all_goals
   rw[hL] at hb;refine ah rfl rfl Tryz.func150 rfl Tryz.ntmps150 ⟨by simp,by simp[LK]⟩ ?_
   simp only[go_sem,reduceLT,reduceEqDiff,Nat.reduceBEq,reduceAdd,reduceSub,reduceLeDiff,hr,hb,hs,q1,q2,bne]
 cases q3:(bI k b==0)
 ·rcases hL with hL|hL
  all_goals
   rw[hL] at hb;refine ah rfl rfl Tryz.func150 rfl Tryz.ntmps150 ⟨by simp,by simp[LK]⟩ ?_
   simp only[go_sem,reduceLT,reduceEqDiff,Nat.reduceBEq,reduceAdd,reduceSub,reduceLeDiff,hr,hb,hs,q1,q2,q3,bne]
 have hk:¬ k=11:=fun h=>hp ⟨by simpa using q1,by simpa using q2,by simpa using q3,.inl h⟩
 have hl:lc≠[]:=fun h=>hp ⟨by simpa using q1,by simpa using q2,by simpa using q3,.inr h⟩
 have q4:decide (0<(lc.length:Int))=true:=decide_eq_true (by
  have:lc.length≠0:=fun h=>hl (List.eq_nil_of_length_eq_zero h)
  omega)
 have q5:bL k lc=.pv (.sl lc):=if_neg hk
 rw[q5] at hb;refine ah rfl rfl Tryz.func150 rfl Tryz.ntmps150 ⟨by simp,by simp[LK]⟩ ?_
 simp only[go_sem,reduceLT,reduceEqDiff,Nat.reduceBEq,reduceAdd,reduceSub,reduceLeDiff,af aa,hr,hb,hs,q1,q2,q3,q4,bne]
theorem LV  : den K 150 [.agg [.pv (.int .i64 1),.pv (.str []),.pv (.str []),.pv (.int .i64 0),.pv (.int .i64 0),.pv (.sl [])]] []=some (.ret (B (true)) []):=by
 have hr:Tryz.f150.results=#[.tmp 2]:=rfl
 have hb:den K 187 [.agg [.pv (.int .i64 1),.pv (.str []),.pv (.str []),.pv (.int .i64 0),.pv (.int .i64 0),.pv (.sl [])]] []=some (.ret (.agg [.pv (.int .i64 1),.pv (.str []),.pv (.str []),.pv (.int .i64 0),.pv (.int .i64 0),.pv (.sl [])]) []):=eX 1 [] [] 0 0 []
 refine ah rfl rfl Tryz.func150 rfl Tryz.ntmps150 ⟨by simp,by simp[LK]⟩ ?_
 simp only[go_sem,reduceLT,reduceEqDiff,Nat.reduceBEq,reduceAdd,reduceSub,reduceLeDiff,af aa,ag aa,hr,hb,s00,e00,i00,d00,List.append_nil,bne,Int.reduceBEq]
 all_goals (repeat (first|(rw[aV];rotate_left;(· kernel_rfl))|(first|rw[aR]|rw[aJ]|rw[aO];rotate_left;(· kernel_rfl);simp only[go_sem,reduceLT,reduceCtorEq,reduceEqDiff,Nat.reduceBEq,reduceAdd,reduceSub,reduceLeDiff,reduceMul,af aa,ag aa,hr,hb,s00,e00,i00,d00,List.append_nil,bne,Int.reduceBEq])))
theorem LW  : den K 150 [.agg [.pv (.int .i64 9),.pv (.str []),.pv (.str []),.pv (.int .i64 0),.pv (.int .i64 0),.pv (.sl [])]] []=some (.ret (B (true)) []):=by
 have hr:Tryz.f150.results=#[.tmp 2]:=rfl
 have hb:den K 187 [.agg [.pv (.int .i64 9),.pv (.str []),.pv (.str []),.pv (.int .i64 0),.pv (.int .i64 0),.pv (.sl [])]] []=some (.ret (.agg [.pv (.int .i64 9),.pv (.str []),.pv (.str []),.pv (.int .i64 0),.pv (.int .i64 0),.pv (.sl [])]) []):=eX 9 [] [] 0 0 []
 refine ah rfl rfl Tryz.func150 rfl Tryz.ntmps150 ⟨by simp,by simp[LK]⟩ ?_
 simp only[go_sem,reduceLT,reduceEqDiff,Nat.reduceBEq,reduceAdd,reduceSub,reduceLeDiff,af aa,ag aa,hr,hb,s00,e00,i00,d00,List.append_nil,bne,Int.reduceBEq]
 all_goals (repeat (first|(rw[aV];rotate_left;(· kernel_rfl))|(first|rw[aR]|rw[aJ]|rw[aO];rotate_left;(· kernel_rfl);simp only[go_sem,reduceLT,reduceCtorEq,reduceEqDiff,Nat.reduceBEq,reduceAdd,reduceSub,reduceLeDiff,reduceMul,af aa,ag aa,hr,hb,s00,e00,i00,d00,List.append_nil,bne,Int.reduceBEq])))
theorem KA  : den K 150 [.agg [.pv (.int .i64 10),.pv (.str []),.pv (.str []),.pv (.int .i64 0),.pv (.int .i64 0),.pv (.sl [])]] []=some (.ret (B (true)) []):=by
 have hr:Tryz.f150.results=#[.tmp 2]:=rfl
 have hb:den K 187 [.agg [.pv (.int .i64 10),.pv (.str []),.pv (.str []),.pv (.int .i64 0),.pv (.int .i64 0),.pv (.sl [])]] []=some (.ret (.agg [.pv (.int .i64 10),.pv (.str []),.pv (.str []),.pv (.int .i64 0),.pv (.int .i64 0),.pv (.sl [])]) []):=eX 10 [] [] 0 0 []
 refine ah rfl rfl Tryz.func150 rfl Tryz.ntmps150 ⟨by simp,by simp[LK]⟩ ?_
 simp only[go_sem,reduceLT,reduceEqDiff,Nat.reduceBEq,reduceAdd,reduceSub,reduceLeDiff,af aa,ag aa,hr,hb,s00,e00,i00,d00,List.append_nil,bne,Int.reduceBEq]
 all_goals (repeat (first|(rw[aV];rotate_left;(· kernel_rfl))|(first|rw[aR]|rw[aJ]|rw[aO];rotate_left;(· kernel_rfl);simp only[go_sem,reduceLT,reduceCtorEq,reduceEqDiff,Nat.reduceBEq,reduceAdd,reduceSub,reduceLeDiff,reduceMul,af aa,ag aa,hr,hb,s00,e00,i00,d00,List.append_nil,bne,Int.reduceBEq])))
theorem Ld (n:List UInt8) (hn:n.length<1000000000):den K 150 [.agg [.pv (.int .i64 2),.pv (.str n),.pv (.str []),.pv (.int .i64 0),.pv (.int .i64 0),.pv (.sl [])]] []=some (.ret (B (Tk.may ⟨1,n,0⟩&&Sl.low n==n)) []):=by
 have hr:Tryz.f150.results=#[.tmp 2]:=rfl
 have hb:den K 187 [.agg [.pv (.int .i64 2),.pv (.str n),.pv (.str []),.pv (.int .i64 0),.pv (.int .i64 0),.pv (.sl [])]] []=some (.ret (.agg [.pv (.int .i64 2),.pv (.str []),.pv (.str []),.pv (.int .i64 0),.pv (.int .i64 0),.pv (.sl [])]) []):=eX 2 n [] 0 0 []
 have h1:=lB n hn
 have h2:=rU n hn
 cases q1:Tk.may ⟨1,n,0⟩
 ·rw[q1] at h1;refine ah rfl rfl Tryz.func150 rfl Tryz.ntmps150 ⟨by simp,by simp[LK]⟩ ?_
  simp only[go_sem,reduceLT,reduceEqDiff,Nat.reduceBEq,reduceAdd,reduceSub,reduceLeDiff,af aa,ag aa,hr,hb,s00,e00,i00,d00,List.append_nil,bne,Int.reduceBEq,h1]
  all_goals (repeat (first|(rw[aV];rotate_left;(· kernel_rfl))|(first|rw[aR]|rw[aJ]|rw[aO];rotate_left;(· kernel_rfl);simp only[go_sem,reduceLT,reduceCtorEq,reduceEqDiff,Nat.reduceBEq,reduceAdd,reduceSub,reduceLeDiff,reduceMul,af aa,ag aa,hr,hb,s00,e00,i00,d00,List.append_nil,bne,Int.reduceBEq,h1])))
 ·rw[q1] at h1;refine ah rfl rfl Tryz.func150 rfl Tryz.ntmps150 ⟨by simp,by simp[LK]⟩ ?_
  simp only[go_sem,reduceLT,reduceEqDiff,Nat.reduceBEq,reduceAdd,reduceSub,reduceLeDiff,af aa,ag aa,hr,hb,s00,e00,i00,d00,List.append_nil,bne,Int.reduceBEq,h1,h2]
  all_goals (repeat (first|(rw[aV];rotate_left;(· kernel_rfl))|(first|rw[aR]|rw[aJ]|rw[aO];rotate_left;(· kernel_rfl);simp only[go_sem,reduceLT,reduceCtorEq,reduceEqDiff,Nat.reduceBEq,reduceAdd,reduceSub,reduceLeDiff,reduceMul,af aa,ag aa,hr,hb,s00,e00,i00,d00,List.append_nil,bne,Int.reduceBEq,h1,h2])))
theorem L5 (n:List UInt8) (hn:n.length<1000000000):den K 150 [.agg [.pv (.int .i64 3),.pv (.str n),.pv (.str []),.pv (.int .i64 0),.pv (.int .i64 0),.pv (.sl [])]] []=some (.ret (B (Tk.may ⟨4,n,0⟩)) []):=by
 have hr:Tryz.f150.results=#[.tmp 2]:=rfl
 have hb:den K 187 [.agg [.pv (.int .i64 3),.pv (.str n),.pv (.str []),.pv (.int .i64 0),.pv (.int .i64 0),.pv (.sl [])]] []=some (.ret (.agg [.pv (.int .i64 3),.pv (.str []),.pv (.str []),.pv (.int .i64 0),.pv (.int .i64 0),.pv (.sl [])]) []):=eX 3 n [] 0 0 []
 have h1:=lO 4 n 0 z64 hn
 refine ah rfl rfl Tryz.func150 rfl Tryz.ntmps150 ⟨by simp,by simp[LK]⟩ ?_
 simp only[go_sem,reduceLT,reduceEqDiff,Nat.reduceBEq,reduceAdd,reduceSub,reduceLeDiff,af aa,ag aa,hr,hb,s00,e00,i00,d00,List.append_nil,bne,Int.reduceBEq,h1]
 all_goals (repeat (first|(rw[aV];rotate_left;(· kernel_rfl))|(first|rw[aR]|rw[aJ]|rw[aO];rotate_left;(· kernel_rfl);simp only[go_sem,reduceLT,reduceCtorEq,reduceEqDiff,Nat.reduceBEq,reduceAdd,reduceSub,reduceLeDiff,reduceMul,af aa,ag aa,hr,hb,s00,e00,i00,d00,List.append_nil,bne,Int.reduceBEq,h1])))
theorem LL (n:List UInt8) (hn:n.length<1000000000):den K 150 [.agg [.pv (.int .i64 4),.pv (.str n),.pv (.str []),.pv (.int .i64 0),.pv (.int .i64 0),.pv (.sl [])]] []=some (.ret (B (Tk.may ⟨1,n,0⟩)) []):=by
 have hr:Tryz.f150.results=#[.tmp 2]:=rfl
 have hb:den K 187 [.agg [.pv (.int .i64 4),.pv (.str n),.pv (.str []),.pv (.int .i64 0),.pv (.int .i64 0),.pv (.sl [])]] []=some (.ret (.agg [.pv (.int .i64 4),.pv (.str []),.pv (.str []),.pv (.int .i64 0),.pv (.int .i64 0),.pv (.sl [])]) []):=eX 4 n [] 0 0 []
 have h1:=lB n hn
 refine ah rfl rfl Tryz.func150 rfl Tryz.ntmps150 ⟨by simp,by simp[LK]⟩ ?_
 simp only[go_sem,reduceLT,reduceEqDiff,Nat.reduceBEq,reduceAdd,reduceSub,reduceLeDiff,af aa,ag aa,hr,hb,s00,e00,i00,d00,List.append_nil,bne,Int.reduceBEq,h1]
 all_goals (repeat (first|(rw[aV];rotate_left;(· kernel_rfl))|(first|rw[aR]|rw[aJ]|rw[aO];rotate_left;(· kernel_rfl);simp only[go_sem,reduceLT,reduceCtorEq,reduceEqDiff,Nat.reduceBEq,reduceAdd,reduceSub,reduceLeDiff,reduceMul,af aa,ag aa,hr,hb,s00,e00,i00,d00,List.append_nil,bne,Int.reduceBEq,h1])))
theorem Lu (n:List UInt8) (hn:n.length<1000000000):den K 150 [.agg [.pv (.int .i64 5),.pv (.str n),.pv (.str []),.pv (.int .i64 0),.pv (.int .i64 0),.pv (.sl [])]] []=some (.ret (B (Tk.may ⟨1,n,0⟩)) []):=by
 have hr:Tryz.f150.results=#[.tmp 2]:=rfl
 have hb:den K 187 [.agg [.pv (.int .i64 5),.pv (.str n),.pv (.str []),.pv (.int .i64 0),.pv (.int .i64 0),.pv (.sl [])]] []=some (.ret (.agg [.pv (.int .i64 5),.pv (.str []),.pv (.str []),.pv (.int .i64 0),.pv (.int .i64 0),.pv (.sl [])]) []):=eX 5 n [] 0 0 []
 have h1:=lB n hn
 refine ah rfl rfl Tryz.func150 rfl Tryz.ntmps150 ⟨by simp,by simp[LK]⟩ ?_
 simp only[go_sem,reduceLT,reduceEqDiff,Nat.reduceBEq,reduceAdd,reduceSub,reduceLeDiff,af aa,ag aa,hr,hb,s00,e00,i00,d00,List.append_nil,bne,Int.reduceBEq,h1]
 all_goals (repeat (first|(rw[aV];rotate_left;(· kernel_rfl))|(first|rw[aR]|rw[aJ]|rw[aO];rotate_left;(· kernel_rfl);simp only[go_sem,reduceLT,reduceCtorEq,reduceEqDiff,Nat.reduceBEq,reduceAdd,reduceSub,reduceLeDiff,reduceMul,af aa,ag aa,hr,hb,s00,e00,i00,d00,List.append_nil,bne,Int.reduceBEq,h1])))
theorem KZ (n v:List UInt8) (hn:n.length<1000000000) (hv:v.length<1000000000):den K 150 [.agg [.pv (.int .i64 6),.pv (.str n),.pv (.str v),.pv (.int .i64 0),.pv (.int .i64 0),.pv (.sl [])]] []=some (.ret (B (Tk.may ⟨1,n,0⟩&&(Tk.may ⟨6,v,34⟩||Tk.may ⟨6,v,39⟩))) []):=by
 have hr:Tryz.f150.results=#[.tmp 2]:=rfl
 have hb:den K 187 [.agg [.pv (.int .i64 6),.pv (.str n),.pv (.str v),.pv (.int .i64 0),.pv (.int .i64 0),.pv (.sl [])]] []=some (.ret (.agg [.pv (.int .i64 6),.pv (.str []),.pv (.str []),.pv (.int .i64 0),.pv (.int .i64 0),.pv (.sl [])]) []):=eX 6 n v 0 0 []
 have h1:=lB n hn
 have h2:=GC v hv
 cases q1:Tk.may ⟨1,n,0⟩
 ·rw[q1] at h1;refine ah rfl rfl Tryz.func150 rfl Tryz.ntmps150 ⟨by simp,by simp[LK]⟩ ?_
  simp only[go_sem,reduceLT,reduceEqDiff,Nat.reduceBEq,reduceAdd,reduceSub,reduceLeDiff,af aa,ag aa,hr,hb,s00,e00,i00,d00,List.append_nil,bne,Int.reduceBEq,h1]
  all_goals (repeat (first|(rw[aV];rotate_left;(· kernel_rfl))|(first|rw[aR]|rw[aJ]|rw[aO];rotate_left;(· kernel_rfl);simp only[go_sem,reduceLT,reduceCtorEq,reduceEqDiff,Nat.reduceBEq,reduceAdd,reduceSub,reduceLeDiff,reduceMul,af aa,ag aa,hr,hb,s00,e00,i00,d00,List.append_nil,bne,Int.reduceBEq,h1])))
 ·rw[q1] at h1;refine ah rfl rfl Tryz.func150 rfl Tryz.ntmps150 ⟨by simp,by simp[LK]⟩ ?_
  simp only[go_sem,reduceLT,reduceEqDiff,Nat.reduceBEq,reduceAdd,reduceSub,reduceLeDiff,af aa,ag aa,hr,hb,s00,e00,i00,d00,List.append_nil,bne,Int.reduceBEq,h1,h2]
  all_goals (repeat (first|(rw[aV];rotate_left;(· kernel_rfl))|(first|rw[aR]|rw[aJ]|rw[aO];rotate_left;(· kernel_rfl);simp only[go_sem,reduceLT,reduceCtorEq,reduceEqDiff,Nat.reduceBEq,reduceAdd,reduceSub,reduceLeDiff,reduceMul,af aa,ag aa,hr,hb,s00,e00,i00,d00,List.append_nil,bne,Int.reduceBEq,h1,h2])))
theorem Lq (n:List UInt8):den K 150 [.agg [.pv (.int .i64 7),.pv (.str n),.pv (.str []),.pv (.int .i64 0),.pv (.int .i64 0),.pv (.sl [])]] []=some (.ret (B (decide (Sl.eW n))) []):=by
 have hr:Tryz.f150.results=#[.tmp 2]:=rfl
 have hb:den K 187 [.agg [.pv (.int .i64 7),.pv (.str n),.pv (.str []),.pv (.int .i64 0),.pv (.int .i64 0),.pv (.sl [])]] []=some (.ret (.agg [.pv (.int .i64 7),.pv (.str []),.pv (.str []),.pv (.int .i64 0),.pv (.int .i64 0),.pv (.sl [])]) []):=eX 7 n [] 0 0 []
 have h1:=sZ
 have h2:=uQ n
 refine ah rfl rfl Tryz.func150 rfl Tryz.ntmps150 ⟨by simp,by simp[LK]⟩ ?_
 simp only[go_sem,reduceLT,reduceEqDiff,Nat.reduceBEq,reduceAdd,reduceSub,reduceLeDiff,af aa,ag aa,hr,hb,s00,e00,i00,d00,List.append_nil,bne,Int.reduceBEq,h1,h2]
 all_goals (repeat (first|(rw[aV];rotate_left;(· kernel_rfl))|(first|rw[aR]|rw[aJ]|rw[aO];rotate_left;(· kernel_rfl);simp only[go_sem,reduceLT,reduceCtorEq,reduceEqDiff,Nat.reduceBEq,reduceAdd,reduceSub,reduceLeDiff,reduceMul,af aa,ag aa,hr,hb,s00,e00,i00,d00,List.append_nil,bne,Int.reduceBEq,h1,h2])))
theorem Mo (a b:Int):den K 150 [.agg [.pv (.int .i64 8),.pv (.str []),.pv (.str []),.pv (.int .i64 a),.pv (.int .i64 b),.pv (.sl [])]] []=some (.ret (B ((decide (-9999≤a)&&decide (a≤9999))&&(decide (-9999≤b)&&decide (b≤9999)))) []):=by
 have hr:Tryz.f150.results=#[.tmp 2]:=rfl
 have hb:den K 187 [.agg [.pv (.int .i64 8),.pv (.str []),.pv (.str []),.pv (.int .i64 a),.pv (.int .i64 b),.pv (.sl [])]] []=some (.ret (.agg [.pv (.int .i64 8),.pv (.str []),.pv (.str []),.pv (.int .i64 0),.pv (.int .i64 0),.pv (.sl [])]) []):=eX 8 [] [] a b []
 have h1:=rG a
 have h2:=rG b
 cases q1:(decide (-9999≤a)&&decide (a≤9999))
 ·rw[q1] at h1;refine ah rfl rfl Tryz.func150 rfl Tryz.ntmps150 ⟨by simp,by simp[LK]⟩ ?_
  simp only[go_sem,reduceLT,reduceEqDiff,Nat.reduceBEq,reduceAdd,reduceSub,reduceLeDiff,af aa,ag aa,hr,hb,s00,e00,i00,d00,List.append_nil,bne,Int.reduceBEq,h1]
  all_goals (repeat (first|(rw[aV];rotate_left;(· kernel_rfl))|(first|rw[aR]|rw[aJ]|rw[aO];rotate_left;(· kernel_rfl);simp only[go_sem,reduceLT,reduceCtorEq,reduceEqDiff,Nat.reduceBEq,reduceAdd,reduceSub,reduceLeDiff,reduceMul,af aa,ag aa,hr,hb,s00,e00,i00,d00,List.append_nil,bne,Int.reduceBEq,h1])))
 ·rw[q1] at h1;refine ah rfl rfl Tryz.func150 rfl Tryz.ntmps150 ⟨by simp,by simp[LK]⟩ ?_
  simp only[go_sem,reduceLT,reduceEqDiff,Nat.reduceBEq,reduceAdd,reduceSub,reduceLeDiff,af aa,ag aa,hr,hb,s00,e00,i00,d00,List.append_nil,bne,Int.reduceBEq,h1,h2]
  all_goals (repeat (first|(rw[aV];rotate_left;(· kernel_rfl))|(first|rw[aR]|rw[aJ]|rw[aO];rotate_left;(· kernel_rfl);simp only[go_sem,reduceLT,reduceCtorEq,reduceEqDiff,Nat.reduceBEq,reduceAdd,reduceSub,reduceLeDiff,reduceMul,af aa,ag aa,hr,hb,s00,e00,i00,d00,List.append_nil,bne,Int.reduceBEq,h1,h2])))
theorem x8 (lc:List (List PV)) (h:lc.length≠1):den K 150 [.agg [.pv (.int .i64 11),.pv (.str []),.pv (.str []),.pv (.int .i64 0),.pv (.int .i64 0),.pv (.sl lc)]] []=some (.ret (B false) []):=by
 have hr:Tryz.f150.results=#[.tmp 2]:=rfl
 have hb:den K 187 [.agg [.pv (.int .i64 11),.pv (.str []),.pv (.str []),.pv (.int .i64 0),.pv (.int .i64 0),.pv (.sl lc)]] []=some (.ret (.agg [.pv (.int .i64 11),.pv (.str []),.pv (.str []),.pv (.int .i64 0),.pv (.int .i64 0),.nils]) []):=eX 11 [] [] 0 0 lc
 have q1:((lc.length:Int)==1)=false:=by rw[beq_eq_false_iff_ne];omega
 refine ah rfl rfl Tryz.func150 rfl Tryz.ntmps150 ⟨by simp,by simp[LK]⟩ ?_
 simp only[go_sem,reduceLT,reduceEqDiff,Nat.reduceBEq,reduceAdd,reduceSub,reduceLeDiff,af aa,hr,hb,s00,e00,i00,d00,List.append_nil,bne,Int.reduceBEq,q1]
 all_goals (repeat (first|(rw[aV];rotate_left;(· kernel_rfl))|(first|rw[aR]|rw[aJ]|rw[aO];rotate_left;(· kernel_rfl);simp only[go_sem,reduceLT,reduceCtorEq,reduceEqDiff,Nat.reduceBEq,reduceAdd,reduceSub,reduceLeDiff,reduceMul,af aa,ag aa,hr,hb,s00,e00,i00,d00,List.append_nil,bne,Int.reduceBEq,q1])))
theorem F0 (k:Int) (n v:List UInt8) (a b:Int) (l:List (List PV)) (r:Bool) (hm:den K 150 [.agg [.pv (.int .i64 k),.pv (.str n),.pv (.str v),.pv (.int .i64 a),.pv (.int .i64 b),.pv (.sl l)]] []=some (.ret (B r) [])):den K 150 [.agg [.pv (.int .i64 11),.pv (.str []),.pv (.str []),.pv (.int .i64 0),.pv (.int .i64 0),.pv (.sl [[.int .i64 k,.str n,.str v,.int .i64 a,.int .i64 b,.sl l]])]] []=some (.ret (B (k != 11&&r)) []):=by
 have hr:Tryz.f150.results=#[.tmp 2]:=rfl
 have hb:den K 187 [.agg [.pv (.int .i64 11),.pv (.str []),.pv (.str []),.pv (.int .i64 0),.pv (.int .i64 0),.pv (.sl [[.int .i64 k,.str n,.str v,.int .i64 a,.int .i64 b,.sl l]])]] []=some (.ret (.agg [.pv (.int .i64 11),.pv (.str []),.pv (.str []),.pv (.int .i64 0),.pv (.int .i64 0),.nils]) []):=eX 11 [] [] 0 0 _
 have q1:(((0:Nat):Int)+1==1)=true:=rfl
 have q2:(((1:Nat):Int)==1)=true:=rfl
 cases q3:(k==11)
 ·simp only[bne,q3];refine ah rfl rfl Tryz.func150 rfl Tryz.ntmps150 ⟨by simp,by simp[LK]⟩ ?_
  simp only[go_sem,reduceLT,reduceEqDiff,Nat.reduceBEq,reduceAdd,reduceSub,reduceLeDiff,af aa,ag aa,hr,hb,s00,e00,i00,d00,List.append_nil,bne,Int.reduceBEq,q2,q3,le00,hm,Int.toNat_zero]
  all_goals (repeat (first|(rw[aV];rotate_left;(· kernel_rfl))|(first|rw[aR]|rw[aJ]|rw[aO];rotate_left;(· kernel_rfl);simp only[go_sem,reduceLT,reduceCtorEq,reduceEqDiff,Nat.reduceBEq,reduceAdd,reduceSub,reduceLeDiff,reduceMul,af aa,ag aa,hr,hb,s00,e00,i00,d00,List.append_nil,bne,Int.reduceBEq,q1,q2,q3,le00,hm,Int.toNat_zero])))
 ·simp only[bne,q3];refine ah rfl rfl Tryz.func150 rfl Tryz.ntmps150 ⟨by simp,by simp[LK]⟩ ?_
  simp only[go_sem,reduceLT,reduceEqDiff,Nat.reduceBEq,reduceAdd,reduceSub,reduceLeDiff,af aa,ag aa,hr,hb,s00,e00,i00,d00,List.append_nil,bne,Int.reduceBEq,q2,q3,le00,Int.toNat_zero]
  all_goals (repeat (first|(rw[aV];rotate_left;(· kernel_rfl))|(first|rw[aR]|rw[aJ]|rw[aO];rotate_left;(· kernel_rfl);simp only[go_sem,reduceLT,reduceCtorEq,reduceEqDiff,Nat.reduceBEq,reduceAdd,reduceSub,reduceLeDiff,reduceMul,af aa,ag aa,hr,hb,s00,e00,i00,d00,List.append_nil,bne,Int.reduceBEq,q1,q2,q3,le00,Int.toNat_zero])))
theorem Bo (k:Int) (hk:k<1∨11<k):den K 150 [.agg [.pv (.int .i64 k),.pv (.str []),.pv (.str []),.pv (.int .i64 0),.pv (.int .i64 0),.pv (.sl [])]] []=some (.ret (B false) []):=by
 have hr:Tryz.f150.results=#[.tmp 2]:=rfl
 have hb:=eX k [] [] 0 0 []
 have hn:bN k []=[]:=by unfold bN;simp
 have hv:bV k []=[]:=by unfold bV;simp
 have ha:bI k 0=0:=by unfold bI;simp
 have hl:bL k []=.pv (.sl []):=if_neg (by omega)
 rw[hn,hv,ha,hl] at hb;have e1:(k==1)=false:=by rw[beq_eq_false_iff_ne];omega
 have e2:(k==2)=false:=by rw[beq_eq_false_iff_ne];omega
 have e3:(k==3)=false:=by rw[beq_eq_false_iff_ne];omega
 have e4:(k==4)=false:=by rw[beq_eq_false_iff_ne];omega
 have e5:(k==5)=false:=by rw[beq_eq_false_iff_ne];omega
 have e6:(k==6)=false:=by rw[beq_eq_false_iff_ne];omega
 have e7:(k==7)=false:=by rw[beq_eq_false_iff_ne];omega
 have e8:(k==8)=false:=by rw[beq_eq_false_iff_ne];omega
 have e9:(k==9)=false:=by rw[beq_eq_false_iff_ne];omega
 have e10:(k==10)=false:=by rw[beq_eq_false_iff_ne];omega
 have e11:(k==11)=false:=by rw[beq_eq_false_iff_ne];omega
 refine ah rfl rfl Tryz.func150 rfl Tryz.ntmps150 ⟨by simp,by simp[LK]⟩ ?_
 simp only[go_sem,reduceLT,reduceEqDiff,Nat.reduceBEq,reduceAdd,reduceSub,reduceLeDiff,af aa,ag aa,hr,hb,s00,e00,i00,d00,List.append_nil,bne,e1,e2,e3,e4,e5,e6,e7,e8,e9,e10,e11]
 all_goals (repeat (first|(rw[aV];rotate_left;(· kernel_rfl))|(first|rw[aR]|rw[aJ]|rw[aO];rotate_left;(· kernel_rfl);simp only[go_sem,reduceLT,reduceCtorEq,reduceEqDiff,Nat.reduceBEq,reduceAdd,reduceSub,reduceLeDiff,reduceMul,af aa,ag aa,hr,hb,s00,e00,i00,d00,List.append_nil,bne,Int.reduceBEq,e1,e2,e3,e4,e5,e6,e7,e8,e9,e10,e11])))
end Go.Abs
