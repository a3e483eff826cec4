/-
  WHAT THE FUNCTIONS COMPUTE, layer 4: whether a simple selector may be, as the program tells. (Printed by gens9.py.)
-/
import Derived.Test.YtlomcifkckgneaaGreatDoorRc4
import Derived.Test.YtlomcifkckgneaaGreatDoorRc6
import Derived.Test.YtlomcifkckgneaaGreatDoorRc12
import Derived.Test.YtlomcifkckgneaaGreatDoorRc16
set_option linter.unusedSimpArgs false
set_option linter.unusedVariables false
namespace Go.Abs
open Go Go.Proofs
set_option maxRecDepth 10000
attribute [local go_sem] cM bt ck bJ bH cL cq co aR bU bO ci cN bF opd avOf cvOf St.degAt St.put okPV dA okAV cZ cY cX cG aH if_true Bool.false_eq_true if_false Option.map_some Option.map_none Option.bind_some Option.bind_none dC dr upd List.toList_toArray cA steal bm mvB c8 cF cE AV.deg CV.deg AV.gv AV.isIter cy cj bK List.length_nil List.length_cons List.filterMap_cons List.filterMap_nil beq_iff_eq List.getElem?_cons_zero List.getElem?_cons_succ Option.getD_some dE ev Bool.false_and Bool.and_false Bool.and_self K_P eN bZ cz bh lend back idx dedup AV.ren CV.ren TV.ren AV.ptrs CV.ptrs cH AV.flat CV.flat cf bQ aV cK cQ dM bW aM bX bc bv bR bd d8 CV.pv? content bo ownT aW reps pvs chunks bM leave dU cw cV bG bg TV.deg TV.av LK CV.plain CV.noBld cJ dX bound List.map_cons List.map_nil List.all_cons List.all_nil List.any_cons List.any_nil List.contains_cons List.contains_nil List.elem_cons List.elem_nil List.cons_append List.nil_append List.append_nil List.flatMap_cons List.flatMap_nil List.zip_cons_cons List.zip_nil_left List.zip_nil_right List.take_succ_cons List.take_zero List.take_nil List.drop_succ_cons List.drop_zero List.drop_nil List.isEmpty_nil List.isEmpty_cons Bool.and_true Bool.true_and Bool.or_true Bool.true_or Bool.or_false Bool.false_or Bool.not_true Bool.not_false Nat.add_zero Nat.zero_add Option.isNone_none Option.isNone_some Option.getD_none true_and and_true not_true_eq_false not_false_eq_true decide_true decide_false Nat.le_refl and_self Bool.not_eq_true Nat.sub_self or_true true_or Option.some.injEq List.length_map List.nil_eq and_false false_and AV.live CV.live CV.liveIn dq aX Option.orElse_some Option.orElse_none head a7 a6 Int.lt_irrefl List.length_append ite_self dz ce cO bu Key.clash Key.sees Key.writes Nat.lt_irrefl gt_iff_lt cg dc false_or or_false beq_self_eq_true Bool.true_beq Bool.false_beq GH D2 dw ag cS cx bC dG aI dI d9 ed eI fA dS E5 b7 eF FU xd EE xE nG Bf we
theorem lf (k:Int) (s:List UInt8) (n:Int) (hn:I64 n) (hs:s.length<1000000000):den K 189 [I k,T s,I n] []=some (.ret (B (Tk.may ⟨k,s,n⟩)) []):=by
 have hr:Tryz.f189.results = #[.tmp 6]:=rfl
 have h:=Iv ⟨k,s,n⟩ hn hs
 simp only[Tok.cells] at h
 refine ai rfl rfl Tryz.func189 rfl Tryz.ntmps189 ⟨by simp,by simp[LK]⟩ ?_
 simp only[go_sem,Nat.reduceLT,reduceCtorEq,Nat.reduceEqDiff,Nat.reduceBEq,Nat.reduceAdd,Nat.reduceLeDiff,af ab aj,hr,h]
theorem k9 (s:List UInt8) (hs:s.length<1000000000):den K 188 [T s] []=some (.ret (B (Tk.may ⟨1,s,0⟩)) []):=by
 have hr:Tryz.f188.results = #[.tmp 2]:=rfl
 have h:=lf 1 s 0 z64 hs
 refine ai rfl rfl Tryz.func188 rfl Tryz.ntmps188 ⟨by simp,by simp[LK]⟩ ?_
 simp only[go_sem,Nat.reduceLT,reduceCtorEq,Nat.reduceEqDiff,Nat.reduceBEq,Nat.reduceAdd,hr,h]
theorem EV (s:List UInt8) (hs:s.length<1000000000):den K 190 [T s] []=some (.ret (B (Tk.may ⟨6,s,34⟩||Tk.may ⟨6,s,39⟩)) []):=by
 have hr:Tryz.f190.results = #[.tmp 2]:=rfl
 have h1:=lf 6 s 34 ⟨by decide,by decide⟩ hs
 have h2:=lf 6 s 39 ⟨by decide,by decide⟩ hs
 cases e:Tk.may ⟨6,s,34⟩
 ·rw[e] at h1
  refine ai rfl rfl Tryz.func190 rfl Tryz.ntmps190 ⟨by simp,by simp[LK]⟩ ?_
  simp only[go_sem,Nat.reduceLT,reduceCtorEq,Nat.reduceEqDiff,Nat.reduceBEq,Nat.reduceAdd,hr,h1,h2]
 ·rw[e] at h1
  refine ai rfl rfl Tryz.func190 rfl Tryz.ntmps190 ⟨by simp,by simp[LK]⟩ ?_
  simp only[go_sem,Nat.reduceLT,reduceCtorEq,Nat.reduceEqDiff,Nat.reduceBEq,Nat.reduceAdd,hr,h1]
def bN (k:Int) (n:List UInt8):List UInt8:=if k=2∨k=3∨k=4∨k=5∨k=6∨k=7 then [] else n
def bV (k:Int) (v:List UInt8):List UInt8:=if k=6 then [] else v
def bI (k a:Int):Int:=if k=8 then 0 else a
def bL (k:Int) (lc:List (List PV)):CV:=if k=11 then .nils else .pv (.sl lc)
set_option maxHeartbeats 8000000 in
theorem eu (k:Int) (n v:List UInt8) (a b:Int) (lc:List (List PV)):den K 187 [.agg [.pv (.int .i64 k),.pv (.str n),.pv (.str v),.pv (.int .i64 a),.pv (.int .i64 b),.pv (.sl lc)]] []=some (.ret (.agg [.pv (.int .i64 k),.pv (.str (bN k n)),.pv (.str (bV k v)),.pv (.int .i64 (bI k a)),.pv (.int .i64 (bI k b)),bL k lc]) []):=by
 have hr:Tryz.f187.results = #[.cell 2 52]:=rfl
 by_cases k2:k=2
 ·subst k2
  show _=(some (.ret (.agg [.pv (.int .i64 2),.pv (.str []),.pv (.str v),.pv (.int .i64 a),.pv (.int .i64 b),.pv (.sl lc)]) []):Option Res)
  refine ai rfl rfl Tryz.func187 rfl Tryz.ntmps187 ⟨by simp,by simp[LK]⟩ ?_
  simp only[go_sem,Nat.reduceLT,Nat.reduceEqDiff,Nat.reduceBEq,Nat.reduceAdd,Nat.reduceSub,Nat.reduceLeDiff,hr,Int.reduceBEq]
 by_cases k3:k=3
 ·subst k3
  show _=(some (.ret (.agg [.pv (.int .i64 3),.pv (.str []),.pv (.str v),.pv (.int .i64 a),.pv (.int .i64 b),.pv (.sl lc)]) []):Option Res)
  refine ai rfl rfl Tryz.func187 rfl Tryz.ntmps187 ⟨by simp,by simp[LK]⟩ ?_
  simp only[go_sem,Nat.reduceLT,Nat.reduceEqDiff,Nat.reduceBEq,Nat.reduceAdd,Nat.reduceSub,Nat.reduceLeDiff,hr,Int.reduceBEq]
 by_cases k4:k=4
 ·subst k4
  show _=(some (.ret (.agg [.pv (.int .i64 4),.pv (.str []),.pv (.str v),.pv (.int .i64 a),.pv (.int .i64 b),.pv (.sl lc)]) []):Option Res)
  refine ai rfl rfl Tryz.func187 rfl Tryz.ntmps187 ⟨by simp,by simp[LK]⟩ ?_
  simp only[go_sem,Nat.reduceLT,Nat.reduceEqDiff,Nat.reduceBEq,Nat.reduceAdd,Nat.reduceSub,Nat.reduceLeDiff,hr,Int.reduceBEq]
 by_cases k5:k=5
 ·subst k5
  show _=(some (.ret (.agg [.pv (.int .i64 5),.pv (.str []),.pv (.str v),.pv (.int .i64 a),.pv (.int .i64 b),.pv (.sl lc)]) []):Option Res)
  refine ai rfl rfl Tryz.func187 rfl Tryz.ntmps187 ⟨by simp,by simp[LK]⟩ ?_
  simp only[go_sem,Nat.reduceLT,Nat.reduceEqDiff,Nat.reduceBEq,Nat.reduceAdd,Nat.reduceSub,Nat.reduceLeDiff,hr,Int.reduceBEq]
 by_cases k6:k=6
 ·subst k6
  show _=(some (.ret (.agg [.pv (.int .i64 6),.pv (.str []),.pv (.str []),.pv (.int .i64 a),.pv (.int .i64 b),.pv (.sl lc)]) []):Option Res)
  refine ai rfl rfl Tryz.func187 rfl Tryz.ntmps187 ⟨by simp,by simp[LK]⟩ ?_
  simp only[go_sem,Nat.reduceLT,Nat.reduceEqDiff,Nat.reduceBEq,Nat.reduceAdd,Nat.reduceSub,Nat.reduceLeDiff,hr,Int.reduceBEq]
 by_cases k7:k=7
 ·subst k7
  show _=(some (.ret (.agg [.pv (.int .i64 7),.pv (.str []),.pv (.str v),.pv (.int .i64 a),.pv (.int .i64 b),.pv (.sl lc)]) []):Option Res)
  refine ai rfl rfl Tryz.func187 rfl Tryz.ntmps187 ⟨by simp,by simp[LK]⟩ ?_
  simp only[go_sem,Nat.reduceLT,Nat.reduceEqDiff,Nat.reduceBEq,Nat.reduceAdd,Nat.reduceSub,Nat.reduceLeDiff,hr,Int.reduceBEq]
 by_cases k8:k=8
 ·subst k8
  show _=(some (.ret (.agg [.pv (.int .i64 8),.pv (.str n),.pv (.str v),.pv (.int .i64 0),.pv (.int .i64 0),.pv (.sl lc)]) []):Option Res)
  refine ai rfl rfl Tryz.func187 rfl Tryz.ntmps187 ⟨by simp,by simp[LK]⟩ ?_
  simp only[go_sem,Nat.reduceLT,Nat.reduceEqDiff,Nat.reduceBEq,Nat.reduceAdd,Nat.reduceSub,Nat.reduceLeDiff,hr,Int.reduceBEq]
 by_cases k11:k=11
 ·subst k11
  show _=(some (.ret (.agg [.pv (.int .i64 11),.pv (.str n),.pv (.str v),.pv (.int .i64 a),.pv (.int .i64 b),.nils]) []):Option Res)
  refine ai rfl rfl Tryz.func187 rfl Tryz.ntmps187 ⟨by simp,by simp[LK]⟩ ?_
  simp only[go_sem,Nat.reduceLT,Nat.reduceEqDiff,Nat.reduceBEq,Nat.reduceAdd,Nat.reduceSub,Nat.reduceLeDiff,hr,Int.reduceBEq]
 have hn:bN k n=n:=if_neg (by rintro (h|h|h|h|h|h)<;>contradiction)
 have hv:bV k v=v:=if_neg k6
 have ha:bI k a=a:=if_neg k8
 have hb:bI k b=b:=if_neg k8
 have hl:bL k lc = .pv (.sl lc):=if_neg k11
 rw[hn,hv,ha,hb,hl]
 have e2:(k==2)=false:=by rw[beq_eq_false_iff_ne];exact k2
 have e3:(k==3)=false:=by rw[beq_eq_false_iff_ne];exact k3
 have e4:(k==4)=false:=by rw[beq_eq_false_iff_ne];exact k4
 have e5:(k==5)=false:=by rw[beq_eq_false_iff_ne];exact k5
 have e6:(k==6)=false:=by rw[beq_eq_false_iff_ne];exact k6
 have e7:(k==7)=false:=by rw[beq_eq_false_iff_ne];exact k7
 have e8:(k==8)=false:=by rw[beq_eq_false_iff_ne];exact k8
 have e11:(k==11)=false:=by rw[beq_eq_false_iff_ne];exact k11
 refine ai rfl rfl Tryz.func187 rfl Tryz.ntmps187 ⟨by simp,by simp[LK]⟩ ?_
 simp only[go_sem,Nat.reduceLT,Nat.reduceEqDiff,Nat.reduceBEq,Nat.reduceAdd,Nat.reduceSub,Nat.reduceLeDiff,hr,e2,e3,e4,e5,e6,e7,e8,e11]
theorem K5 (k:Int) (n:List UInt8):(bN k n).length≤n.length:=by unfold bN;split<;>simp
theorem KX (k:Int) (v:List UInt8):(bV k v).length≤v.length:=by unfold bV;split<;>simp
def PreM (k:Int) (n v:List UInt8) (a b:Int) (lc:List (List PV)):Prop:=bN k n++bV k v=[]∧bI k a=0∧bI k b=0∧(k=11∨lc=[])
set_option maxHeartbeats 8000000 in
theorem Ih (k:Int) (n v:List UInt8) (a b:Int) (lc:List (List PV)) (hn:n.length≤100000000) (hv:v.length≤100000000) (hp : ¬ PreM k n v a b lc):den K 150 [.agg [.pv (.int .i64 k),.pv (.str n),.pv (.str v),.pv (.int .i64 a),.pv (.int .i64 b),.pv (.sl lc)]] []=some (.ret (B false) []):=by
 have hr:Tryz.f150.results = #[.tmp 2]:=rfl
 have hb:=eu k n v a b lc
 have h1:=K5 k n
 have h2:=KX k v
 have hs:(bN k n).length+(bV k v).length<bT:=by unfold bT;omega
 have hL : ∃ c:List (List PV),bL k lc = .nils∨bL k lc = .pv (.sl c):=by unfold bL;split;exact ⟨[],.inl rfl⟩;exact ⟨lc,.inr rfl⟩
 obtain ⟨c,hL⟩:=hL
 cases q1:(bN k n++bV k v==[])
 ·rcases hL with hL|hL
  all_goals
   rw[hL] at hb
   refine ai rfl rfl Tryz.func150 rfl Tryz.ntmps150 ⟨by simp,by simp[LK]⟩ ?_
   simp only[go_sem,Nat.reduceLT,Nat.reduceEqDiff,Nat.reduceBEq,Nat.reduceAdd,Nat.reduceSub,Nat.reduceLeDiff,hr,hb,hs,q1,bne]
 cases q2:(bI k a==0)
 ·rcases hL with hL|hL
  all_goals
   rw[hL] at hb
   refine ai rfl rfl Tryz.func150 rfl Tryz.ntmps150 ⟨by simp,by simp[LK]⟩ ?_
   simp only[go_sem,Nat.reduceLT,Nat.reduceEqDiff,Nat.reduceBEq,Nat.reduceAdd,Nat.reduceSub,Nat.reduceLeDiff,hr,hb,hs,q1,q2,bne]
 cases q3:(bI k b==0)
 ·rcases hL with hL|hL
  all_goals
   rw[hL] at hb
   refine ai rfl rfl Tryz.func150 rfl Tryz.ntmps150 ⟨by simp,by simp[LK]⟩ ?_
   simp only[go_sem,Nat.reduceLT,Nat.reduceEqDiff,Nat.reduceBEq,Nat.reduceAdd,Nat.reduceSub,Nat.reduceLeDiff,hr,hb,hs,q1,q2,q3,bne]
 have hk : ¬ k=11:=fun h=>hp ⟨by simpa using q1,by simpa using q2,by simpa using q3,.inl h⟩
 have hl:lc≠[]:=fun h=>hp ⟨by simpa using q1,by simpa using q2,by simpa using q3,.inr h⟩
 have q4:decide (0<(lc.length:Int))=true:=decide_eq_true (by
  have:lc.length≠0:=fun h=>hl (List.eq_nil_of_length_eq_zero h)
  omega)
 have q5:bL k lc = .pv (.sl lc):=if_neg hk
 rw[q5] at hb
 refine ai rfl rfl Tryz.func150 rfl Tryz.ntmps150 ⟨by simp,by simp[LK]⟩ ?_
 simp only[go_sem,Nat.reduceLT,Nat.reduceEqDiff,Nat.reduceBEq,Nat.reduceAdd,Nat.reduceSub,Nat.reduceLeDiff,ah aa,hr,hb,hs,q1,q2,q3,q4,bne]
set_option maxHeartbeats 8000000 in
theorem Ko  : den K 150 [.agg [.pv (.int .i64 1),.pv (.str []),.pv (.str []),.pv (.int .i64 0),.pv (.int .i64 0),.pv (.sl [])]] []=some (.ret (B (true)) []):=by
 have hr:Tryz.f150.results = #[.tmp 2]:=rfl
 have hb:den K 187 [.agg [.pv (.int .i64 1),.pv (.str []),.pv (.str []),.pv (.int .i64 0),.pv (.int .i64 0),.pv (.sl [])]] []=some (.ret (.agg [.pv (.int .i64 1),.pv (.str []),.pv (.str []),.pv (.int .i64 0),.pv (.int .i64 0),.pv (.sl [])]) []):=eu 1 [] [] 0 0 []
 refine ai rfl rfl Tryz.func150 rfl Tryz.ntmps150 ⟨by simp,by simp[LK]⟩ ?_
 simp only[go_sem,Nat.reduceLT,Nat.reduceEqDiff,Nat.reduceBEq,Nat.reduceAdd,Nat.reduceSub,Nat.reduceLeDiff,ah aa,ae aa,hr,hb,s00,e00,i00,d00,List.append_nil,bne,Int.reduceBEq]
 all_goals (repeat (first|(rw[aL];rotate_left;(· kernel_rfl))|(first|rw[aO]|rw[aJ]|rw[aK];rotate_left;(· kernel_rfl);simp only[go_sem,Nat.reduceLT,reduceCtorEq,Nat.reduceEqDiff,Nat.reduceBEq,Nat.reduceAdd,Nat.reduceSub,Nat.reduceLeDiff,Nat.reduceMul,ah aa,ae aa,hr,hb,s00,e00,i00,d00,List.append_nil,bne,Int.reduceBEq])))
set_option maxHeartbeats 8000000 in
theorem JM  : den K 150 [.agg [.pv (.int .i64 9),.pv (.str []),.pv (.str []),.pv (.int .i64 0),.pv (.int .i64 0),.pv (.sl [])]] []=some (.ret (B (true)) []):=by
 have hr:Tryz.f150.results = #[.tmp 2]:=rfl
 have hb:den K 187 [.agg [.pv (.int .i64 9),.pv (.str []),.pv (.str []),.pv (.int .i64 0),.pv (.int .i64 0),.pv (.sl [])]] []=some (.ret (.agg [.pv (.int .i64 9),.pv (.str []),.pv (.str []),.pv (.int .i64 0),.pv (.int .i64 0),.pv (.sl [])]) []):=eu 9 [] [] 0 0 []
 refine ai rfl rfl Tryz.func150 rfl Tryz.ntmps150 ⟨by simp,by simp[LK]⟩ ?_
 simp only[go_sem,Nat.reduceLT,Nat.reduceEqDiff,Nat.reduceBEq,Nat.reduceAdd,Nat.reduceSub,Nat.reduceLeDiff,ah aa,ae aa,hr,hb,s00,e00,i00,d00,List.append_nil,bne,Int.reduceBEq]
 all_goals (repeat (first|(rw[aL];rotate_left;(· kernel_rfl))|(first|rw[aO]|rw[aJ]|rw[aK];rotate_left;(· kernel_rfl);simp only[go_sem,Nat.reduceLT,reduceCtorEq,Nat.reduceEqDiff,Nat.reduceBEq,Nat.reduceAdd,Nat.reduceSub,Nat.reduceLeDiff,Nat.reduceMul,ah aa,ae aa,hr,hb,s00,e00,i00,d00,List.append_nil,bne,Int.reduceBEq])))
set_option maxHeartbeats 8000000 in
theorem Jb  : den K 150 [.agg [.pv (.int .i64 10),.pv (.str []),.pv (.str []),.pv (.int .i64 0),.pv (.int .i64 0),.pv (.sl [])]] []=some (.ret (B (true)) []):=by
 have hr:Tryz.f150.results = #[.tmp 2]:=rfl
 have hb:den K 187 [.agg [.pv (.int .i64 10),.pv (.str []),.pv (.str []),.pv (.int .i64 0),.pv (.int .i64 0),.pv (.sl [])]] []=some (.ret (.agg [.pv (.int .i64 10),.pv (.str []),.pv (.str []),.pv (.int .i64 0),.pv (.int .i64 0),.pv (.sl [])]) []):=eu 10 [] [] 0 0 []
 refine ai rfl rfl Tryz.func150 rfl Tryz.ntmps150 ⟨by simp,by simp[LK]⟩ ?_
 simp only[go_sem,Nat.reduceLT,Nat.reduceEqDiff,Nat.reduceBEq,Nat.reduceAdd,Nat.reduceSub,Nat.reduceLeDiff,ah aa,ae aa,hr,hb,s00,e00,i00,d00,List.append_nil,bne,Int.reduceBEq]
 all_goals (repeat (first|(rw[aL];rotate_left;(· kernel_rfl))|(first|rw[aO]|rw[aJ]|rw[aK];rotate_left;(· kernel_rfl);simp only[go_sem,Nat.reduceLT,reduceCtorEq,Nat.reduceEqDiff,Nat.reduceBEq,Nat.reduceAdd,Nat.reduceSub,Nat.reduceLeDiff,Nat.reduceMul,ah aa,ae aa,hr,hb,s00,e00,i00,d00,List.append_nil,bne,Int.reduceBEq])))
set_option maxHeartbeats 8000000 in
theorem Jw (n:List UInt8) (hn:n.length<1000000000):den K 150 [.agg [.pv (.int .i64 2),.pv (.str n),.pv (.str []),.pv (.int .i64 0),.pv (.int .i64 0),.pv (.sl [])]] []=some (.ret (B (Tk.may ⟨1,n,0⟩&&Sl.low n==n)) []):=by
 have hr:Tryz.f150.results = #[.tmp 2]:=rfl
 have hb:den K 187 [.agg [.pv (.int .i64 2),.pv (.str n),.pv (.str []),.pv (.int .i64 0),.pv (.int .i64 0),.pv (.sl [])]] []=some (.ret (.agg [.pv (.int .i64 2),.pv (.str []),.pv (.str []),.pv (.int .i64 0),.pv (.int .i64 0),.pv (.sl [])]) []):=eu 2 n [] 0 0 []
 have h1:=k9 n hn
 have h2:=r8 n hn
 cases q1:Tk.may ⟨1,n,0⟩
 ·rw[q1] at h1
  refine ai rfl rfl Tryz.func150 rfl Tryz.ntmps150 ⟨by simp,by simp[LK]⟩ ?_
  simp only[go_sem,Nat.reduceLT,Nat.reduceEqDiff,Nat.reduceBEq,Nat.reduceAdd,Nat.reduceSub,Nat.reduceLeDiff,ah aa,ae aa,hr,hb,s00,e00,i00,d00,List.append_nil,bne,Int.reduceBEq,h1]
  all_goals (repeat (first|(rw[aL];rotate_left;(· kernel_rfl))|(first|rw[aO]|rw[aJ]|rw[aK];rotate_left;(· kernel_rfl);simp only[go_sem,Nat.reduceLT,reduceCtorEq,Nat.reduceEqDiff,Nat.reduceBEq,Nat.reduceAdd,Nat.reduceSub,Nat.reduceLeDiff,Nat.reduceMul,ah aa,ae aa,hr,hb,s00,e00,i00,d00,List.append_nil,bne,Int.reduceBEq,h1])))
 ·rw[q1] at h1
  refine ai rfl rfl Tryz.func150 rfl Tryz.ntmps150 ⟨by simp,by simp[LK]⟩ ?_
  simp only[go_sem,Nat.reduceLT,Nat.reduceEqDiff,Nat.reduceBEq,Nat.reduceAdd,Nat.reduceSub,Nat.reduceLeDiff,ah aa,ae aa,hr,hb,s00,e00,i00,d00,List.append_nil,bne,Int.reduceBEq,h1,h2]
  all_goals (repeat (first|(rw[aL];rotate_left;(· kernel_rfl))|(first|rw[aO]|rw[aJ]|rw[aK];rotate_left;(· kernel_rfl);simp only[go_sem,Nat.reduceLT,reduceCtorEq,Nat.reduceEqDiff,Nat.reduceBEq,Nat.reduceAdd,Nat.reduceSub,Nat.reduceLeDiff,Nat.reduceMul,ah aa,ae aa,hr,hb,s00,e00,i00,d00,List.append_nil,bne,Int.reduceBEq,h1,h2])))
set_option maxHeartbeats 8000000 in
theorem KC (n:List UInt8) (hn:n.length<1000000000):den K 150 [.agg [.pv (.int .i64 3),.pv (.str n),.pv (.str []),.pv (.int .i64 0),.pv (.int .i64 0),.pv (.sl [])]] []=some (.ret (B (Tk.may ⟨4,n,0⟩)) []):=by
 have hr:Tryz.f150.results = #[.tmp 2]:=rfl
 have hb:den K 187 [.agg [.pv (.int .i64 3),.pv (.str n),.pv (.str []),.pv (.int .i64 0),.pv (.int .i64 0),.pv (.sl [])]] []=some (.ret (.agg [.pv (.int .i64 3),.pv (.str []),.pv (.str []),.pv (.int .i64 0),.pv (.int .i64 0),.pv (.sl [])]) []):=eu 3 n [] 0 0 []
 have h1:=lf 4 n 0 z64 hn
 refine ai rfl rfl Tryz.func150 rfl Tryz.ntmps150 ⟨by simp,by simp[LK]⟩ ?_
 simp only[go_sem,Nat.reduceLT,Nat.reduceEqDiff,Nat.reduceBEq,Nat.reduceAdd,Nat.reduceSub,Nat.reduceLeDiff,ah aa,ae aa,hr,hb,s00,e00,i00,d00,List.append_nil,bne,Int.reduceBEq,h1]
 all_goals (repeat (first|(rw[aL];rotate_left;(· kernel_rfl))|(first|rw[aO]|rw[aJ]|rw[aK];rotate_left;(· kernel_rfl);simp only[go_sem,Nat.reduceLT,reduceCtorEq,Nat.reduceEqDiff,Nat.reduceBEq,Nat.reduceAdd,Nat.reduceSub,Nat.reduceLeDiff,Nat.reduceMul,ah aa,ae aa,hr,hb,s00,e00,i00,d00,List.append_nil,bne,Int.reduceBEq,h1])))
set_option maxHeartbeats 8000000 in
theorem KA (n:List UInt8) (hn:n.length<1000000000):den K 150 [.agg [.pv (.int .i64 4),.pv (.str n),.pv (.str []),.pv (.int .i64 0),.pv (.int .i64 0),.pv (.sl [])]] []=some (.ret (B (Tk.may ⟨1,n,0⟩)) []):=by
 have hr:Tryz.f150.results = #[.tmp 2]:=rfl
 have hb:den K 187 [.agg [.pv (.int .i64 4),.pv (.str n),.pv (.str []),.pv (.int .i64 0),.pv (.int .i64 0),.pv (.sl [])]] []=some (.ret (.agg [.pv (.int .i64 4),.pv (.str []),.pv (.str []),.pv (.int .i64 0),.pv (.int .i64 0),.pv (.sl [])]) []):=eu 4 n [] 0 0 []
 have h1:=k9 n hn
 refine ai rfl rfl Tryz.func150 rfl Tryz.ntmps150 ⟨by simp,by simp[LK]⟩ ?_
 simp only[go_sem,Nat.reduceLT,Nat.reduceEqDiff,Nat.reduceBEq,Nat.reduceAdd,Nat.reduceSub,Nat.reduceLeDiff,ah aa,ae aa,hr,hb,s00,e00,i00,d00,List.append_nil,bne,Int.reduceBEq,h1]
 all_goals (repeat (first|(rw[aL];rotate_left;(· kernel_rfl))|(first|rw[aO]|rw[aJ]|rw[aK];rotate_left;(· kernel_rfl);simp only[go_sem,Nat.reduceLT,reduceCtorEq,Nat.reduceEqDiff,Nat.reduceBEq,Nat.reduceAdd,Nat.reduceSub,Nat.reduceLeDiff,Nat.reduceMul,ah aa,ae aa,hr,hb,s00,e00,i00,d00,List.append_nil,bne,Int.reduceBEq,h1])))
set_option maxHeartbeats 8000000 in
theorem KB (n:List UInt8) (hn:n.length<1000000000):den K 150 [.agg [.pv (.int .i64 5),.pv (.str n),.pv (.str []),.pv (.int .i64 0),.pv (.int .i64 0),.pv (.sl [])]] []=some (.ret (B (Tk.may ⟨1,n,0⟩)) []):=by
 have hr:Tryz.f150.results = #[.tmp 2]:=rfl
 have hb:den K 187 [.agg [.pv (.int .i64 5),.pv (.str n),.pv (.str []),.pv (.int .i64 0),.pv (.int .i64 0),.pv (.sl [])]] []=some (.ret (.agg [.pv (.int .i64 5),.pv (.str []),.pv (.str []),.pv (.int .i64 0),.pv (.int .i64 0),.pv (.sl [])]) []):=eu 5 n [] 0 0 []
 have h1:=k9 n hn
 refine ai rfl rfl Tryz.func150 rfl Tryz.ntmps150 ⟨by simp,by simp[LK]⟩ ?_
 simp only[go_sem,Nat.reduceLT,Nat.reduceEqDiff,Nat.reduceBEq,Nat.reduceAdd,Nat.reduceSub,Nat.reduceLeDiff,ah aa,ae aa,hr,hb,s00,e00,i00,d00,List.append_nil,bne,Int.reduceBEq,h1]
 all_goals (repeat (first|(rw[aL];rotate_left;(· kernel_rfl))|(first|rw[aO]|rw[aJ]|rw[aK];rotate_left;(· kernel_rfl);simp only[go_sem,Nat.reduceLT,reduceCtorEq,Nat.reduceEqDiff,Nat.reduceBEq,Nat.reduceAdd,Nat.reduceSub,Nat.reduceLeDiff,Nat.reduceMul,ah aa,ae aa,hr,hb,s00,e00,i00,d00,List.append_nil,bne,Int.reduceBEq,h1])))
set_option maxHeartbeats 8000000 in
theorem JL (n v:List UInt8) (hn:n.length<1000000000) (hv:v.length<1000000000):den K 150 [.agg [.pv (.int .i64 6),.pv (.str n),.pv (.str v),.pv (.int .i64 0),.pv (.int .i64 0),.pv (.sl [])]] []=some (.ret (B (Tk.may ⟨1,n,0⟩&&(Tk.may ⟨6,v,34⟩||Tk.may ⟨6,v,39⟩))) []):=by
 have hr:Tryz.f150.results = #[.tmp 2]:=rfl
 have hb:den K 187 [.agg [.pv (.int .i64 6),.pv (.str n),.pv (.str v),.pv (.int .i64 0),.pv (.int .i64 0),.pv (.sl [])]] []=some (.ret (.agg [.pv (.int .i64 6),.pv (.str []),.pv (.str []),.pv (.int .i64 0),.pv (.int .i64 0),.pv (.sl [])]) []):=eu 6 n v 0 0 []
 have h1:=k9 n hn
 have h2:=EV v hv
 cases q1:Tk.may ⟨1,n,0⟩
 ·rw[q1] at h1
  refine ai rfl rfl Tryz.func150 rfl Tryz.ntmps150 ⟨by simp,by simp[LK]⟩ ?_
  simp only[go_sem,Nat.reduceLT,Nat.reduceEqDiff,Nat.reduceBEq,Nat.reduceAdd,Nat.reduceSub,Nat.reduceLeDiff,ah aa,ae aa,hr,hb,s00,e00,i00,d00,List.append_nil,bne,Int.reduceBEq,h1]
  all_goals (repeat (first|(rw[aL];rotate_left;(· kernel_rfl))|(first|rw[aO]|rw[aJ]|rw[aK];rotate_left;(· kernel_rfl);simp only[go_sem,Nat.reduceLT,reduceCtorEq,Nat.reduceEqDiff,Nat.reduceBEq,Nat.reduceAdd,Nat.reduceSub,Nat.reduceLeDiff,Nat.reduceMul,ah aa,ae aa,hr,hb,s00,e00,i00,d00,List.append_nil,bne,Int.reduceBEq,h1])))
 ·rw[q1] at h1
  refine ai rfl rfl Tryz.func150 rfl Tryz.ntmps150 ⟨by simp,by simp[LK]⟩ ?_
  simp only[go_sem,Nat.reduceLT,Nat.reduceEqDiff,Nat.reduceBEq,Nat.reduceAdd,Nat.reduceSub,Nat.reduceLeDiff,ah aa,ae aa,hr,hb,s00,e00,i00,d00,List.append_nil,bne,Int.reduceBEq,h1,h2]
  all_goals (repeat (first|(rw[aL];rotate_left;(· kernel_rfl))|(first|rw[aO]|rw[aJ]|rw[aK];rotate_left;(· kernel_rfl);simp only[go_sem,Nat.reduceLT,reduceCtorEq,Nat.reduceEqDiff,Nat.reduceBEq,Nat.reduceAdd,Nat.reduceSub,Nat.reduceLeDiff,Nat.reduceMul,ah aa,ae aa,hr,hb,s00,e00,i00,d00,List.append_nil,bne,Int.reduceBEq,h1,h2])))
set_option maxHeartbeats 8000000 in
theorem KI (n:List UInt8):den K 150 [.agg [.pv (.int .i64 7),.pv (.str n),.pv (.str []),.pv (.int .i64 0),.pv (.int .i64 0),.pv (.sl [])]] []=some (.ret (B (decide (Sl.er n))) []):=by
 have hr:Tryz.f150.results = #[.tmp 2]:=rfl
 have hb:den K 187 [.agg [.pv (.int .i64 7),.pv (.str n),.pv (.str []),.pv (.int .i64 0),.pv (.int .i64 0),.pv (.sl [])]] []=some (.ret (.agg [.pv (.int .i64 7),.pv (.str []),.pv (.str []),.pv (.int .i64 0),.pv (.int .i64 0),.pv (.sl [])]) []):=eu 7 n [] 0 0 []
 have h1:=rx
 have h2:=tJ n
 refine ai rfl rfl Tryz.func150 rfl Tryz.ntmps150 ⟨by simp,by simp[LK]⟩ ?_
 simp only[go_sem,Nat.reduceLT,Nat.reduceEqDiff,Nat.reduceBEq,Nat.reduceAdd,Nat.reduceSub,Nat.reduceLeDiff,ah aa,ae aa,hr,hb,s00,e00,i00,d00,List.append_nil,bne,Int.reduceBEq,h1,h2]
 all_goals (repeat (first|(rw[aL];rotate_left;(· kernel_rfl))|(first|rw[aO]|rw[aJ]|rw[aK];rotate_left;(· kernel_rfl);simp only[go_sem,Nat.reduceLT,reduceCtorEq,Nat.reduceEqDiff,Nat.reduceBEq,Nat.reduceAdd,Nat.reduceSub,Nat.reduceLeDiff,Nat.reduceMul,ah aa,ae aa,hr,hb,s00,e00,i00,d00,List.append_nil,bne,Int.reduceBEq,h1,h2])))
set_option maxHeartbeats 8000000 in
theorem KG (a b:Int):den K 150 [.agg [.pv (.int .i64 8),.pv (.str []),.pv (.str []),.pv (.int .i64 a),.pv (.int .i64 b),.pv (.sl [])]] []=some (.ret (B ((decide (-9999≤a)&&decide (a≤9999))&&(decide (-9999≤b)&&decide (b≤9999)))) []):=by
 have hr:Tryz.f150.results = #[.tmp 2]:=rfl
 have hb:den K 187 [.agg [.pv (.int .i64 8),.pv (.str []),.pv (.str []),.pv (.int .i64 a),.pv (.int .i64 b),.pv (.sl [])]] []=some (.ret (.agg [.pv (.int .i64 8),.pv (.str []),.pv (.str []),.pv (.int .i64 0),.pv (.int .i64 0),.pv (.sl [])]) []):=eu 8 [] [] a b []
 have h1:=qH a
 have h2:=qH b
 cases q1:(decide (-9999≤a)&&decide (a≤9999))
 ·rw[q1] at h1
  refine ai rfl rfl Tryz.func150 rfl Tryz.ntmps150 ⟨by simp,by simp[LK]⟩ ?_
  simp only[go_sem,Nat.reduceLT,Nat.reduceEqDiff,Nat.reduceBEq,Nat.reduceAdd,Nat.reduceSub,Nat.reduceLeDiff,ah aa,ae aa,hr,hb,s00,e00,i00,d00,List.append_nil,bne,Int.reduceBEq,h1]
  all_goals (repeat (first|(rw[aL];rotate_left;(· kernel_rfl))|(first|rw[aO]|rw[aJ]|rw[aK];rotate_left;(· kernel_rfl);simp only[go_sem,Nat.reduceLT,reduceCtorEq,Nat.reduceEqDiff,Nat.reduceBEq,Nat.reduceAdd,Nat.reduceSub,Nat.reduceLeDiff,Nat.reduceMul,ah aa,ae aa,hr,hb,s00,e00,i00,d00,List.append_nil,bne,Int.reduceBEq,h1])))
 ·rw[q1] at h1
  refine ai rfl rfl Tryz.func150 rfl Tryz.ntmps150 ⟨by simp,by simp[LK]⟩ ?_
  simp only[go_sem,Nat.reduceLT,Nat.reduceEqDiff,Nat.reduceBEq,Nat.reduceAdd,Nat.reduceSub,Nat.reduceLeDiff,ah aa,ae aa,hr,hb,s00,e00,i00,d00,List.append_nil,bne,Int.reduceBEq,h1,h2]
  all_goals (repeat (first|(rw[aL];rotate_left;(· kernel_rfl))|(first|rw[aO]|rw[aJ]|rw[aK];rotate_left;(· kernel_rfl);simp only[go_sem,Nat.reduceLT,reduceCtorEq,Nat.reduceEqDiff,Nat.reduceBEq,Nat.reduceAdd,Nat.reduceSub,Nat.reduceLeDiff,Nat.reduceMul,ah aa,ae aa,hr,hb,s00,e00,i00,d00,List.append_nil,bne,Int.reduceBEq,h1,h2])))
set_option maxHeartbeats 8000000 in
theorem xZ (lc:List (List PV)) (h:lc.length≠1):den K 150 [.agg [.pv (.int .i64 11),.pv (.str []),.pv (.str []),.pv (.int .i64 0),.pv (.int .i64 0),.pv (.sl lc)]] []=some (.ret (B false) []):=by
 have hr:Tryz.f150.results = #[.tmp 2]:=rfl
 have hb:den K 187 [.agg [.pv (.int .i64 11),.pv (.str []),.pv (.str []),.pv (.int .i64 0),.pv (.int .i64 0),.pv (.sl lc)]] []=some (.ret (.agg [.pv (.int .i64 11),.pv (.str []),.pv (.str []),.pv (.int .i64 0),.pv (.int .i64 0),.nils]) []):=eu 11 [] [] 0 0 lc
 have q1:((lc.length:Int)==1)=false:=by rw[beq_eq_false_iff_ne];omega
 refine ai rfl rfl Tryz.func150 rfl Tryz.ntmps150 ⟨by simp,by simp[LK]⟩ ?_
 simp only[go_sem,Nat.reduceLT,Nat.reduceEqDiff,Nat.reduceBEq,Nat.reduceAdd,Nat.reduceSub,Nat.reduceLeDiff,ah aa,hr,hb,s00,e00,i00,d00,List.append_nil,bne,Int.reduceBEq,q1]
 all_goals (repeat (first|(rw[aL];rotate_left;(· kernel_rfl))|(first|rw[aO]|rw[aJ]|rw[aK];rotate_left;(· kernel_rfl);simp only[go_sem,Nat.reduceLT,reduceCtorEq,Nat.reduceEqDiff,Nat.reduceBEq,Nat.reduceAdd,Nat.reduceSub,Nat.reduceLeDiff,Nat.reduceMul,ah aa,ae aa,hr,hb,s00,e00,i00,d00,List.append_nil,bne,Int.reduceBEq,q1])))
set_option maxHeartbeats 8000000 in
theorem FT (k:Int) (n v:List UInt8) (a b:Int) (l:List (List PV)) (r:Bool) (hm:den K 150 [.agg [.pv (.int .i64 k),.pv (.str n),.pv (.str v),.pv (.int .i64 a),.pv (.int .i64 b),.pv (.sl l)]] []=some (.ret (B r) [])):den K 150 [.agg [.pv (.int .i64 11),.pv (.str []),.pv (.str []),.pv (.int .i64 0),.pv (.int .i64 0),.pv (.sl [[.int .i64 k,.str n,.str v,.int .i64 a,.int .i64 b,.sl l]])]] []=some (.ret (B (k != 11&&r)) []):=by
 have hr:Tryz.f150.results = #[.tmp 2]:=rfl
 have hb:den K 187 [.agg [.pv (.int .i64 11),.pv (.str []),.pv (.str []),.pv (.int .i64 0),.pv (.int .i64 0),.pv (.sl [[.int .i64 k,.str n,.str v,.int .i64 a,.int .i64 b,.sl l]])]] []=some (.ret (.agg [.pv (.int .i64 11),.pv (.str []),.pv (.str []),.pv (.int .i64 0),.pv (.int .i64 0),.nils]) []):=eu 11 [] [] 0 0 _
 have q1:(((0:Nat):Int)+1==1)=true:=rfl
 have q2:(((1:Nat):Int)==1)=true:=rfl
 cases q3:(k==11)
 ·simp only[bne,q3]
  refine ai rfl rfl Tryz.func150 rfl Tryz.ntmps150 ⟨by simp,by simp[LK]⟩ ?_
  simp only[go_sem,Nat.reduceLT,Nat.reduceEqDiff,Nat.reduceBEq,Nat.reduceAdd,Nat.reduceSub,Nat.reduceLeDiff,ah aa,ae aa,hr,hb,s00,e00,i00,d00,List.append_nil,bne,Int.reduceBEq,q2,q3,le00,hm,Int.toNat_zero]
  all_goals (repeat (first|(rw[aL];rotate_left;(· kernel_rfl))|(first|rw[aO]|rw[aJ]|rw[aK];rotate_left;(· kernel_rfl);simp only[go_sem,Nat.reduceLT,reduceCtorEq,Nat.reduceEqDiff,Nat.reduceBEq,Nat.reduceAdd,Nat.reduceSub,Nat.reduceLeDiff,Nat.reduceMul,ah aa,ae aa,hr,hb,s00,e00,i00,d00,List.append_nil,bne,Int.reduceBEq,q1,q2,q3,le00,hm,Int.toNat_zero])))
 ·simp only[bne,q3]
  refine ai rfl rfl Tryz.func150 rfl Tryz.ntmps150 ⟨by simp,by simp[LK]⟩ ?_
  simp only[go_sem,Nat.reduceLT,Nat.reduceEqDiff,Nat.reduceBEq,Nat.reduceAdd,Nat.reduceSub,Nat.reduceLeDiff,ah aa,ae aa,hr,hb,s00,e00,i00,d00,List.append_nil,bne,Int.reduceBEq,q2,q3,le00,Int.toNat_zero]
  all_goals (repeat (first|(rw[aL];rotate_left;(· kernel_rfl))|(first|rw[aO]|rw[aJ]|rw[aK];rotate_left;(· kernel_rfl);simp only[go_sem,Nat.reduceLT,reduceCtorEq,Nat.reduceEqDiff,Nat.reduceBEq,Nat.reduceAdd,Nat.reduceSub,Nat.reduceLeDiff,Nat.reduceMul,ah aa,ae aa,hr,hb,s00,e00,i00,d00,List.append_nil,bne,Int.reduceBEq,q1,q2,q3,le00,Int.toNat_zero])))
set_option maxHeartbeats 8000000 in
theorem ze (k:Int) (hk:k<1∨11<k):den K 150 [.agg [.pv (.int .i64 k),.pv (.str []),.pv (.str []),.pv (.int .i64 0),.pv (.int .i64 0),.pv (.sl [])]] []=some (.ret (B false) []):=by
 have hr:Tryz.f150.results = #[.tmp 2]:=rfl
 have hb:=eu k [] [] 0 0 []
 have hn:bN k []=[]:=by unfold bN;simp
 have hv:bV k []=[]:=by unfold bV;simp
 have ha:bI k 0=0:=by unfold bI;simp
 have hl:bL k [] = .pv (.sl []):=if_neg (by omega)
 rw[hn,hv,ha,hl] at hb
 have e1:(k==1)=false:=by rw[beq_eq_false_iff_ne];omega
 have e2:(k==2)=false:=by rw[beq_eq_false_iff_ne];omega
 have e3:(k==3)=false:=by rw[beq_eq_false_iff_ne];omega
 have e4:(k==4)=false:=by rw[beq_eq_false_iff_ne];omega
 have e5:(k==5)=false:=by rw[beq_eq_false_iff_ne];omega
 have e6:(k==6)=false:=by rw[beq_eq_false_iff_ne];omega
 have e7:(k==7)=false:=by rw[beq_eq_false_iff_ne];omega
 have e8:(k==8)=false:=by rw[beq_eq_false_iff_ne];omega
 have e9:(k==9)=false:=by rw[beq_eq_false_iff_ne];omega
 have e10:(k==10)=false:=by rw[beq_eq_false_iff_ne];omega
 have e11:(k==11)=false:=by rw[beq_eq_false_iff_ne];omega
 refine ai rfl rfl Tryz.func150 rfl Tryz.ntmps150 ⟨by simp,by simp[LK]⟩ ?_
 simp only[go_sem,Nat.reduceLT,Nat.reduceEqDiff,Nat.reduceBEq,Nat.reduceAdd,Nat.reduceSub,Nat.reduceLeDiff,ah aa,ae aa,hr,hb,s00,e00,i00,d00,List.append_nil,bne,e1,e2,e3,e4,e5,e6,e7,e8,e9,e10,e11]
 all_goals (repeat (first|(rw[aL];rotate_left;(· kernel_rfl))|(first|rw[aO]|rw[aJ]|rw[aK];rotate_left;(· kernel_rfl);simp only[go_sem,Nat.reduceLT,reduceCtorEq,Nat.reduceEqDiff,Nat.reduceBEq,Nat.reduceAdd,Nat.reduceSub,Nat.reduceLeDiff,Nat.reduceMul,ah aa,ae aa,hr,hb,s00,e00,i00,d00,List.append_nil,bne,Int.reduceBEq,e1,e2,e3,e4,e5,e6,e7,e8,e9,e10,e11])))
end Go.Abs
