/-
  SelsNth, as the interpreter answers it: true, whatever the numbers are.
  WHAT READS AS THE ARGUMENTS: the statement SelsNth.
-/
import Derived.Test.YtlomcifkckgneaaGreatDoorRh6
import Derived.Test.YtlomcifkckgneaaGreatDoorRh13
import Derived.Test.YtlomcifkckgneaaGreatDoorRh14
import Derived.Test.YtlomcifkckgneaaGreatDoorRh15
set_option linter.unusedSimpArgs false
set_option linter.unusedVariables false
namespace Go.Abs
open Go Go.Proofs
set_option maxRecDepth 10000
attribute [local go_sem] cS bA ck bM bL cT cq co aI a6 aX bt bV bf opd avOf cvOf St.degAt St.put okPV dD okAV cX cZ cY cx al if_true Bool.false_eq_true if_false Option.map_some Option.map_none Option.bind_some Option.bind_none dE dp upd List.toList_toArray bu steal aN mvB dt cA bW AV.deg CV.deg AV.gv AV.isIter cj ct bJ List.length_nil List.length_cons List.filterMap_cons List.filterMap_nil beq_iff_eq List.getElem?_cons_zero List.getElem?_cons_succ Option.getD_some eL fe Bool.false_and Bool.and_false Bool.and_self K_P fZ bv bS aR lend back idx dedup AV.ren CV.ren TV.ren AV.ptrs CV.ptrs b6 AV.flat CV.flat bI bz aJ bU cF dU bD aF bR aY bh bw aZ eD CV.pv? content aV ownT aM reps pvs chunks a7 leave ek b5 cU bd aQ TV.deg TV.av LK CV.plain CV.noBld ci ei bound List.map_cons List.map_nil List.all_cons List.all_nil List.any_cons List.any_nil List.contains_cons List.contains_nil List.elem_cons List.elem_nil List.cons_append List.nil_append List.append_nil List.flatMap_cons List.flatMap_nil List.zip_cons_cons List.zip_nil_left List.zip_nil_right List.take_succ_cons List.take_zero List.take_nil List.drop_succ_cons List.drop_zero List.drop_nil List.isEmpty_nil List.isEmpty_cons Bool.and_true Bool.true_and Bool.or_true Bool.true_or Bool.or_false Bool.false_or Bool.not_true Bool.not_false Nat.add_zero Nat.zero_add Option.isNone_none Option.isNone_some Option.getD_none true_and and_true not_true_eq_false not_false_eq_true decide_true decide_false Nat.le_refl and_self Bool.not_eq_true Nat.sub_self or_true true_or Option.some.injEq List.length_map List.nil_eq and_false false_and AV.live CV.live CV.liveIn ev aH Option.orElse_some Option.orElse_none head aU aP Int.lt_irrefl List.length_append ite_self dx bo bX a8 Key.clash Key.sees Key.writes Nat.lt_irrefl gt_iff_lt cm dG false_or or_false beq_self_eq_true Bool.true_beq Bool.false_beq lM j6 lL lS fq
theorem ro (a b:Int) (ha:I64 a) (hb:I64 b):den K 6 [I a,I b] []=some (.ret (B true) []):=by
 have hr:Tryz.f6.results = #[.tmp 4]:=rfl
 have hf:=bG
 cases e1:decide (a < -20000)
 case true =>
  refine ae rfl rfl Tryz.func6 rfl Tryz.ntmps6 ⟨by simp,by simp[LK]⟩ ?_
  simp only[go_sem,Nat.reduceLT,reduceCtorEq,Nat.reduceEqDiff,Nat.reduceBEq,Nat.reduceAdd,Nat.reduceSub,Nat.reduceLeDiff,Nat.reduceMul,hr,hf,e1]
 cases e2:decide ((20000:Int)<a)
 case true =>
  refine ae rfl rfl Tryz.func6 rfl Tryz.ntmps6 ⟨by simp,by simp[LK]⟩ ?_
  simp only[go_sem,Nat.reduceLT,reduceCtorEq,Nat.reduceEqDiff,Nat.reduceBEq,Nat.reduceAdd,Nat.reduceSub,Nat.reduceLeDiff,Nat.reduceMul,hr,hf,e1,e2]
 cases e3:decide (b < -20000)
 case true =>
  refine ae rfl rfl Tryz.func6 rfl Tryz.ntmps6 ⟨by simp,by simp[LK]⟩ ?_
  simp only[go_sem,Nat.reduceLT,reduceCtorEq,Nat.reduceEqDiff,Nat.reduceBEq,Nat.reduceAdd,Nat.reduceSub,Nat.reduceLeDiff,Nat.reduceMul,hr,hf,e1,e2,e3]
 cases e4:decide ((20000:Int)<b)
 case true =>
  refine ae rfl rfl Tryz.func6 rfl Tryz.ntmps6 ⟨by simp,by simp[LK]⟩ ?_
  simp only[go_sem,Nat.reduceLT,reduceCtorEq,Nat.reduceEqDiff,Nat.reduceBEq,Nat.reduceAdd,Nat.reduceSub,Nat.reduceLeDiff,Nat.reduceMul,hr,hf,e1,e2,e3,e4]
 have h1:=of_decide_eq_false e1
 have h2:=of_decide_eq_false e2
 have h3:=of_decide_eq_false e3
 have h4:=of_decide_eq_false e4
 have na:Sl.nb a:=⟨by omega,by omega⟩
 have nb:Sl.nb b:=⟨by omega,by omega⟩
 have la:=mt (n:=a) ⟨by omega,by omega⟩
 have lb:=mt (n:=b) ⟨by omega,by omega⟩
 have da:=m0 _ a (Nat.le_refl _) ha
 have db:=m0 _ b (Nat.le_refl _) hb
 have hus:=xw a b
 have hlen:(oz a b).length≤1000:=by
  unfold oz
  split
  ·simp;omega
  ·split<;>simp<;>omega
 obtain ⟨r1,n1⟩:=xG (s:=oz a b) hlen (by rw[hus];exact Sl.uV na nb)
 obtain ⟨r2,n2⟩:=xG (s:=Lib.itoa b) (by omega) (Sl.uM nb)
 rw[Sl.ve (by omega)] at n1
 rw[Sl.uy] at n2
 have s1:(Lib.itoa a).length+1<ak:=by unfold ak;omega
 have s2:(Lib.itoa a).length+1+((Lib.itoa b).length+1)<ak:=by unfold ak;omega
 have s3:(Lib.itoa a).length+1+(Lib.itoa b).length<ak:=by unfold ak;omega
 have s4:(Lib.itoa b).length+1<ak:=by unfold ak;omega
 have s5:1+(Lib.itoa b).length<ak:=by unfold ak;omega
 have fa:Sl.few a↔(-9999≤a∧a≤9999):=Iff.rfl
 have fb:Sl.few b↔(-9999≤b∧b≤9999):=Iff.rfl
 unfold oz at r1
 cases p1:decide (-9999≤a)<;>cases p2:decide (a≤9999)<;>cases p4:decide (-9999≤b)<;>cases p5:decide (b≤9999)<;>cases d1:decide ((0:Int)<b)<;>cases d2:decide (b<0)
 all_goals
  have t1:=p1
  have t2:=p2
  have t4:=p4
  have t5:=p5
  have u1:=d1
  have u2:=d2
  simp only[decide_eq_false_iff_not,decide_eq_true_eq] at t1 t2 t4 t5 u1 u2
  first
   | (exfalso;omega)
   | (rw[if_pos u1] at r1;rw[if_neg (by rw[fa,fb];omega)] at n1;rw[if_neg (by rw[fb];omega)] at n2;exact xy a b _ _ e1 e2 e3 e4 da db s1 s2 s3 s4 s5 r1 r2 n1 n2 p1 p2 p4 p5 d1 d2)
   | (rw[if_pos u1] at r1;rw[if_neg (by rw[fa,fb];omega)] at n1;rw[if_pos (by rw[fb];omega)] at n2;exact vX a b _ _ e1 e2 e3 e4 da db s1 s2 s3 s4 s5 r1 r2 n1 n2 p1 p2 p4 p5 d1 d2)
   | (rw[if_pos u1] at r1;rw[if_neg (by rw[fa,fb];omega)] at n1;rw[if_neg (by rw[fb];omega)] at n2;exact wy a b _ _ e1 e2 e3 e4 da db s1 s2 s3 s4 s5 r1 r2 n1 n2 p1 p2 p4 p5 d1 d2)
   | (rw[if_pos u1] at r1;rw[if_neg (by rw[fa,fb];omega)] at n1;rw[if_pos (by rw[fb];omega)] at n2;exact xF a b _ _ e1 e2 e3 e4 da db s1 s2 s3 s4 s5 r1 r2 n1 n2 p1 p2 p4 p5 d1 d2)
   | (rw[if_pos u1] at r1;rw[if_neg (by rw[fa,fb];omega)] at n1;rw[if_neg (by rw[fb];omega)] at n2;exact xx a b _ _ e1 e2 e3 e4 da db s1 s2 s3 s4 s5 r1 r2 n1 n2 p1 p2 p4 p5 d1 d2)
   | (rw[if_pos u1] at r1;rw[if_pos (by rw[fa,fb];omega)] at n1;rw[if_pos (by rw[fb];omega)] at n2;exact xi a b _ _ e1 e2 e3 e4 da db s1 s2 s3 s4 s5 r1 r2 n1 n2 p1 p2 p4 p5 d1 d2)
   | (rw[if_neg u1,if_pos u2] at r1;rw[if_neg (by rw[fa,fb];omega)] at n1;rw[if_neg (by rw[fb];omega)] at n2;exact vZ a b _ _ e1 e2 e3 e4 da db s1 s2 s3 s4 s5 r1 r2 n1 n2 p1 p2 p4 p5 d1 d2)
   | (rw[if_neg u1,if_pos u2] at r1;rw[if_neg (by rw[fa,fb];omega)] at n1;rw[if_pos (by rw[fb];omega)] at n2;exact xO a b _ _ e1 e2 e3 e4 da db s1 s2 s3 s4 s5 r1 r2 n1 n2 p1 p2 p4 p5 d1 d2)
   | (rw[if_neg u1,if_pos u2] at r1;rw[if_neg (by rw[fa,fb];omega)] at n1;rw[if_neg (by rw[fb];omega)] at n2;exact wt a b _ _ e1 e2 e3 e4 da db s1 s2 s3 s4 s5 r1 r2 n1 n2 p1 p2 p4 p5 d1 d2)
   | (rw[if_neg u1,if_pos u2] at r1;rw[if_neg (by rw[fa,fb];omega)] at n1;rw[if_pos (by rw[fb];omega)] at n2;exact wb a b _ _ e1 e2 e3 e4 da db s1 s2 s3 s4 s5 r1 r2 n1 n2 p1 p2 p4 p5 d1 d2)
   | (rw[if_neg u1,if_pos u2] at r1;rw[if_neg (by rw[fa,fb];omega)] at n1;rw[if_neg (by rw[fb];omega)] at n2;exact vW a b _ _ e1 e2 e3 e4 da db s1 s2 s3 s4 s5 r1 r2 n1 n2 p1 p2 p4 p5 d1 d2)
   | (rw[if_neg u1,if_pos u2] at r1;rw[if_pos (by rw[fa,fb];omega)] at n1;rw[if_pos (by rw[fb];omega)] at n2;exact vQ a b _ _ e1 e2 e3 e4 da db s1 s2 s3 s4 s5 r1 r2 n1 n2 p1 p2 p4 p5 d1 d2)
   | (rw[if_neg u1,if_neg u2] at r1;rw[if_neg (by rw[fa,fb];omega)] at n1;rw[if_pos (by rw[fb];omega)] at n2;exact yh a b _ _ e1 e2 e3 e4 da db s1 s2 s3 s4 s5 r1 r2 n1 n2 p1 p2 p4 p5 d1 d2)
   | (rw[if_neg u1,if_neg u2] at r1;rw[if_neg (by rw[fa,fb];omega)] at n1;rw[if_pos (by rw[fb];omega)] at n2;exact vS a b _ _ e1 e2 e3 e4 da db s1 s2 s3 s4 s5 r1 r2 n1 n2 p1 p2 p4 p5 d1 d2)
   | (rw[if_neg u1,if_neg u2] at r1;rw[if_pos (by rw[fa,fb];omega)] at n1;rw[if_pos (by rw[fb];omega)] at n2;exact xd a b _ _ e1 e2 e3 e4 da db s1 s2 s3 s4 s5 r1 r2 n1 n2 p1 p2 p4 p5 d1 d2)
end Go.Abs
namespace Go.Abs
open Go Go.Proofs
set_option maxRecDepth 100000
theorem pb (pss:List (List PV)) (h:All2 (fun t p => ∃ n,TyP Tryz.prog n t p) Tryz.f6.params.toList pss) :
  den K 6 (List.zipWith (j5 Tryz.prog) Tryz.f6.params.toList pss) []=some (.ret (.c (.pv (.bool true))) []):=by
 have hp:Tryz.f6.params.toList=[3,3]:=rfl
 rw[hp] at h ⊢
 refine args2 h fun n m p q h1 h2 e => ?_
 subst e
 obtain ⟨a,rfl,ha⟩:=tJ cf h1
 obtain ⟨b,rfl,hb⟩:=tJ cf h2
 simp only[List.zipWith_cons_cons,List.zipWith_nil_left,ur]
 exact ro a b (w6 ha) (w6 hb)
end Go.Abs
