/-
  SelsTell, as the interpreter answers it: the run, by the form of what is parsed (the others).
-/
import Derived.Test.YtlomcifkckgneaaGreatDoorRt21
import Derived.Test.YtlomcifkckgneaaGreatDoorRt23
import Derived.Test.YtlomcifkckgneaaGreatDoorRt24
set_option maxHeartbeats 16000000
set_option linter.unusedSimpArgs false
set_option linter.unusedVariables false
namespace Go.Abs
open Go Go.Proofs
set_option maxRecDepth 10000
attribute [local go_sem] c7 bF cD bW bZ db cJ cE a7 ck ce cF c8 bS opd avOf cvOf St.degAt St.put okPV d6 okAV du dv dt cU aM if_true Bool.false_eq_true if_false Option.map_some Option.map_none Option.bind_some Option.bind_none dY dV upd List.toList_toArray cR steal bz mvB dE cV cT AV.deg CV.deg AV.gv AV.isIter cN cI bU List.length_nil List.length_cons List.filterMap_cons List.filterMap_nil beq_iff_eq List.getElem?_cons_zero List.getElem?_cons_succ Option.getD_some d8 eV Bool.false_and Bool.and_false Bool.and_self K_P fq co cO bw lend back idx dedup AV.ren CV.ren TV.ren AV.ptrs CV.ptrs cX AV.flat CV.flat cz cg bc c9 dk eo cj aY cm bt bH cf br eF CV.pv? content bA ownT bd reps pvs chunks cd leave eB cK dr bT bv TV.deg TV.av LK CV.plain CV.noBld c5 eA bound List.map_cons List.map_nil List.all_cons List.all_nil List.any_cons List.any_nil List.contains_cons List.contains_nil List.elem_cons List.elem_nil List.cons_append List.nil_append List.append_nil List.flatMap_cons List.flatMap_nil List.zip_cons_cons List.zip_nil_left List.zip_nil_right List.take_succ_cons List.take_zero List.take_nil List.drop_succ_cons List.drop_zero List.drop_nil List.isEmpty_nil List.isEmpty_cons Bool.and_true Bool.true_and Bool.or_true Bool.true_or Bool.or_false Bool.false_or Bool.not_true Bool.not_false Nat.add_zero Nat.zero_add Option.isNone_none Option.isNone_some Option.getD_none true_and and_true not_true_eq_false not_false_eq_true decide_true decide_false Nat.le_refl and_self Bool.not_eq_true Nat.sub_self or_true true_or Option.some.injEq List.length_map List.nil_eq and_false false_and AV.live CV.live CV.liveIn dU bg Option.orElse_some Option.orElse_none head bm bh Int.lt_irrefl List.length_append ite_self dZ cA dc bC Key.clash Key.sees Key.writes Nat.lt_irrefl gt_iff_lt cH dH false_or or_false beq_self_eq_true Bool.true_beq Bool.false_beq vS wD wC wm wV CA Ck wy wY Cm CD CU jI
theorem MQ (lv:List (List PV)) (s:List UInt8) (lc cx cy:List (List PV)) (e1 e2 i j k:Int) (mb:Bool)
  (hs:den K 14 [L lv,I 200] []=some (.ret (B true) [])) (ht:decide ((1000:Int)<(s.length:Int))=false) (h4:den K 15 [L lc,I 200] []=some (.ret (B true) []))
  (p1:den K 17 [L lv] []=some (.ret (.tup [.c (.pv (.sl cx)),.c (.pv (.int .i64 e1))]) [])) (p2:den K 18 [L lv] []=some (.ret (.tup [.c (.pv (.sl cx)),.c (.pv (.int .i64 e1))]) []))
  (r1:den K 19 [T s] []=some (.ret (.tup [.c (.nils),.c (.pv (.int .i64 e2))]) [])) (r2:den K 20 [T s] []=some (.ret (.tup [.c (.nils),.c (.pv (.int .i64 e2))]) []))
  (n1:den K 13 [L lv] []=some (.ret (.tup [.c (.pv (.int .i64 i)),.c (.pv (.int .i64 j)),.c (.pv (.int .i64 k))]) [])) (n2:den K 21 [L lv] []=some (.ret (.tup [.c (.pv (.int .i64 i)),.c (.pv (.int .i64 j)),.c (.pv (.int .i64 k))]) []))
  (m1:den K 23 [L lc] []=some (.ret (B mb) [])) (m2:den K 24 [L lc] []=some (.ret (B mb) []))
  (sx:den K 22 [.c (.pv (.sl cx)),.c (.pv (.sl cx))] []=some (.ret (B true) [])) (sy:den K 22 [.c (.nils),.c (.nils)] []=some (.ret (B true) [])) :
  den K 4 [L lv,T s,L lc] []=some (.ret (B true) []):=by
 have hr:Tryz.f4.results=#[.tmp 6]:=rfl
 have hf:=km
 have q1:(e1==e1)=true:=beq_self_eq_true e1
 have q2:(e2==e2)=true:=beq_self_eq_true e2
 have q3:(i==i)=true:=beq_self_eq_true i
 have q4:(j==j)=true:=beq_self_eq_true j
 have q5:(k==k)=true:=beq_self_eq_true k
 have q6:(mb==mb)=true:=beq_self_eq_true mb
 refine ah rfl rfl Tryz.func4 rfl Tryz.ntmps4 ⟨by simp,by simp[LK]⟩ ?_
 simp (maxSteps:=2000000) only[go_sem,Nat.reduceLT,reduceCtorEq,Nat.reduceEqDiff,Nat.reduceBEq,Nat.reduceAdd,aA al,hr,hf,hs,ht,h4,p1,p2,r1,r2,n1,n2,m1,m2,sx,sy,q1,q2,q3,q4,q5,q6,TV.flat]
theorem My (lv:List (List PV)) (s:List UInt8) (lc cx cy:List (List PV)) (e1 e2 i j k:Int) (mb:Bool)
  (hs:den K 14 [L lv,I 200] []=some (.ret (B true) [])) (ht:decide ((1000:Int)<(s.length:Int))=false) (h4:den K 15 [L lc,I 200] []=some (.ret (B true) []))
  (p1:den K 17 [L lv] []=some (.ret (.tup [.c (.pv (.sl cx)),.c (.pv (.int .i64 e1))]) [])) (p2:den K 18 [L lv] []=some (.ret (.tup [.c (.pv (.sl cx)),.c (.pv (.int .i64 e1))]) []))
  (r1:den K 19 [T s] []=some (.ret (.tup [.c (.pv (.sl cy)),.c (.pv (.int .i64 e2))]) [])) (r2:den K 20 [T s] []=some (.ret (.tup [.c (.pv (.sl cy)),.c (.pv (.int .i64 e2))]) []))
  (n1:den K 13 [L lv] []=some (.ret (.tup [.c (.pv (.int .i64 i)),.c (.pv (.int .i64 j)),.c (.pv (.int .i64 k))]) [])) (n2:den K 21 [L lv] []=some (.ret (.tup [.c (.pv (.int .i64 i)),.c (.pv (.int .i64 j)),.c (.pv (.int .i64 k))]) []))
  (m1:den K 23 [L lc] []=some (.ret (B mb) [])) (m2:den K 24 [L lc] []=some (.ret (B mb) []))
  (sx:den K 22 [.c (.pv (.sl cx)),.c (.pv (.sl cx))] []=some (.ret (B true) [])) (sy:den K 22 [.c (.pv (.sl cy)),.c (.pv (.sl cy))] []=some (.ret (B true) [])) :
  den K 4 [L lv,T s,L lc] []=some (.ret (B true) []):=by
 have hr:Tryz.f4.results=#[.tmp 6]:=rfl
 have hf:=km
 have q1:(e1==e1)=true:=beq_self_eq_true e1
 have q2:(e2==e2)=true:=beq_self_eq_true e2
 have q3:(i==i)=true:=beq_self_eq_true i
 have q4:(j==j)=true:=beq_self_eq_true j
 have q5:(k==k)=true:=beq_self_eq_true k
 have q6:(mb==mb)=true:=beq_self_eq_true mb
 refine ah rfl rfl Tryz.func4 rfl Tryz.ntmps4 ⟨by simp,by simp[LK]⟩ ?_
 simp (maxSteps:=2000000) only[go_sem,Nat.reduceLT,reduceCtorEq,Nat.reduceEqDiff,Nat.reduceBEq,Nat.reduceAdd,aA al,hr,hf,hs,ht,h4,p1,p2,r1,r2,n1,n2,m1,m2,sx,sy,q1,q2,q3,q4,q5,q6,TV.flat]
end Go.Abs
