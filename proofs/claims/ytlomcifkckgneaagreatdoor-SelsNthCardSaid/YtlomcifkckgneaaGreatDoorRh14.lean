/-
  SelsNth, as the interpreter answers it: the ways through with b of one sign.
-/
import Derived.Test.YtlomcifkckgneaaGreatDoorRh12
set_option linter.unusedSimpArgs false
set_option linter.unusedVariables false
namespace Go.Abs
open Go Go.Proofs
set_option maxRecDepth 10000
attribute [local go_sem] cS bA ck bM bL cT cq co aI a6 aX bt bV bf opd avOf cvOf St.degAt St.put okPV dD okAV cX cZ cY cx al if_true Bool.false_eq_true if_false Option.map_some Option.map_none Option.bind_some Option.bind_none dE dp upd List.toList_toArray bu steal aN mvB dt cA bW AV.deg CV.deg AV.gv AV.isIter cj ct bJ List.length_nil List.length_cons List.filterMap_cons List.filterMap_nil beq_iff_eq List.getElem?_cons_zero List.getElem?_cons_succ Option.getD_some eL fe Bool.false_and Bool.and_false Bool.and_self K_P fZ bv bS aR lend back idx dedup AV.ren CV.ren TV.ren AV.ptrs CV.ptrs b6 AV.flat CV.flat bI bz aJ bU cF dU bD aF bR aY bh bw aZ eD CV.pv? content aV ownT aM reps pvs chunks a7 leave ek b5 cU bd aQ TV.deg TV.av LK CV.plain CV.noBld ci ei bound List.map_cons List.map_nil List.all_cons List.all_nil List.any_cons List.any_nil List.contains_cons List.contains_nil List.elem_cons List.elem_nil List.cons_append List.nil_append List.append_nil List.flatMap_cons List.flatMap_nil List.zip_cons_cons List.zip_nil_left List.zip_nil_right List.take_succ_cons List.take_zero List.take_nil List.drop_succ_cons List.drop_zero List.drop_nil List.isEmpty_nil List.isEmpty_cons Bool.and_true Bool.true_and Bool.or_true Bool.true_or Bool.or_false Bool.false_or Bool.not_true Bool.not_false Nat.add_zero Nat.zero_add Option.isNone_none Option.isNone_some Option.getD_none true_and and_true not_true_eq_false not_false_eq_true decide_true decide_false Nat.le_refl and_self Bool.not_eq_true Nat.sub_self or_true true_or Option.some.injEq List.length_map List.nil_eq and_false false_and AV.live CV.live CV.liveIn ev aH Option.orElse_some Option.orElse_none head aU aP Int.lt_irrefl List.length_append ite_self dx bo bX a8 Key.clash Key.sees Key.writes Nat.lt_irrefl gt_iff_lt cm dG false_or or_false beq_self_eq_true Bool.true_beq Bool.false_beq lM j6 lL lS fq
set_option maxHeartbeats 16000000 in
theorem vZ (a b:Int) (v1 v2:List Val) (e1:decide (a < -20000)=false) (e2:decide ((20000:Int)<a)=false) (e3:decide (b < -20000)=false) (e4:decide ((20000:Int)<b)=false)
  (da:den K 27 [I a] []=some (.ret (T (Lib.itoa a)) [])) (db:den K 27 [I b] []=some (.ret (T (Lib.itoa b)) []))
  (s1:(Lib.itoa a).length+1<ak) (s2:(Lib.itoa a).length+1+((Lib.itoa b).length+1)<ak) (s3:(Lib.itoa a).length+1+(Lib.itoa b).length<ak) (s4:(Lib.itoa b).length+1<ak) (s5:1+(Lib.itoa b).length<ak)
  (r1:den K 11 [T ((Lib.itoa a++[110])++Lib.itoa b)] []=some (.ret (.tup [.c (.pv (.sl (encL v1))),.c (.pv (.int .i64 0))]) [])) (r2:den K 11 [T (Lib.itoa b)] []=some (.ret (.tup [.c (.pv (.sl (encL v2))),.c (.pv (.int .i64 0))]) []))
  (n1:den K 13 [L (encL v1)] []=some (.ret (.tup [.c (.pv (.int .i64 0)),.c (.pv (.int .i64 0)),.c (.pv (.int .i64 40))]) [])) (n2:den K 13 [L (encL v2)] []=some (.ret (.tup [.c (.pv (.int .i64 0)),.c (.pv (.int .i64 0)),.c (.pv (.int .i64 40))]) []))
  (p1:decide (-9999≤a)=false) (p2:decide (a≤9999)=true) (p4:decide (-9999≤b)=false) (p5:decide (b≤9999)=true) (d1:decide ((0:Int)<b)=false) (d2:decide (b<0)=true) :
  den K 6 [I a,I b] []=some (.ret (B true) []):=by
 have hr:Tryz.f6.results = #[.tmp 4]:=rfl
 have hf:=bG
 have q0:((0:Int)==0)=true:=rfl
 have q40:((40:Int)==0)=false:=rfl
 refine ae rfl rfl Tryz.func6 rfl Tryz.ntmps6 ⟨by simp,by simp[LK]⟩ ?_
 simp (maxSteps:=2000000) only[go_sem,Nat.reduceLT,reduceCtorEq,Nat.reduceEqDiff,Nat.reduceBEq,Nat.reduceAdd,hr,hf,e1,e2,e3,e4,da,db,d1,d2,r1,r2,n1,n2,p1,p4,s1,s2,s3,s5,q40,TV.flat]
set_option maxHeartbeats 16000000 in
theorem xO (a b:Int) (v1 v2:List Val) (e1:decide (a < -20000)=false) (e2:decide ((20000:Int)<a)=false) (e3:decide (b < -20000)=false) (e4:decide ((20000:Int)<b)=false)
  (da:den K 27 [I a] []=some (.ret (T (Lib.itoa a)) [])) (db:den K 27 [I b] []=some (.ret (T (Lib.itoa b)) []))
  (s1:(Lib.itoa a).length+1<ak) (s2:(Lib.itoa a).length+1+((Lib.itoa b).length+1)<ak) (s3:(Lib.itoa a).length+1+(Lib.itoa b).length<ak) (s4:(Lib.itoa b).length+1<ak) (s5:1+(Lib.itoa b).length<ak)
  (r1:den K 11 [T ((Lib.itoa a++[110])++Lib.itoa b)] []=some (.ret (.tup [.c (.pv (.sl (encL v1))),.c (.pv (.int .i64 0))]) [])) (r2:den K 11 [T (Lib.itoa b)] []=some (.ret (.tup [.c (.pv (.sl (encL v2))),.c (.pv (.int .i64 0))]) []))
  (n1:den K 13 [L (encL v1)] []=some (.ret (.tup [.c (.pv (.int .i64 0)),.c (.pv (.int .i64 0)),.c (.pv (.int .i64 40))]) [])) (n2:den K 13 [L (encL v2)] []=some (.ret (.tup [.c (.pv (.int .i64 0)),.c (.pv (.int .i64 b)),.c (.pv (.int .i64 0))]) []))
  (p1:decide (-9999≤a)=false) (p2:decide (a≤9999)=true) (p4:decide (-9999≤b)=true) (p5:decide (b≤9999)=true) (d1:decide ((0:Int)<b)=false) (d2:decide (b<0)=true) :
  den K 6 [I a,I b] []=some (.ret (B true) []):=by
 have hr:Tryz.f6.results = #[.tmp 4]:=rfl
 have hf:=bG
 have q0:((0:Int)==0)=true:=rfl
 have q40:((40:Int)==0)=false:=rfl
 refine ae rfl rfl Tryz.func6 rfl Tryz.ntmps6 ⟨by simp,by simp[LK]⟩ ?_
 simp (maxSteps:=2000000) only[go_sem,Nat.reduceLT,reduceCtorEq,Nat.reduceEqDiff,Nat.reduceBEq,Nat.reduceAdd,hr,hf,e1,e2,e3,e4,da,db,d1,d2,r1,r2,n1,n2,p1,p4,p5,s1,s2,s3,s5,q0,q40,TV.flat]
set_option maxHeartbeats 16000000 in
theorem wt (a b:Int) (v1 v2:List Val) (e1:decide (a < -20000)=false) (e2:decide ((20000:Int)<a)=false) (e3:decide (b < -20000)=false) (e4:decide ((20000:Int)<b)=false)
  (da:den K 27 [I a] []=some (.ret (T (Lib.itoa a)) [])) (db:den K 27 [I b] []=some (.ret (T (Lib.itoa b)) []))
  (s1:(Lib.itoa a).length+1<ak) (s2:(Lib.itoa a).length+1+((Lib.itoa b).length+1)<ak) (s3:(Lib.itoa a).length+1+(Lib.itoa b).length<ak) (s4:(Lib.itoa b).length+1<ak) (s5:1+(Lib.itoa b).length<ak)
  (r1:den K 11 [T ((Lib.itoa a++[110])++Lib.itoa b)] []=some (.ret (.tup [.c (.pv (.sl (encL v1))),.c (.pv (.int .i64 0))]) [])) (r2:den K 11 [T (Lib.itoa b)] []=some (.ret (.tup [.c (.pv (.sl (encL v2))),.c (.pv (.int .i64 0))]) []))
  (n1:den K 13 [L (encL v1)] []=some (.ret (.tup [.c (.pv (.int .i64 0)),.c (.pv (.int .i64 0)),.c (.pv (.int .i64 40))]) [])) (n2:den K 13 [L (encL v2)] []=some (.ret (.tup [.c (.pv (.int .i64 0)),.c (.pv (.int .i64 0)),.c (.pv (.int .i64 40))]) []))
  (p1:decide (-9999≤a)=true) (p2:decide (a≤9999)=false) (p4:decide (-9999≤b)=false) (p5:decide (b≤9999)=true) (d1:decide ((0:Int)<b)=false) (d2:decide (b<0)=true) :
  den K 6 [I a,I b] []=some (.ret (B true) []):=by
 have hr:Tryz.f6.results = #[.tmp 4]:=rfl
 have hf:=bG
 have q0:((0:Int)==0)=true:=rfl
 have q40:((40:Int)==0)=false:=rfl
 refine ae rfl rfl Tryz.func6 rfl Tryz.ntmps6 ⟨by simp,by simp[LK]⟩ ?_
 simp (maxSteps:=2000000) only[go_sem,Nat.reduceLT,reduceCtorEq,Nat.reduceEqDiff,Nat.reduceBEq,Nat.reduceAdd,hr,hf,e1,e2,e3,e4,da,db,d1,d2,r1,r2,n1,n2,p1,p2,p4,s1,s2,s3,s5,q40,TV.flat]
set_option maxHeartbeats 16000000 in
theorem wb (a b:Int) (v1 v2:List Val) (e1:decide (a < -20000)=false) (e2:decide ((20000:Int)<a)=false) (e3:decide (b < -20000)=false) (e4:decide ((20000:Int)<b)=false)
  (da:den K 27 [I a] []=some (.ret (T (Lib.itoa a)) [])) (db:den K 27 [I b] []=some (.ret (T (Lib.itoa b)) []))
  (s1:(Lib.itoa a).length+1<ak) (s2:(Lib.itoa a).length+1+((Lib.itoa b).length+1)<ak) (s3:(Lib.itoa a).length+1+(Lib.itoa b).length<ak) (s4:(Lib.itoa b).length+1<ak) (s5:1+(Lib.itoa b).length<ak)
  (r1:den K 11 [T ((Lib.itoa a++[110])++Lib.itoa b)] []=some (.ret (.tup [.c (.pv (.sl (encL v1))),.c (.pv (.int .i64 0))]) [])) (r2:den K 11 [T (Lib.itoa b)] []=some (.ret (.tup [.c (.pv (.sl (encL v2))),.c (.pv (.int .i64 0))]) []))
  (n1:den K 13 [L (encL v1)] []=some (.ret (.tup [.c (.pv (.int .i64 0)),.c (.pv (.int .i64 0)),.c (.pv (.int .i64 40))]) [])) (n2:den K 13 [L (encL v2)] []=some (.ret (.tup [.c (.pv (.int .i64 0)),.c (.pv (.int .i64 b)),.c (.pv (.int .i64 0))]) []))
  (p1:decide (-9999≤a)=true) (p2:decide (a≤9999)=false) (p4:decide (-9999≤b)=true) (p5:decide (b≤9999)=true) (d1:decide ((0:Int)<b)=false) (d2:decide (b<0)=true) :
  den K 6 [I a,I b] []=some (.ret (B true) []):=by
 have hr:Tryz.f6.results = #[.tmp 4]:=rfl
 have hf:=bG
 have q0:((0:Int)==0)=true:=rfl
 have q40:((40:Int)==0)=false:=rfl
 refine ae rfl rfl Tryz.func6 rfl Tryz.ntmps6 ⟨by simp,by simp[LK]⟩ ?_
 simp (maxSteps:=2000000) only[go_sem,Nat.reduceLT,reduceCtorEq,Nat.reduceEqDiff,Nat.reduceBEq,Nat.reduceAdd,hr,hf,e1,e2,e3,e4,da,db,d1,d2,r1,r2,n1,n2,p1,p2,p4,p5,s1,s2,s3,s5,q0,q40,TV.flat]
set_option maxHeartbeats 16000000 in
theorem vW (a b:Int) (v1 v2:List Val) (e1:decide (a < -20000)=false) (e2:decide ((20000:Int)<a)=false) (e3:decide (b < -20000)=false) (e4:decide ((20000:Int)<b)=false)
  (da:den K 27 [I a] []=some (.ret (T (Lib.itoa a)) [])) (db:den K 27 [I b] []=some (.ret (T (Lib.itoa b)) []))
  (s1:(Lib.itoa a).length+1<ak) (s2:(Lib.itoa a).length+1+((Lib.itoa b).length+1)<ak) (s3:(Lib.itoa a).length+1+(Lib.itoa b).length<ak) (s4:(Lib.itoa b).length+1<ak) (s5:1+(Lib.itoa b).length<ak)
  (r1:den K 11 [T ((Lib.itoa a++[110])++Lib.itoa b)] []=some (.ret (.tup [.c (.pv (.sl (encL v1))),.c (.pv (.int .i64 0))]) [])) (r2:den K 11 [T (Lib.itoa b)] []=some (.ret (.tup [.c (.pv (.sl (encL v2))),.c (.pv (.int .i64 0))]) []))
  (n1:den K 13 [L (encL v1)] []=some (.ret (.tup [.c (.pv (.int .i64 0)),.c (.pv (.int .i64 0)),.c (.pv (.int .i64 40))]) [])) (n2:den K 13 [L (encL v2)] []=some (.ret (.tup [.c (.pv (.int .i64 0)),.c (.pv (.int .i64 0)),.c (.pv (.int .i64 40))]) []))
  (p1:decide (-9999≤a)=true) (p2:decide (a≤9999)=true) (p4:decide (-9999≤b)=false) (p5:decide (b≤9999)=true) (d1:decide ((0:Int)<b)=false) (d2:decide (b<0)=true) :
  den K 6 [I a,I b] []=some (.ret (B true) []):=by
 have hr:Tryz.f6.results = #[.tmp 4]:=rfl
 have hf:=bG
 have q0:((0:Int)==0)=true:=rfl
 have q40:((40:Int)==0)=false:=rfl
 refine ae rfl rfl Tryz.func6 rfl Tryz.ntmps6 ⟨by simp,by simp[LK]⟩ ?_
 simp (maxSteps:=2000000) only[go_sem,Nat.reduceLT,reduceCtorEq,Nat.reduceEqDiff,Nat.reduceBEq,Nat.reduceAdd,hr,hf,e1,e2,e3,e4,da,db,d1,d2,r1,r2,n1,n2,p1,p2,p4,s1,s2,s3,s5,q40,TV.flat]
set_option maxHeartbeats 16000000 in
theorem vQ (a b:Int) (v1 v2:List Val) (e1:decide (a < -20000)=false) (e2:decide ((20000:Int)<a)=false) (e3:decide (b < -20000)=false) (e4:decide ((20000:Int)<b)=false)
  (da:den K 27 [I a] []=some (.ret (T (Lib.itoa a)) [])) (db:den K 27 [I b] []=some (.ret (T (Lib.itoa b)) []))
  (s1:(Lib.itoa a).length+1<ak) (s2:(Lib.itoa a).length+1+((Lib.itoa b).length+1)<ak) (s3:(Lib.itoa a).length+1+(Lib.itoa b).length<ak) (s4:(Lib.itoa b).length+1<ak) (s5:1+(Lib.itoa b).length<ak)
  (r1:den K 11 [T ((Lib.itoa a++[110])++Lib.itoa b)] []=some (.ret (.tup [.c (.pv (.sl (encL v1))),.c (.pv (.int .i64 0))]) [])) (r2:den K 11 [T (Lib.itoa b)] []=some (.ret (.tup [.c (.pv (.sl (encL v2))),.c (.pv (.int .i64 0))]) []))
  (n1:den K 13 [L (encL v1)] []=some (.ret (.tup [.c (.pv (.int .i64 a)),.c (.pv (.int .i64 b)),.c (.pv (.int .i64 0))]) [])) (n2:den K 13 [L (encL v2)] []=some (.ret (.tup [.c (.pv (.int .i64 0)),.c (.pv (.int .i64 b)),.c (.pv (.int .i64 0))]) []))
  (p1:decide (-9999≤a)=true) (p2:decide (a≤9999)=true) (p4:decide (-9999≤b)=true) (p5:decide (b≤9999)=true) (d1:decide ((0:Int)<b)=false) (d2:decide (b<0)=true) :
  den K 6 [I a,I b] []=some (.ret (B true) []):=by
 have hr:Tryz.f6.results = #[.tmp 4]:=rfl
 have hf:=bG
 have q0:((0:Int)==0)=true:=rfl
 have q40:((40:Int)==0)=false:=rfl
 refine ae rfl rfl Tryz.func6 rfl Tryz.ntmps6 ⟨by simp,by simp[LK]⟩ ?_
 simp (maxSteps:=2000000) only[go_sem,Nat.reduceLT,reduceCtorEq,Nat.reduceEqDiff,Nat.reduceBEq,Nat.reduceAdd,hr,hf,e1,e2,e3,e4,da,db,d1,d2,r1,r2,n1,n2,p1,p2,p4,p5,s1,s2,s3,s5,q0,TV.flat]
end Go.Abs
