/-
  SelsAhead, as the interpreter answers it: a sign ahead, and too many parts.
-/
import Derived.Test.YtlomcifkckgneaaGreatDoorRa18
set_option linter.unusedSimpArgs false
set_option linter.unusedVariables false
namespace Go.Abs
open Go Go.Proofs
set_option maxRecDepth 10000
attribute [local go_sem] cA bm bU bD bB cz bQ bS aG bv bq bL cg br opd avOf cvOf St.degAt St.put okPV db okAV cN cM cO cd aq if_true Bool.false_eq_true if_false Option.map_some Option.map_none Option.bind_some Option.bind_none c9 c5 upd List.toList_toArray bO steal aZ mvB cR cf b7 AV.deg CV.deg AV.gv AV.isIter b9 bT bC List.length_nil List.length_cons List.filterMap_cons List.filterMap_nil beq_iff_eq List.getElem?_cons_zero List.getElem?_cons_succ Option.getD_some du d5 Bool.false_and Bool.and_false Bool.and_self K_P eF bF bV aW lend back idx dedup AV.ren CV.ren TV.ren AV.ptrs CV.ptrs ce AV.flat CV.flat bM bz aJ cj cx dp bE aE bK a7 bh bA a8 dP CV.pv? content bf ownT aL reps pvs chunks bu leave dL bW cJ bt aX TV.deg TV.av LK CV.plain CV.noBld cm dF bound List.map_cons List.map_nil List.all_cons List.all_nil List.any_cons List.any_nil List.contains_cons List.contains_nil List.elem_cons List.elem_nil List.cons_append List.nil_append List.append_nil List.flatMap_cons List.flatMap_nil List.zip_cons_cons List.zip_nil_left List.zip_nil_right List.take_succ_cons List.take_zero List.take_nil List.drop_succ_cons List.drop_zero List.drop_nil List.isEmpty_nil List.isEmpty_cons Bool.and_true Bool.true_and Bool.or_true Bool.true_or Bool.or_false Bool.false_or Bool.not_true Bool.not_false Nat.add_zero Nat.zero_add Option.isNone_none Option.isNone_some Option.getD_none true_and and_true not_true_eq_false not_false_eq_true decide_true decide_false Nat.le_refl and_self Bool.not_eq_true Nat.sub_self or_true true_or Option.some.injEq List.length_map List.nil_eq and_false false_and AV.live CV.live CV.liveIn dh aI Option.orElse_some Option.orElse_none head aO aN Int.lt_irrefl List.length_append ite_self dc bI ck bg Key.clash Key.sees Key.writes Nat.lt_irrefl gt_iff_lt bR cW false_or or_false beq_self_eq_true Bool.true_beq Bool.false_beq nV ot dk dA fU eU
set_option maxHeartbeats 16000000 in
theorem DU (s:List UInt8) (ps:List Prt) (z:List UInt8) (ht:decide ((300:Int)<(s.length:Int))=false) (hs:s.length≤300)
  (r1:den K 19 [T s] []=some (.ret (.tup [.c (.pv (.sl [[.sl (encQ ps),.str z]])),.c (.pv (.int .i64 0))]) []))
  (m1:den K 19 [T (97::46::98::32::s)] []=some (.ret (.tup [.c .nils,.c (.pv (.int .i64 40))]) [])) (hb:decide ((16:Int)≤(ps.length:Int))=true) :
  den K 8 [T s,I 1] []=some (.ret (B true) []):=by
 have hr:Tryz.f8.results = #[.tmp 4]:=rfl
 have hf:=ei
 have c1:decide ((1:Int)<1)=false:=rfl
 have c4:decide ((4:Int)<1)=false:=rfl
 have w1:IntKind.i64.wrap ((1:Int) - 1)=0:=rfl
 have ba:((0:Int)≤1∧(1:Int)≤((4:Nat):Int))=True:=by simp
 have tn:Int.toNat 1=1:=rfl
 have tn2:Int.toNat 0=0:=rfl
 have bb:((0:Int)≤0∧(0:Int)≤((1:Nat):Int))=True:=by simp
 have bb1:((0:Int)≤((1:Nat):Int))=True:=by simp
 have sub:List.drop 0 (List.take 1 ([32,62,43,126]:List UInt8))=[32]:=rfl
 have l1:0+1+1+1+(0+1)<aB:=by decide
 have l2:0+1+1+1+1+s.length<aB:=by unfold aB;omega
 have l3:1+1+1+1+s.length<aB:=by unfold aB;omega
 have l4:4+s.length<aB:=by unfold aB;omega
 have l5:s.length+1+1+1+1<aB:=by unfold aB;omega
 have q0:((0:Int)==0)=true:=rfl
 have q44:((40:Int)==40)=true:=rfl
 refine ab rfl rfl Tryz.func8 rfl Tryz.ntmps8 ⟨by simp,by simp[LK]⟩ ?_
 simp (maxSteps:=2000000) only[go_sem,Nat.reduceLT,reduceCtorEq,Nat.reduceEqDiff,Nat.reduceBEq,Nat.reduceAdd,aF az,ai ax,ak az,aw ax,ai ay,hr,hf,ht,c4,w1,r1,m1,hb,ba,tn,tn2,bb1,l1,l2,q0,q44,dr,j6,le00,bne,TV.flat]
set_option maxHeartbeats 16000000 in
theorem DG (s:List UInt8) (ps:List Prt) (z:List UInt8) (ht:decide ((300:Int)<(s.length:Int))=false) (hs:s.length≤300)
  (r1:den K 19 [T s] []=some (.ret (.tup [.c (.pv (.sl [[.sl (encQ ps),.str z]])),.c (.pv (.int .i64 0))]) []))
  (m1:den K 19 [T (97::46::98::62::s)] []=some (.ret (.tup [.c .nils,.c (.pv (.int .i64 40))]) [])) (hb:decide ((16:Int)≤(ps.length:Int))=true) :
  den K 8 [T s,I 2] []=some (.ret (B true) []):=by
 have hr:Tryz.f8.results = #[.tmp 4]:=rfl
 have hf:=ei
 have c1:decide ((2:Int)<1)=false:=rfl
 have c4:decide ((4:Int)<2)=false:=rfl
 have w1:IntKind.i64.wrap ((2:Int) - 1)=1:=rfl
 have ba:((0:Int)≤2∧(2:Int)≤((4:Nat):Int))=True:=by simp
 have tn:Int.toNat 2=2:=rfl
 have tn2:Int.toNat 1=1:=rfl
 have bb:((0:Int)≤1∧(1:Int)≤((2:Nat):Int))=True:=by simp
 have bb1:((0:Int)≤((1:Nat):Int))=True:=by simp
 have sub:List.drop 1 (List.take 2 ([32,62,43,126]:List UInt8))=[62]:=rfl
 have l1:0+1+1+1+(0+1)<aB:=by decide
 have l2:0+1+1+1+1+s.length<aB:=by unfold aB;omega
 have l3:1+1+1+1+s.length<aB:=by unfold aB;omega
 have l4:4+s.length<aB:=by unfold aB;omega
 have l5:s.length+1+1+1+1<aB:=by unfold aB;omega
 have q0:((0:Int)==0)=true:=rfl
 have q44:((40:Int)==40)=true:=rfl
 refine ab rfl rfl Tryz.func8 rfl Tryz.ntmps8 ⟨by simp,by simp[LK]⟩ ?_
 simp (maxSteps:=2000000) only[go_sem,Nat.reduceLT,reduceCtorEq,Nat.reduceEqDiff,Nat.reduceBEq,Nat.reduceAdd,aF az,ai ax,ak az,aw ax,ai ay,hr,hf,ht,c1,c4,w1,r1,m1,hb,ba,tn,tn2,bb,l1,l2,q0,q44,dr,j6,le00,Int.toNat_zero,bne,TV.flat]
set_option maxHeartbeats 16000000 in
theorem D1 (s:List UInt8) (ps:List Prt) (z:List UInt8) (ht:decide ((300:Int)<(s.length:Int))=false) (hs:s.length≤300)
  (r1:den K 19 [T s] []=some (.ret (.tup [.c (.pv (.sl [[.sl (encQ ps),.str z]])),.c (.pv (.int .i64 0))]) []))
  (m1:den K 19 [T (97::46::98::43::s)] []=some (.ret (.tup [.c .nils,.c (.pv (.int .i64 40))]) [])) (hb:decide ((16:Int)≤(ps.length:Int))=true) :
  den K 8 [T s,I 3] []=some (.ret (B true) []):=by
 have hr:Tryz.f8.results = #[.tmp 4]:=rfl
 have hf:=ei
 have c1:decide ((3:Int)<1)=false:=rfl
 have c4:decide ((4:Int)<3)=false:=rfl
 have w1:IntKind.i64.wrap ((3:Int) - 1)=2:=rfl
 have ba:((0:Int)≤3∧(3:Int)≤((4:Nat):Int))=True:=by simp
 have tn:Int.toNat 3=3:=rfl
 have tn2:Int.toNat 2=2:=rfl
 have bb:((0:Int)≤2∧(2:Int)≤((3:Nat):Int))=True:=by simp
 have bb1:((0:Int)≤((1:Nat):Int))=True:=by simp
 have sub:List.drop 2 (List.take 3 ([32,62,43,126]:List UInt8))=[43]:=rfl
 have l1:0+1+1+1+(0+1)<aB:=by decide
 have l2:0+1+1+1+1+s.length<aB:=by unfold aB;omega
 have l3:1+1+1+1+s.length<aB:=by unfold aB;omega
 have l4:4+s.length<aB:=by unfold aB;omega
 have l5:s.length+1+1+1+1<aB:=by unfold aB;omega
 have q0:((0:Int)==0)=true:=rfl
 have q44:((40:Int)==40)=true:=rfl
 refine ab rfl rfl Tryz.func8 rfl Tryz.ntmps8 ⟨by simp,by simp[LK]⟩ ?_
 simp (maxSteps:=2000000) only[go_sem,Nat.reduceLT,reduceCtorEq,Nat.reduceEqDiff,Nat.reduceBEq,Nat.reduceAdd,aF az,ai ax,ak az,aw ax,ai ay,hr,hf,ht,c1,c4,w1,r1,m1,hb,ba,tn,tn2,bb,l1,l2,q0,q44,dr,j6,le00,Int.toNat_zero,bne,TV.flat]
set_option maxHeartbeats 16000000 in
theorem DI (s:List UInt8) (ps:List Prt) (z:List UInt8) (ht:decide ((300:Int)<(s.length:Int))=false) (hs:s.length≤300)
  (r1:den K 19 [T s] []=some (.ret (.tup [.c (.pv (.sl [[.sl (encQ ps),.str z]])),.c (.pv (.int .i64 0))]) []))
  (m1:den K 19 [T (97::46::98::126::s)] []=some (.ret (.tup [.c .nils,.c (.pv (.int .i64 40))]) [])) (hb:decide ((16:Int)≤(ps.length:Int))=true) :
  den K 8 [T s,I 4] []=some (.ret (B true) []):=by
 have hr:Tryz.f8.results = #[.tmp 4]:=rfl
 have hf:=ei
 have c1:decide ((4:Int)<1)=false:=rfl
 have c4:decide ((4:Int)<4)=false:=rfl
 have w1:IntKind.i64.wrap ((4:Int) - 1)=3:=rfl
 have ba:((0:Int)≤4∧(4:Int)≤((4:Nat):Int))=True:=by simp
 have tn:Int.toNat 4=4:=rfl
 have tn2:Int.toNat 3=3:=rfl
 have bb:((0:Int)≤3∧(3:Int)≤((4:Nat):Int))=True:=by simp
 have bb1:((0:Int)≤((1:Nat):Int))=True:=by simp
 have sub:List.drop 3 (List.take 4 ([32,62,43,126]:List UInt8))=[126]:=rfl
 have l1:0+1+1+1+(0+1)<aB:=by decide
 have l2:0+1+1+1+1+s.length<aB:=by unfold aB;omega
 have l3:1+1+1+1+s.length<aB:=by unfold aB;omega
 have l4:4+s.length<aB:=by unfold aB;omega
 have l5:s.length+1+1+1+1<aB:=by unfold aB;omega
 have q0:((0:Int)==0)=true:=rfl
 have q44:((40:Int)==40)=true:=rfl
 refine ab rfl rfl Tryz.func8 rfl Tryz.ntmps8 ⟨by simp,by simp[LK]⟩ ?_
 simp (maxSteps:=2000000) only[go_sem,Nat.reduceLT,reduceCtorEq,Nat.reduceEqDiff,Nat.reduceBEq,Nat.reduceAdd,aF az,ai ax,ak az,aw ax,ai ay,hr,hf,ht,c1,w1,r1,m1,hb,ba,tn,tn2,bb,l1,l2,q0,q44,dr,j6,le00,Int.toNat_zero,bne,TV.flat]
end Go.Abs
