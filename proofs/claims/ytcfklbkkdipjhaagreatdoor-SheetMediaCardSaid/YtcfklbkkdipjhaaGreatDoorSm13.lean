/-
  THE FIXED CALLS OF LAYER 8 answer as the document says.
-/
import Derived.Test.YtcfklbkkdipjhaaGreatDoorSm12
set_option linter.unusedSimpArgs false
set_option linter.unusedVariables false
namespace Go.Abs
open Go Go.Proofs
set_option maxRecDepth 100000
attribute [local go_sem] cG bA cj bF bH cF cf ce ay aV aR bw bU bg opd avOf cvOf St.degAt St.put okPV dr okAV cQ cR cP cv aj if_true Bool.false_eq_true if_false Option.map_some Option.map_none Option.bind_some Option.bind_none du dh upd List.toList_toArray bC steal aH mvB cX cw bR AV.deg CV.deg AV.gv AV.isIter co cg bG List.length_nil List.length_cons List.filterMap_cons List.filterMap_nil beq_iff_eq List.getElem?_cons_zero List.getElem?_cons_succ Option.getD_some eG fh Bool.false_and Bool.and_false Bool.and_self K_P fT bv bO aJ lend back idx dedup AV.ren CV.ren TV.ren AV.ptrs CV.ptrs ck AV.flat CV.flat bL bu az bV cz dK bD ar bK aQ bd bt aP dV CV.pv? content aN ownT aD reps pvs chunks aZ leave dT bW cN bf aK TV.deg TV.av LK CV.plain CV.noBld cq dS bound List.map_cons List.map_nil List.all_cons List.all_nil List.any_cons List.any_nil List.contains_cons List.contains_nil List.elem_cons List.elem_nil List.cons_append List.nil_append List.append_nil List.flatMap_cons List.flatMap_nil List.zip_cons_cons List.zip_nil_left List.zip_nil_right List.take_succ_cons List.take_zero List.take_nil List.drop_succ_cons List.drop_zero List.drop_nil List.isEmpty_nil List.isEmpty_cons Bool.and_true Bool.true_and Bool.or_true Bool.true_or Bool.or_false Bool.false_or Bool.not_true Bool.not_false Nat.add_zero Nat.zero_add Option.isNone_none Option.isNone_some Option.getD_none true_and and_true not_true_eq_false not_false_eq_true decide_true decide_false Nat.le_refl and_self Bool.not_eq_true Nat.sub_self or_true true_or Option.some.injEq List.length_map List.nil_eq and_false false_and AV.live CV.live CV.liveIn dX ax Option.orElse_some Option.orElse_none head aI aF Int.lt_irrefl List.length_append ite_self dt br bZ aY Key.clash Key.sees Key.writes Nat.lt_irrefl gt_iff_lt ci dp false_or or_false beq_self_eq_true Bool.true_beq Bool.false_beq zf dY gW cB bJ lW vk rt fA fD fw kL iT AY BF Bt AP rF
theorem CX:bQ K 100 15 [.c .nils] []=some (.ret (L []) []):=by kernel_rfl
theorem Ch:bQ K 100 12 [.c .nils] []=some (.ret (L []) []):=by kernel_rfl
theorem Dd:(((fxY2.length:Nat):Int)==3)=true:=by kernel_rfl
theorem Cy:(((fxQ1.length:Nat):Int)==1)=true:=by kernel_rfl
theorem fxC1:(fxT1==[97,123,98,58,99,125,64,107,101,121,102,114,97,109,101,115,10,107,123,116,111,123,97,58,98,125,125,64,108,97,121,101,114,10,100,59])=true:=by kernel_rfl
theorem fxC2:(fxT2==[64,109,101,100,105,97,10,40,109,105,110,45,119,105,100,116,104,58,57,112,120,41,123,112,123,120,58,121,125,125])=true:=by kernel_rfl
set_option maxHeartbeats 16000000 in
theorem uG:den K 8 [] []=some (.ret (B true) []):=by
 have hr:Tryz.f8.results=#[.tmp 0]:=rfl
 have h1:=pS (s:=fxS1) (by decide) fxR1 (dL.2 ⟨300,fxI1⟩)
 have h2:=pS (s:=fxS2) (by decide) fxR2 (dL.2 ⟨300,fxI2⟩)
 have h3:=dL.2 ⟨400,fxX1⟩
 have h4:=dL.2 ⟨400,fxX2⟩
 have h5:=dL.2 ⟨400,fxM1⟩
 have h6:=dL.2 ⟨400,fxM2⟩
 have h7:=dL.2 ⟨400,fxE1⟩
 have h8:=dL.2 ⟨400,fxE2⟩
 have h9:=dL.2 ⟨100,CX⟩
 have h10:=dL.2 ⟨100,Ch⟩
 unfold fxS1 at h1;unfold fxS2 at h2;have n0:((0:Int)==0)=true:=rfl
 have n1:((0:Int) != 0)=false:=rfl
 have l4:(((4:Nat):Int) != 4)=false:=rfl
 have k4:((4:Int) != 4)=false:=rfl
 have k2:((2:Int) != 2)=false:=rfl
 have k3:((3:Int) != 3)=false:=rfl
 have k6:((6:Int) != 6)=false:=rfl
 have p2:(((2:Nat):Int)==2)=true:=rfl
 have p9:((9:Int)==9)=true:=rfl
 have pm:((-1:Int) == -1)=true:=rfl
 have e2:((2:Int)==2)=true:=rfl
 have e5:((5:Int)==5)=true:=rfl
 have z0:(((0:Nat):Int)==0)=true:=rfl
 have g0:[jh,jf,jH,jE][(0:Int).toNat]? = some jh:=rfl
 have g1:[jh,jf,jH,jE][(1:Int).toNat]? = some jf:=rfl
 have g2:[jh,jf,jH,jE][(2:Int).toNat]? = some jH:=rfl
 have g3:[jh,jf,jH,jE][(3:Int).toNat]? = some jE:=rfl
 have i0:(0:Int).toNat=0:=rfl
 have i1:(1:Int).toNat=1:=rfl
 have i2:(2:Int).toNat=2:=rfl
 have i3:(3:Int).toNat=3:=rfl
 have le0:((0:Int)≤0)=True:=by simp
 have le1:((0:Int)≤1)=True:=by simp
 have le2:((0:Int)≤2)=True:=by simp
 have le3:((0:Int)≤3)=True:=by simp
 have b24:((2:Int)≤((4:Nat):Int))=True:=by simp
 have b12:((1:Int)≤((2:Nat):Int))=True:=by simp
 have ln8:lens 8 [jh,jf,jH,jE]=true:=rfl
 refine ak rfl rfl Tryz.func8 rfl Tryz.ntmps8 ⟨by simp,by simp[LK]⟩ ?_
 simp (maxSteps:=2000000) only[go_sem,Nat.reduceLT,reduceCtorEq,Nat.reduceEqDiff,Nat.reduceBEq,Nat.reduceAdd,Nat.reduceMul,ah bT,ag bT,ah qG,cS bT dY,bh aE bE,bo (len:=1) bT dY aE ⟨rfl,by decide,by decide⟩,ah af,hr,h1,h2,h3,h4,h5,h6,h7,h8,h9,h10,Dd,Cy,fxC1,fxC2,n0,n1,l4,k4,k2,k3,k6,p2,p9,pm,e2,e5,z0,i0,i1,i2,i3,le0,le1,le2,le3,b24,b12,ln8,List.append_eq,TV.flat]
end Go.Abs
