/-
  THE FIXED CALLS OF LAYER 8, one by one: the interpreter's runs, by the kernel.
-/
import Derived.Test.YtcfklbkkdipjhaaGreatDoorSm11
set_option linter.unusedSimpArgs false
set_option linter.unusedVariables false
namespace Go.Abs
open Go Go.Proofs
open Sl (dv iv)
set_option maxRecDepth 100000
attribute [local go_sem] cG bA cj bF bH cF cf ce ay aV aR bw bU bg opd avOf cvOf St.degAt St.put okPV dr okAV cQ cR cP cv aj if_true Bool.false_eq_true if_false Option.map_some Option.map_none Option.bind_some Option.bind_none du dh upd List.toList_toArray bC steal aH mvB cX cw bR AV.deg CV.deg AV.gv AV.isIter co cg bG List.length_nil List.length_cons List.filterMap_cons List.filterMap_nil beq_iff_eq List.getElem?_cons_zero List.getElem?_cons_succ Option.getD_some eG fh Bool.false_and Bool.and_false Bool.and_self K_P fT bv bO aJ lend back idx dedup AV.ren CV.ren TV.ren AV.ptrs CV.ptrs ck AV.flat CV.flat bL bu az bV cz dK bD ar bK aQ bd bt aP dV CV.pv? content aN ownT aD reps pvs chunks aZ leave dT bW cN bf aK TV.deg TV.av LK CV.plain CV.noBld cq dS bound List.map_cons List.map_nil List.all_cons List.all_nil List.any_cons List.any_nil List.contains_cons List.contains_nil List.elem_cons List.elem_nil List.cons_append List.nil_append List.append_nil List.flatMap_cons List.flatMap_nil List.zip_cons_cons List.zip_nil_left List.zip_nil_right List.take_succ_cons List.take_zero List.take_nil List.drop_succ_cons List.drop_zero List.drop_nil List.isEmpty_nil List.isEmpty_cons Bool.and_true Bool.true_and Bool.or_true Bool.true_or Bool.or_false Bool.false_or Bool.not_true Bool.not_false Nat.add_zero Nat.zero_add Option.isNone_none Option.isNone_some Option.getD_none true_and and_true not_true_eq_false not_false_eq_true decide_true decide_false Nat.le_refl and_self Bool.not_eq_true Nat.sub_self or_true true_or Option.some.injEq List.length_map List.nil_eq and_false false_and AV.live CV.live CV.liveIn dX ax Option.orElse_some Option.orElse_none head aI aF Int.lt_irrefl List.length_append ite_self dt br bZ aY Key.clash Key.sees Key.writes Nat.lt_irrefl gt_iff_lt ci dp false_or or_false beq_self_eq_true Bool.true_beq Bool.false_beq rq vI rF
def fxS1:List UInt8:=[64,108,97,121,101,114,32,97,44,32,98,59,32,64,109,101,100,105,97,32,40,109,105,110,45,119,105,100,116,104,58,32,57,112,120,41,32,123,32,112,32,123,32,120,58,32,121,32,125,32,113,123,125,32,125,32,64,76,65,89,69,82,32,99,123,64,109,101,100,105,97,32,40,109,97,120,45,119,105,100,116,104,58,53,112,120,41,32,97,110,100,32,40,109,105,110,45,119,105,100,116,104,58,50,112,120,41,32,123,32,97,32,123,32,98,58,99,32,125,32,125,125,32,122,59,32,64,107,101,121,102,114,97,109,101,115,32,107,32,123,32,116,111,32,123,32,97,58,32,98,32,125,32,125,32,64,102,111,110,116,45,102,97,99,101,123,32,102,111,110,116,45,102,97,109,105,108,121,58,32,70,32,125]
def fxS2:List UInt8:=[97,123,98,58,99,125,64,107,101,121,102,114,97,109,101,115,32,107,32,123,116,111,123,97,58,98,125,125,64,120,32,121,59,64,108,97,121,101,114,32,100,59,64,109,101,100,105,97,32,112,114,105,110,116,123,97,123,98,58,99,125,125]
def fxV1:List Val:=(Sl.kT fxS1).getD []
def fxV2:List Val:=(Sl.kT fxS2).getD []
def vm (p x y:List UInt8):Itm:=.mk 1 [⟨[⟨0,[.mk 2 p [] 0 0 []]⟩],[]⟩] [⟨x,[iv y],false⟩] [] 0 0 [] []
def fxQ1:List (List PV):=encI [vm [112] [120] [121]]
def fxQ3:List (List PV):=encI [vm [97] [98] [99]]
def fxD3:List (List PV):=encD [⟨[102,111,110,116,45,102,97,109,105,108,121],[iv [70]],false⟩]
abbrev jh:List PV:=[.int .i64 4,.sl [],.sl [],.sl [[.str [97]],[.str [98]]],.int .i64 0,.int .i64 0,.sl [],.sl []]
abbrev jf:List PV:=[.int .i64 2,.sl [],.sl [],.sl [],.int .i64 9,.int .i64 (-1),.sl [],.sl fxQ1]
abbrev jH:List PV:=[.int .i64 3,.sl [],.sl [],.sl [[.str [99]]],.int .i64 0,.int .i64 0,.sl [],.sl [[.int .i64 2,.sl [],.sl [],.sl [],.int .i64 2,.int .i64 5,.sl [],.sl fxQ3]]]
abbrev jE:List PV:=[.int .i64 6,.sl [],.sl fxD3,.sl [],.int .i64 0,.int .i64 0,.sl [],.sl []]
def fxY2:List (List PV):=encI [vm [97] [98] [99],.mk 5 [] [] [[107]] 0 0 [iv [116,111],.mk 4 Ne.tok0 [iv [97],dv 58,iv [98]]] [],.mk 4 [] [] [[100]] 0 0 [] []]
def fxT1:List UInt8:=[97,123,98,58,99,125,64,107,101,121,102,114,97,109,101,115,10,107,123,116,111,123,97,58,98,125,125,64,108,97,121,101,114,10,100,59]
def fxT2:List UInt8:=[64,109,101,100,105,97,10,40,109,105,110,45,119,105,100,116,104,58,57,112,120,41,123,112,123,120,58,121,125,125]
theorem fxR1:Sl.kT fxS1=some fxV1:=by kernel_rfl
theorem fxR2:Sl.kT fxS2=some fxV2:=by kernel_rfl
theorem fxI1:bQ K 300 30 [L (encL fxV1),I 0] []=some (.ret (L [jh,jf,jH,jE]) []):=by kernel_rfl
theorem fxI2:bQ K 300 30 [L (encL fxV2),I 0] []=some (.ret (L fxY2) []):=by kernel_rfl
theorem fxX1:bQ K 400 17 [L fxY2] []=some (.ret (T fxT1) []):=by kernel_rfl
theorem fxX2:bQ K 400 17 [L [jf]] []=some (.ret (T fxT2) []):=by kernel_rfl
theorem fxM1:bQ K 400 19 [L [jh,jf,jH,jE]] []=some (.ret (B true) []):=by kernel_rfl
theorem fxM2:bQ K 400 19 [L [[.int .i64 0,.sl [],.sl [],.sl [],.int .i64 0,.int .i64 0,.sl [],.sl []]]] []=some (.ret (B false) []):=by kernel_rfl
theorem fxE1:bQ K 400 22 [L [jh,jf,jH,jE],L [jh,jf,jH,jE]] []=some (.ret (B true) []):=by kernel_rfl
theorem fxE2:bQ K 400 22 [L [jh,jf,jH,jE],L fxY2] []=some (.ret (B false) []):=by kernel_rfl
theorem pS {s:List UInt8} {v:List Val} {y:List (List PV)} (hs:s.length≤1000) (hv:Sl.kT s=some v) (hy:den K 30 [L (encL v),I 0] []=some (.ret (L y) [])) :
  den K 9 [T s] []=some (.ret (.tup [.c (.pv (.sl y)),.c (.pv (.int .i64 0))]) []):=by
 have hr:Tryz.f9.results=#[.tmp 2,.tmp 3]:=rfl
 have hal:=Tk.vw s
 have hrd:=pN s (by omega) (by omega)
 unfold ro at hrd;rw[hv] at hrd;simp only at hrd;have hi:den K 12 [L (encL v)] []=some (.ret (L y) []):=by
  have hr:Tryz.f12.results=#[.tmp 2]:=rfl
  refine ak rfl rfl Tryz.func12 rfl Tryz.ntmps12 ⟨by simp,by simp[LK]⟩ ?_
  simp only[go_sem,Nat.reduceLT,reduceCtorEq,Nat.reduceEqDiff,Nat.reduceBEq,Nat.reduceAdd,hr,hy]
 have e0:((0:Int) != 0)=false:=rfl
 refine ak rfl rfl Tryz.func9 rfl Tryz.ntmps9 ⟨by simp,by simp[LK]⟩ ?_
 simp only[go_sem,Nat.reduceLT,reduceCtorEq,Nat.reduceEqDiff,Nat.reduceBEq,Nat.reduceAdd,hr,hrd,hi,e0,TV.flat]
end Go.Abs
