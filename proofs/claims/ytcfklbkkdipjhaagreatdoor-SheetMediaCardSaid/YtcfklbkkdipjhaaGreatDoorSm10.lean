/-
  WHAT THE FUNCTIONS COMPUTE, layer 8: a sheet of one at-rule of media, with conditions of whatever widths.
  (And 1 texts more.)
-/
import Derived.Test.YtcfklbkkdipjhaaGreatDoorSm9
set_option maxHeartbeats 8000000
open Nat (reduceEqDiff reduceAdd reduceLT reduceMul)
set_option linter.unusedSimpArgs false
set_option linter.unusedVariables false
namespace Go.Abs
open Go Go.Proofs
set_option maxRecDepth 100000
attribute [local go_sem] cG bA cj bF bH cF cf ce ay aV aR bw bU bg opd avOf cvOf St.degAt St.put okPV dr okAV cQ cR cP cv aj if_true Bool.false_eq_true if_false Option.map_some Option.map_none Option.bind_some Option.bind_none du dh upd List.toList_toArray bC steal aH mvB cX cw bR AV.deg CV.deg AV.gv AV.isIter co cg bG List.length_nil List.length_cons List.filterMap_cons List.filterMap_nil beq_iff_eq List.getElem?_cons_zero List.getElem?_cons_succ Option.getD_some eG fh Bool.false_and Bool.and_false Bool.and_self K_P fT bv bO aJ lend back idx dedup AV.ren CV.ren TV.ren AV.ptrs CV.ptrs ck AV.flat CV.flat bL bu az bV cz dK bD ar bK aQ bd bt aP dV CV.pv? content aN ownT aD reps pvs chunks aZ leave dT bW cN bf aK TV.deg TV.av LK CV.plain CV.noBld cq dS bound List.map_cons List.map_nil List.all_cons List.all_nil List.any_cons List.any_nil List.contains_cons List.contains_nil List.elem_cons List.elem_nil List.cons_append List.nil_append List.append_nil List.flatMap_cons List.flatMap_nil List.zip_cons_cons List.zip_nil_left List.zip_nil_right List.take_succ_cons List.take_zero List.take_nil List.drop_succ_cons List.drop_zero List.drop_nil List.isEmpty_nil List.isEmpty_cons Bool.and_true Bool.true_and Bool.or_true Bool.true_or Bool.or_false Bool.false_or Bool.not_true Bool.not_false Nat.add_zero Nat.zero_add Option.isNone_none Option.isNone_some Option.getD_none true_and and_true not_true_eq_false not_false_eq_true decide_true decide_false Nat.le_refl and_self Bool.not_eq_true Nat.sub_self or_true true_or Option.some.injEq List.length_map List.nil_eq and_false false_and AV.live CV.live CV.liveIn dX ax Option.orElse_some Option.orElse_none head aI aF Int.lt_irrefl List.length_append ite_self dt br bZ aY Key.clash Key.sees Key.writes Nat.lt_irrefl gt_iff_lt ci dp false_or or_false beq_self_eq_true Bool.true_beq Bool.false_beq xj ng nf Ca uX qJ AR aE dY lG rq vI rF
abbrev stmM (a b c:Int):Sh.Stm:=⟨true,Sh.jC,Sh.preM a b c,Sh.blkM,true⟩
theorem Ae (a b c:Int):den K 55 [L (encL (Sh.medV a b c))] []=some (.ret (.tup [.agg (Stm.cells (stmM a b c)),.c (.pv (.sl (encL [])))]) []):=dL.2 ⟨60,by kernel_rfl⟩
noncomputable def blkY:List (List PV):=match bQ K 400 30 [L (encL Sh.blkM),I 2] [] with
 | some (.ret (.c (.pv (.sl y))) [])=>y
 | _=>[]
theorem xU:den K 30 [L (encL Sh.blkM),I 2] []=some (.ret (L blkY) []):=dL.2 ⟨400,by kernel_rfl⟩
theorem tf:blkY.length=1:=by kernel_rfl
theorem CD (a b c:Int):MdOk (Sl.words (Sh.preM a b c)):=by
 rw[Sh.jZ];intro w hw k t l e;subst e;simp only[List.mem_cons,List.not_mem_nil,or_false] at hw;rcases hw with h|h|h|h|h
 all_goals
  injection h with h h'
  injection h with h1 h2 h3
  subst h2;subst h3;exact⟨by decide,Nat.le_of_ble_eq_true rfl⟩
noncomputable abbrev medY (a b c:Int):List PV:=[.int .i64 2,.sl [],.sl [],.sl [],.int .i64 (max a c),.int .i64 b,.sl [],.sl blkY]
theorem wO {a b c:Int} (hc:Sh.okW c):den K 109 [.agg (Stm.cells (stmM a b c))] [] =
  some (.ret (.tup [.agg (if Sh.okW a∧Sh.okW b then(medY a b c).map CV.pv else vP),.c (.pv (.bool (decide (Sh.okW a∧Sh.okW b))))]) []):=by
 have h:=xX true true Sh.jC (Sh.preM a b c) Sh.blkM (Nat.le_of_ble_eq_true rfl) (CD a b c) (by rw[Sh.jZ];exact Nat.le_of_ble_eq_true rfl) blkY xU
 rw[Sh.wq hc] at h;have hl:(Sl.words (Sh.preM a b c)).length=5:=by rw[Sh.jZ];rfl
 have hy:blkY.isEmpty=false:=by
  have:=tf
  cases hq:blkY with
  | nil=>rw[hq] at this;cases this
  | cons=>rfl
 by_cases hab:Sh.okW a∧Sh.okW b
 ·rw[if_pos hab] at h ⊢;rw[decide_eq_true hab];unfold yO at h;simp only at h;rw[hl,hy] at h;exact h
 ·rw[if_neg hab] at h ⊢;rw[decide_eq_false hab];exact h
theorem AB {a b c:Int} (hc:Sh.okW c):den K 56 [.agg (Stm.cells (stmM a b c)),I 0] [] =
  some (.ret (.tup [.agg (if Sh.okW a∧Sh.okW b then(medY a b c).map CV.pv else vP),.c (.pv (.bool (decide (Sh.okW a∧Sh.okW b))))]) []):=by
 have h:=wO (a:=a) (b:=b) hc
 rw[zK (K:=K) (F:=si goods.contains) rfl rfl];have hk:ko Sh.jC 0=some 109:=rfl
 have hg:goods.contains 109=true:=by kernel_rfl
 unfold si;simp only[Stm.cells,hk];rw[if_neg (by decide),if_pos hg,Plan.run]
 simp only[Stm.cells] at h;rw[h];simp only;by_cases hab:Sh.okW a∧Sh.okW b
 ·rw[if_pos hab,if_pos (by rfl)];rfl
 ·rw[if_neg hab,if_pos (by rfl)];rfl
noncomputable def itlp:Code:=.loop (aO Tryz.f30 3)
abbrev itH (l:List Val) (e:Nat) (out:List (List PV)):St :=
  { sl:=upd (upd (upd bot 5 (.c (.own e out))) 1 (I 0)) 0 (L (encL l)),bx:=nobox,nt:=33 }
structure ItEnds (y:List (List PV)) (x:Out) (S:St):Prop where
 o:x=.exit 0
 nt:S.nt=33
 s5:∃ e,S.sl 5=.c (.own e y)
theorem CR (e:Nat) (out:List (List PV)):Ends (exL K 30 itlp (itH [] e out)) (ItEnds out):=by
 have d0:decide ((0:Int)<(((encL []).length:Nat):Int))=false:=rfl
 unfold itlp
 conv in aO _ _=>whnf
 rw[aB];simp only[go_sem,reduceLT,reduceCtorEq,reduceEqDiff,Nat.reduceBEq,reduceAdd,ah af,d0,aX];exact⟨rfl,rfl,_,rfl⟩
theorem Cw {a b c:Int} (hc:Sh.okW c):Ends (exL K 30 itlp (itH (Sh.medV a b c) 0 [])) (ItEnds (if Sh.okW a∧Sh.okW b then [medY a b c] else [])):=by
 have d0:decide ((0:Int)<(((encL (Sh.medV a b c)).length:Nat):Int))=true:=rfl
 have hn:=Ae a b c
 have hi:=AB (a:=a) (b:=b) hc
 have ht:=gb [] (by simp)
 have t0:Sl.trim []=[]:=rfl
 rw[t0] at ht;have a1:(1<fg)=True:=by simp[fg]
 have l0:lens 8 []=true:=rfl
 have l1:lens 8 [medY a b c]=true:=rfl
 have hend:=CR
 unfold itlp at hend ⊢
 conv at hend in aO _ _=>whnf
 conv in aO _ _=>whnf
 by_cases hab:Sh.okW a∧Sh.okW b
 ·rw[if_pos hab] at hi ⊢;rw[decide_eq_true hab] at hi;simp only[Stm.cells] at hn hi;rw[aB];simp only[go_sem,reduceLT,reduceCtorEq,reduceEqDiff,Nat.reduceBEq,reduceAdd,reduceMul,ah af,bo (len:=1) bT dY aE ⟨rfl,by decide,by decide⟩,eZ km,dk bT,d0,hn,hi,ht,a1,l0,l1,TV.flat,Option.some.injEq]
  rw[bN];simp only[go_sem,reduceCtorEq,reduceEqDiff];exact hend _ _
 ·rw[if_neg hab] at hi ⊢;rw[decide_eq_false hab] at hi;simp only[Stm.cells] at hn hi;rw[aB];simp only[go_sem,reduceLT,reduceCtorEq,reduceEqDiff,Nat.reduceBEq,reduceAdd,reduceMul,ah af,bo (len:=1) bT dY aE ⟨rfl,by decide,by decide⟩,eZ km,dk bT,d0,hn,hi,ht,a1,l0,TV.flat,Option.some.injEq]
  rw[bN];simp only[go_sem,reduceCtorEq,reduceEqDiff];exact hend _ _
theorem xd {a b c:Int} (hc:Sh.okW c):den K 30 [L (encL (Sh.medV a b c)),I 0] []=some (.ret (L (if Sh.okW a∧Sh.okW b then [medY a b c] else [])) []):=by
 have hr:Tryz.f30.results=#[.tmp 4]:=rfl
 have h:=Cw (a:=a) (b:=b) hc
 have ht:=gb (Sh.medV a b c) (by rw[show (Sh.medV a b c).length=12 from rfl];decide)
 have tm:Sl.trim (Sh.medV a b c)=Sh.medV a b c:=rfl
 rw[tm] at ht;unfold itlp at h
 conv at h in aO _ _=>whnf
 obtain⟨o,S,w,rfl,hn,e,h5⟩:=h;simp only[itH] at w
 refine ak rfl rfl Tryz.func30 rfl Tryz.ntmps30 ⟨by simp,by simp[LK]⟩ ?_
 simp only[go_sem,reduceLT,reduceCtorEq,reduceEqDiff,Nat.reduceBEq,reduceAdd,ht];rw[bN];simp only[go_sem,reduceCtorEq,reduceEqDiff];erw [w];simp only[go_sem,reduceLT,reduceEqDiff,Nat.reduceBEq,reduceAdd,hr,hn,h5]
theorem xn {a b c:Int} (ha : -200000≤a∧a≤200000) (hb : -200000≤b∧b≤200000) (hc:Sh.okW c) (hlen:(Sh.medS a b c).length≤1000) :
  den K 9 [T (Sh.medS a b c)] []=some (.ret (.tup [.c (.pv (.sl (if Sh.okW a∧Sh.okW b then [medY a b c] else []))),.c (.pv (.int .i64 0))]) []):=by
 have hr:Tryz.f9.results=#[.tmp 2,.tmp 3]:=rfl
 have hal:=Tk.vw (Sh.medS a b c)
 have hrd:=pN (Sh.medS a b c) (by omega) (by omega)
 unfold ro at hrd;rw[Sh.yF ha hb (by unfold Sh.okW at hc;omega)] at hrd
 simp only at hrd;have hi:den K 12 [L (encL (Sh.medV a b c))] []=some (.ret (L (if Sh.okW a∧Sh.okW b then [medY a b c] else [])) []):=by
  have hr:Tryz.f12.results=#[.tmp 2]:=rfl
  have h:=xd (a:=a) (b:=b) hc
  refine ak rfl rfl Tryz.func12 rfl Tryz.ntmps12 ⟨by simp,by simp[LK]⟩ ?_
  simp only[go_sem,reduceLT,reduceCtorEq,reduceEqDiff,Nat.reduceBEq,reduceAdd,hr,h]
 have e0:((0:Int) != 0)=false:=rfl
 refine ak rfl rfl Tryz.func9 rfl Tryz.ntmps9 ⟨by simp,by simp[LK]⟩ ?_
 simp only[go_sem,reduceLT,reduceCtorEq,reduceEqDiff,Nat.reduceBEq,reduceAdd,hr,hrd,hi,e0,TV.flat]
end Go.Abs
namespace Go.Abs
open Go Go.Proofs
set_option maxRecDepth 10000
attribute [local go_sem] cG bA cj bF bH cF cf ce ay aV aR bw bU bg opd avOf cvOf St.degAt St.put okPV dr okAV cQ cR cP cv aj if_true Bool.false_eq_true if_false Option.map_some Option.map_none Option.bind_some Option.bind_none du dh upd List.toList_toArray bC steal aH mvB cX cw bR AV.deg CV.deg AV.gv AV.isIter co cg bG List.length_nil List.length_cons List.filterMap_cons List.filterMap_nil beq_iff_eq List.getElem?_cons_zero List.getElem?_cons_succ Option.getD_some eG fh Bool.false_and Bool.and_false Bool.and_self K_P fT bv bO aJ lend back idx dedup AV.ren CV.ren TV.ren AV.ptrs CV.ptrs ck AV.flat CV.flat bL bu az bV cz dK bD ar bK aQ bd bt aP dV CV.pv? content aN ownT aD reps pvs chunks aZ leave dT bW cN bf aK TV.deg TV.av LK CV.plain CV.noBld cq dS bound List.map_cons List.map_nil List.all_cons List.all_nil List.any_cons List.any_nil List.contains_cons List.contains_nil List.elem_cons List.elem_nil List.cons_append List.nil_append List.append_nil List.flatMap_cons List.flatMap_nil List.zip_cons_cons List.zip_nil_left List.zip_nil_right List.take_succ_cons List.take_zero List.take_nil List.drop_succ_cons List.drop_zero List.drop_nil List.isEmpty_nil List.isEmpty_cons Bool.and_true Bool.true_and Bool.or_true Bool.true_or Bool.or_false Bool.false_or Bool.not_true Bool.not_false Nat.add_zero Nat.zero_add Option.isNone_none Option.isNone_some Option.getD_none true_and and_true not_true_eq_false not_false_eq_true decide_true decide_false Nat.le_refl and_self Bool.not_eq_true Nat.sub_self or_true true_or Option.some.injEq List.length_map List.nil_eq and_false false_and AV.live CV.live CV.liveIn dX ax Option.orElse_some Option.orElse_none head aI aF Int.lt_irrefl List.length_append ite_self dt br bZ aY Key.clash Key.sees Key.writes Nat.lt_irrefl gt_iff_lt ci dp false_or or_false beq_self_eq_true Bool.true_beq Bool.false_beq
def Prt.enc (p:Prt):List PV:=[.int .i64 p.comb,.sl (p.l.map Sim.enc)]
def Cpx.enc (c:Cpx):List PV:=[.sl (c.parts.map Prt.enc),.str c.pseudo]
end Go.Abs
