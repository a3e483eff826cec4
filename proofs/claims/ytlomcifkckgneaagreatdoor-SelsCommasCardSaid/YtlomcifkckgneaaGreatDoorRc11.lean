/-
  WHAT THE FUNCTIONS COMPUTE, layer 4, the document's reader of selectors: a simple selector.
-/
import Derived.Test.YtlomcifkckgneaaGreatDoorRc10
set_option linter.unusedSimpArgs false
set_option linter.unusedVariables false
namespace Go.Abs
open Go Go.Proofs
set_option maxRecDepth 10000
attribute [local go_sem] cM bt ck bJ bH cL cq co aR bU bO ci cN bF opd avOf cvOf St.degAt St.put okPV dA okAV cZ cY cX cG aH if_true Bool.false_eq_true if_false Option.map_some Option.map_none Option.bind_some Option.bind_none dC dr upd List.toList_toArray cA steal bm mvB c8 cF cE AV.deg CV.deg AV.gv AV.isIter cy cj bK List.length_nil List.length_cons List.filterMap_cons List.filterMap_nil beq_iff_eq List.getElem?_cons_zero List.getElem?_cons_succ Option.getD_some dE ev Bool.false_and Bool.and_false Bool.and_self K_P eN bZ cz bh lend back idx dedup AV.ren CV.ren TV.ren AV.ptrs CV.ptrs cH AV.flat CV.flat cf bQ aV cK cQ dM bW aM bX bc bv bR bd d8 CV.pv? content bo ownT aW reps pvs chunks bM leave dU cw cV bG bg TV.deg TV.av LK CV.plain CV.noBld cJ dX bound List.map_cons List.map_nil List.all_cons List.all_nil List.any_cons List.any_nil List.contains_cons List.contains_nil List.elem_cons List.elem_nil List.cons_append List.nil_append List.append_nil List.flatMap_cons List.flatMap_nil List.zip_cons_cons List.zip_nil_left List.zip_nil_right List.take_succ_cons List.take_zero List.take_nil List.drop_succ_cons List.drop_zero List.drop_nil List.isEmpty_nil List.isEmpty_cons Bool.and_true Bool.true_and Bool.or_true Bool.true_or Bool.or_false Bool.false_or Bool.not_true Bool.not_false Nat.add_zero Nat.zero_add Option.isNone_none Option.isNone_some Option.getD_none true_and and_true not_true_eq_false not_false_eq_true decide_true decide_false Nat.le_refl and_self Bool.not_eq_true Nat.sub_self or_true true_or Option.some.injEq List.length_map List.nil_eq and_false false_and AV.live CV.live CV.liveIn dq aX Option.orElse_some Option.orElse_none head a7 a6 Int.lt_irrefl List.length_append ite_self dz ce cO bu Key.clash Key.sees Key.writes Nat.lt_irrefl gt_iff_lt cg dc false_or or_false beq_self_eq_true Bool.true_beq Bool.false_beq dw ag dJ bC lB dS ab aQ cx dH aI b7 az a8 eJ cR eD kf iI c5
def lQ (g:List Val→Option (Sim×List Val)) (l:List Val):Option (Sim×List Val) :=
  match Sl.tokK 4 l with
  | some t=>some (.mk 3 t.text [] 0 0 [],l.tail)
  | none =>
  match Sl.sign [46] l with
  | some r=>(Sl.name r).map fun x=>(.mk 4 x.1 [] 0 0 [],x.2)
  | none =>
  match Sl.sign [58] l with
  | some r=>Sl.colon g r
  | none =>
  match Sl.gu 3 l with
  | some x=>(Sl.attr x.1.2).map fun y=>(y,x.2)
  | none=>none
theorem vC (g:List Val→Option (Sim×List Val)) (l:List Val):i8 g false l=lQ g l:=rfl
theorem wt (g:List Val→Option (Sim×List Val)) (l:List Val) (h1:Sl.tokK 1 l=none) (h2:Sl.sign [42] l=none):i8 g true l=lQ g l:=by
 unfold i8
 simp only[h1,h2,if_true]
 rfl
end Go.Abs
