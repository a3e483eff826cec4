/-
  WHAT THE FUNCTIONS COMPUTE, layer 4, the document's reader of selectors: what stands behind a sign :, and a simple selector, whole.
-/
import Derived.Test.YtlomcifkckgneaaGreatDoorRc4
import Derived.Test.YtlomcifkckgneaaGreatDoorRc6
import Derived.Test.YtlomcifkckgneaaGreatDoorRc7
set_option linter.unusedSimpArgs false
set_option linter.unusedVariables false
namespace Go.Abs
open Go Go.Proofs
set_option maxRecDepth 10000
attribute [local go_sem] cM bt ck bJ bH cL cq co aR bU bO ci cN bF opd avOf cvOf St.degAt St.put okPV dA okAV cZ cY cX cG aH if_true Bool.false_eq_true if_false Option.map_some Option.map_none Option.bind_some Option.bind_none dC dr upd List.toList_toArray cA steal bm mvB c8 cF cE AV.deg CV.deg AV.gv AV.isIter cy cj bK List.length_nil List.length_cons List.filterMap_cons List.filterMap_nil beq_iff_eq List.getElem?_cons_zero List.getElem?_cons_succ Option.getD_some dE ev Bool.false_and Bool.and_false Bool.and_self K_P eN bZ cz bh lend back idx dedup AV.ren CV.ren TV.ren AV.ptrs CV.ptrs cH AV.flat CV.flat cf bQ aV cK cQ dM bW aM bX bc bv bR bd d8 CV.pv? content bo ownT aW reps pvs chunks bM leave dU cw cV bG bg TV.deg TV.av LK CV.plain CV.noBld cJ dX bound List.map_cons List.map_nil List.all_cons List.all_nil List.any_cons List.any_nil List.contains_cons List.contains_nil List.elem_cons List.elem_nil List.cons_append List.nil_append List.append_nil List.flatMap_cons List.flatMap_nil List.zip_cons_cons List.zip_nil_left List.zip_nil_right List.take_succ_cons List.take_zero List.take_nil List.drop_succ_cons List.drop_zero List.drop_nil List.isEmpty_nil List.isEmpty_cons Bool.and_true Bool.true_and Bool.or_true Bool.true_or Bool.or_false Bool.false_or Bool.not_true Bool.not_false Nat.add_zero Nat.zero_add Option.isNone_none Option.isNone_some Option.getD_none true_and and_true not_true_eq_false not_false_eq_true decide_true decide_false Nat.le_refl and_self Bool.not_eq_true Nat.sub_self or_true true_or Option.some.injEq List.length_map List.nil_eq and_false false_and AV.live CV.live CV.liveIn dq aX Option.orElse_some Option.orElse_none head a7 a6 Int.lt_irrefl List.length_append ite_self dz ce cO bu Key.clash Key.sees Key.writes Nat.lt_irrefl gt_iff_lt cg dc false_or or_false beq_self_eq_true Bool.true_beq Bool.false_beq dw ag az a8 dS c5 cx bC cu aQ dH aI b7 eJ cR eD kf iI
theorem CF (g : List Val → Option (Sim × List Val)) (c r : List Val) : (match g (Sl.trim c) with
       | some (x,[])=>if x.kind=11 then none else some (Sim.mk 11 [] [] 0 0 [x],r)
       | _=>none)=(notG g c).map fun x=>(x,r):=by
  unfold notG
  generalize g (Sl.trim c)=y
  match y with
  | none=>rfl
  | some (x,[]) =>
    simp only
    split<;>rfl
  | some (x,_::_)=>rfl
theorem HS (g:List Val→Option (Sim×List Val)) {l c r:List Val} {t:Tok} (h:Sl.gu 5 l=some ((t,c),r)) :
  Sl.colon g l=if t.text=Sl.nthT then (Sl.nthM c).map fun x=>(Sim.mk 8 [] [] x.1 x.2 [],r) else if t.text=Sl.notT then (notG g c).map fun x=>(x,r) else none:=by
 unfold Sl.colon
 rw[h]
 simp only
 split
 ·rfl
 ·split
  ·exact CF g c r
  ·rfl
theorem Ip (g:List Val→Option (Sim×List Val)) {l:List Val} (h:Sl.gu 5 l=none) :
  Sl.colon g l=match Sl.name l with
  | some (s,r)=>(Sl.fX s).map fun x=>(x,r)
  | none=>none:=by
 unfold Sl.colon
 rw[h]
 rfl
theorem xK (k:Int) (t:Tok) (c:List Val):iY k t c=[.pv (.int .i64 k),.pv (.int .i64 t.kind),.pv (.str t.text),.pv (.int .i64 t.n),.pv (.sl (encL c))]:=rfl
end Go.Abs
