/-
  WHAT THE FUNCTIONS COMPUTE, layer 4: whether a simple selector may be, as the document tells, all kinds. (Printed by gens9.py.)
-/
import Derived.Test.YtlomcifkckgneaaGreatDoorRc21
import Derived.Test.YtlomcifkckgneaaGreatDoorRc22
import Derived.Test.YtlomcifkckgneaaGreatDoorRc23
import Derived.Test.YtlomcifkckgneaaGreatDoorRc24
set_option linter.unusedSimpArgs false
set_option linter.unusedVariables false
namespace Go.Abs
open Go Go.Proofs
set_option maxRecDepth 10000
attribute [local go_sem] cM bt ck bJ bH cL cq co aR bU bO ci cN bF opd avOf cvOf St.degAt St.put okPV dA okAV cZ cY cX cG aH if_true Bool.false_eq_true if_false Option.map_some Option.map_none Option.bind_some Option.bind_none dC dr upd List.toList_toArray cA steal bm mvB c8 cF cE AV.deg CV.deg AV.gv AV.isIter cy cj bK List.length_nil List.length_cons List.filterMap_cons List.filterMap_nil beq_iff_eq List.getElem?_cons_zero List.getElem?_cons_succ Option.getD_some dE ev Bool.false_and Bool.and_false Bool.and_self K_P eN bZ cz bh lend back idx dedup AV.ren CV.ren TV.ren AV.ptrs CV.ptrs cH AV.flat CV.flat cf bQ aV cK cQ dM bW aM bX bc bv bR bd d8 CV.pv? content bo ownT aW reps pvs chunks bM leave dU cw cV bG bg TV.deg TV.av LK CV.plain CV.noBld cJ dX bound List.map_cons List.map_nil List.all_cons List.all_nil List.any_cons List.any_nil List.contains_cons List.contains_nil List.elem_cons List.elem_nil List.cons_append List.nil_append List.append_nil List.flatMap_cons List.flatMap_nil List.zip_cons_cons List.zip_nil_left List.zip_nil_right List.take_succ_cons List.take_zero List.take_nil List.drop_succ_cons List.drop_zero List.drop_nil List.isEmpty_nil List.isEmpty_cons Bool.and_true Bool.true_and Bool.or_true Bool.true_or Bool.or_false Bool.false_or Bool.not_true Bool.not_false Nat.add_zero Nat.zero_add Option.isNone_none Option.isNone_some Option.getD_none true_and and_true not_true_eq_false not_false_eq_true decide_true decide_false Nat.le_refl and_self Bool.not_eq_true Nat.sub_self or_true true_or Option.some.injEq List.length_map List.nil_eq and_false false_and AV.live CV.live CV.liveIn dq aX Option.orElse_some Option.orElse_none head a7 a6 Int.lt_irrefl List.length_append ite_self dz ce cO bu Key.clash Key.sees Key.writes Nat.lt_irrefl gt_iff_lt cg dc false_or or_false beq_self_eq_true Bool.true_beq Bool.false_beq
theorem eG (l:List Sim):(((l.map Sim.enc).length:Int)==0)=l.isEmpty:=by rw[List.length_map];exact jK l
theorem wU {x:Sim} (hx:Sl.Sb 100000000 x):den K 107 [.agg (x.enc.map CV.pv)] []=some (.ret (B (Sl.oneB x)) []):=by
 induction hx with
 | @mk k n v a b l hn hv hl ih =>
  have hn':n.length<1000000000:=by omega
  have hv':v.length<1000000000:=by omega
  have e0:(Sim.mk k n v a b l).enc.map CV.pv=[.pv (.int .i64 k),.pv (.str n),.pv (.str v),.pv (.int .i64 a),.pv (.int .i64 b),.pv (.sl (l.map Sim.enc))]:=by rw[Sim.enc_mk];rfl
  rw[e0]
  by_cases hk:k<1∨11<k
  ·have e5:Sl.oneB (.mk k n v a b l)=false:=by
    rw[Sl.oneB,Sl.oneK,if_neg (by omega),if_neg (by omega),if_neg (by omega),if_neg (by omega),if_neg (by omega),if_neg (by omega),if_neg (by omega),if_neg (by omega)]
    rfl
   rw[e5]
   exact zB k hk n v a b _
  have hc:k=1∨k=2∨k=3∨k=4∨k=5∨k=6∨k=7∨k=8∨k=9∨k=10∨k=11:=by omega
  rcases hc with rfl|rfl|rfl|rfl|rfl|rfl|rfl|rfl|rfl|rfl|rfl
  ·have hh:=Jz n v a b (l.map Sim.enc) _  (gG 1 1 a 0 b 0 n [] v [])
   rw[eG] at hh
   refine hh.trans (congrArg (fun b=>some (Res.ret (B b) [])) ?_)
   rw[Bool.eq_iff_iff]
   simp[Sl.oneB,Sl.oneK,and_comm,and_left_comm]
  ·have hh:=JO n v a b (l.map Sim.enc) _ hn' (gG 2 2 a 0 b 0 n n v [])
   rw[eG] at hh
   refine hh.trans (congrArg (fun b=>some (Res.ret (B b) [])) ?_)
   rw[Bool.eq_iff_iff]
   simp[Sl.oneB,Sl.oneK,and_assoc,and_comm,and_left_comm]
  ·have hh:=Ka n v a b (l.map Sim.enc) _ hn' (gG 3 3 a 0 b 0 n n v [])
   rw[eG] at hh
   refine hh.trans (congrArg (fun b=>some (Res.ret (B b) [])) ?_)
   rw[Bool.eq_iff_iff]
   simp[Sl.oneB,Sl.oneK,and_assoc,and_comm,and_left_comm]
  ·have hh:=KK n v a b (l.map Sim.enc) _ hn' (gG 4 4 a 0 b 0 n n v [])
   rw[eG] at hh
   refine hh.trans (congrArg (fun b=>some (Res.ret (B b) [])) ?_)
   rw[Bool.eq_iff_iff]
   simp[Sl.oneB,Sl.oneK,and_assoc,and_comm,and_left_comm]
  ·have hh:=KJ n v a b (l.map Sim.enc) _ hn' (gG 5 5 a 0 b 0 n n v [])
   rw[eG] at hh
   refine hh.trans (congrArg (fun b=>some (Res.ret (B b) [])) ?_)
   rw[Bool.eq_iff_iff]
   simp[Sl.oneB,Sl.oneK,and_assoc,and_comm,and_left_comm]
  ·have hh:=JZ n v a b (l.map Sim.enc) _ hn' hv' (gG 6 6 a 0 b 0 n n v v)
   rw[eG] at hh
   refine hh.trans (congrArg (fun b=>some (Res.ret (B b) [])) ?_)
   rw[Bool.eq_iff_iff]
   simp[Sl.oneB,Sl.oneK,and_assoc,and_comm,and_left_comm]
  ·have hh:=JS n v a b (l.map Sim.enc) _  (gG 7 7 a 0 b 0 n n v [])
   rw[eG] at hh
   refine hh.trans (congrArg (fun b=>some (Res.ret (B b) [])) ?_)
   rw[Bool.eq_iff_iff]
   simp[Sl.oneB,Sl.oneK,and_assoc,and_comm,and_left_comm]
  ·have hh:=Kr n v a b (l.map Sim.enc) _  (gG 8 8 a a b b n [] v [])
   rw[eG] at hh
   refine hh.trans (congrArg (fun b=>some (Res.ret (B b) [])) ?_)
   rw[Bool.eq_iff_iff]
   simp[Sl.oneB,Sl.oneK,Sl.fewB,Sl.few,and_assoc,and_comm,and_left_comm]
  ·have hh:=JI n v a b (l.map Sim.enc) _  (gG 9 9 a 0 b 0 n [] v [])
   rw[eG] at hh
   refine hh.trans (congrArg (fun b=>some (Res.ret (B b) [])) ?_)
   rw[Bool.eq_iff_iff]
   simp[Sl.oneB,Sl.oneK,and_comm,and_left_comm]
  ·have hh:=Il n v a b (l.map Sim.enc) _  (gG 10 10 a 0 b 0 n [] v [])
   rw[eG] at hh
   refine hh.trans (congrArg (fun b=>some (Res.ret (B b) [])) ?_)
   rw[Bool.eq_iff_iff]
   simp[Sl.oneB,Sl.oneK,and_comm,and_left_comm]
  ·have hq:=gG 11 11 a 0 b 0 n [] v []
   have e1:Sl.oneB (.mk 11 n v a b l)=((((11:Int)==11)&&((n==[])&&((v==[])&&((a==0)&&((b==0)&&true)))))&&(l.length==1&&Sl.hZ l)):=by
    rw[Sl.oneB,Sl.oneK,if_neg (by omega),if_neg (by omega),if_neg (by omega),if_neg (by omega),if_neg (by omega),if_neg (by omega),if_neg (by omega),if_pos rfl,if_pos rfl]
    simp[]
   rw[e1]
   generalize (((11:Int)==11)&&((n==[])&&((v==[])&&((a==0)&&((b==0)&&true)))))=Q at hq ⊢
   cases Q
   ·rw[Bool.false_and]
    exact ES n v a b _ hq
   rw[Bool.true_and]
   match l,hl,ih with
   | [],_,_=>exact wR n v a b _ (by simp) hq
   | [y],_,ih =>
    obtain ⟨k2,n2,v2,a2,b2,l2⟩:=y
    have e2:([(Sim.mk k2 n2 v2 a2 b2 l2)].length==1&&Sl.hZ [.mk k2 n2 v2 a2 b2 l2])=(k2 != 11&&Sl.oneB (.mk k2 n2 v2 a2 b2 l2)):=by
     show (Sl.hZ [.mk k2 n2 v2 a2 b2 l2])=_
     rw[Sl.hZ,Sl.hZ,Bool.and_true]
     rfl
    rw[e2]
    have h0:=ih (.mk k2 n2 v2 a2 b2 l2) (by simp)
    simp only[List.map_cons,List.map_nil,Sim.enc_mk] at h0 ⊢
    exact F7 n v a b k2 n2 v2 a2 b2 (l2.map Sim.enc) _ h0 hq
   | y::z::m,_,_ =>
    have e2:((y::z::m).length==1&&Sl.hZ (y::z::m))=false:=by simp
    rw[e2]
    exact wR n v a b _ (by simp) hq
end Go.Abs
