/-
  WHAT THE FUNCTIONS COMPUTE, layer 4: whether a simple selector may be, as the document tells, all kinds. (Printed by gens9.py.)
-/
import Derived.Test.YtlomcifkckgneaaGreatDoorRt27
import Derived.Test.YtlomcifkckgneaaGreatDoorRt28
import Derived.Test.YtlomcifkckgneaaGreatDoorRt29
import Derived.Test.YtlomcifkckgneaaGreatDoorRt30
set_option linter.unusedSimpArgs false
set_option linter.unusedVariables false
namespace Go.Abs
open Go Go.Proofs
set_option maxRecDepth 10000
attribute [local go_sem] c7 bF cD bW bZ db cJ cE a7 ck ce cF c8 bS opd avOf cvOf St.degAt St.put okPV d6 okAV du dv dt cU aM if_true Bool.false_eq_true if_false Option.map_some Option.map_none Option.bind_some Option.bind_none dY dV upd List.toList_toArray cR steal bz mvB dE cV cT AV.deg CV.deg AV.gv AV.isIter cN cI bU List.length_nil List.length_cons List.filterMap_cons List.filterMap_nil beq_iff_eq List.getElem?_cons_zero List.getElem?_cons_succ Option.getD_some d8 eV Bool.false_and Bool.and_false Bool.and_self K_P fq co cO bw lend back idx dedup AV.ren CV.ren TV.ren AV.ptrs CV.ptrs cX AV.flat CV.flat cz cg bc c9 dk eo cj aY cm bt bH cf br eF CV.pv? content bA ownT bd reps pvs chunks cd leave eB cK dr bT bv TV.deg TV.av LK CV.plain CV.noBld c5 eA bound List.map_cons List.map_nil List.all_cons List.all_nil List.any_cons List.any_nil List.contains_cons List.contains_nil List.elem_cons List.elem_nil List.cons_append List.nil_append List.append_nil List.flatMap_cons List.flatMap_nil List.zip_cons_cons List.zip_nil_left List.zip_nil_right List.take_succ_cons List.take_zero List.take_nil List.drop_succ_cons List.drop_zero List.drop_nil List.isEmpty_nil List.isEmpty_cons Bool.and_true Bool.true_and Bool.or_true Bool.true_or Bool.or_false Bool.false_or Bool.not_true Bool.not_false Nat.add_zero Nat.zero_add Option.isNone_none Option.isNone_some Option.getD_none true_and and_true not_true_eq_false not_false_eq_true decide_true decide_false Nat.le_refl and_self Bool.not_eq_true Nat.sub_self or_true true_or Option.some.injEq List.length_map List.nil_eq and_false false_and AV.live CV.live CV.liveIn dU bg Option.orElse_some Option.orElse_none head bm bh Int.lt_irrefl List.length_append ite_self dZ cA dc bC Key.clash Key.sees Key.writes Nat.lt_irrefl gt_iff_lt cH dH false_or or_false beq_self_eq_true Bool.true_beq Bool.false_beq
theorem fi (l:List Sim):(((l.map Sim.enc).length:Int)==0)=l.isEmpty:=by rw[List.length_map];exact kE l
theorem xS {x:Sim} (hx:Sl.Sb 100000000 x):den K 107 [.agg (x.enc.map CV.pv)] []=some (.ret (B (Sl.oneB x)) []):=by
 induction hx with
 | @mk k n v a b l hn hv hl ih =>
  have hn':n.length<1000000000:=by omega
  have hv':v.length<1000000000:=by omega
  have e0:(Sim.mk k n v a b l).enc.map CV.pv=[.pv (.int .i64 k),.pv (.str n),.pv (.str v),.pv (.int .i64 a),.pv (.int .i64 b),.pv (.sl (l.map Sim.enc))]:=by rw[Sim.enc_mk];rfl
  rw[e0];by_cases hk:k<1∨11<k
  ·have e5:Sl.oneB (.mk k n v a b l)=false:=by
    rw[Sl.oneB,Sl.oneK,if_neg (by omega),if_neg (by omega),if_neg (by omega),if_neg (by omega),if_neg (by omega),if_neg (by omega),if_neg (by omega),if_neg (by omega)]
    rfl
   rw[e5];exact BU k hk n v a b _
  have hc:k=1∨k=2∨k=3∨k=4∨k=5∨k=6∨k=7∨k=8∨k=9∨k=10∨k=11:=by omega
  rcases hc with rfl|rfl|rfl|rfl|rfl|rfl|rfl|rfl|rfl|rfl|rfl
  ·have hh:=K3 n v a b (l.map Sim.enc) _  (io 1 1 a 0 b 0 n [] v [])
   rw[fi] at hh;refine hh.trans (congrArg (fun b=>some (Res.ret (B b) [])) ?_)
   rw[Bool.eq_iff_iff];simp[Sl.oneB,Sl.oneK,and_comm,and_left_comm]
  ·have hh:=Lm n v a b (l.map Sim.enc) _ hn' (io 2 2 a 0 b 0 n n v [])
   rw[fi] at hh;refine hh.trans (congrArg (fun b=>some (Res.ret (B b) [])) ?_)
   rw[Bool.eq_iff_iff];simp[Sl.oneB,Sl.oneK,and_assoc,and_comm,and_left_comm]
  ·have hh:=Lr n v a b (l.map Sim.enc) _ hn' (io 3 3 a 0 b 0 n n v [])
   rw[fi] at hh;refine hh.trans (congrArg (fun b=>some (Res.ret (B b) [])) ?_)
   rw[Bool.eq_iff_iff];simp[Sl.oneB,Sl.oneK,and_assoc,and_comm,and_left_comm]
  ·have hh:=LU n v a b (l.map Sim.enc) _ hn' (io 4 4 a 0 b 0 n n v [])
   rw[fi] at hh;refine hh.trans (congrArg (fun b=>some (Res.ret (B b) [])) ?_)
   rw[Bool.eq_iff_iff];simp[Sl.oneB,Sl.oneK,and_assoc,and_comm,and_left_comm]
  ·have hh:=LC n v a b (l.map Sim.enc) _ hn' (io 5 5 a 0 b 0 n n v [])
   rw[fi] at hh;refine hh.trans (congrArg (fun b=>some (Res.ret (B b) [])) ?_)
   rw[Bool.eq_iff_iff];simp[Sl.oneB,Sl.oneK,and_assoc,and_comm,and_left_comm]
  ·have hh:=Ms n v a b (l.map Sim.enc) _ hn' hv' (io 6 6 a 0 b 0 n n v v)
   rw[fi] at hh;refine hh.trans (congrArg (fun b=>some (Res.ret (B b) [])) ?_)
   rw[Bool.eq_iff_iff];simp[Sl.oneB,Sl.oneK,and_assoc,and_comm,and_left_comm]
  ·have hh:=Ml n v a b (l.map Sim.enc) _  (io 7 7 a 0 b 0 n n v [])
   rw[fi] at hh;refine hh.trans (congrArg (fun b=>some (Res.ret (B b) [])) ?_)
   rw[Bool.eq_iff_iff];simp[Sl.oneB,Sl.oneK,and_assoc,and_comm,and_left_comm]
  ·have hh:=Mv n v a b (l.map Sim.enc) _  (io 8 8 a a b b n [] v [])
   rw[fi] at hh;refine hh.trans (congrArg (fun b=>some (Res.ret (B b) [])) ?_)
   rw[Bool.eq_iff_iff];simp[Sl.oneB,Sl.oneK,Sl.fewB,Sl.few,and_assoc,and_comm,and_left_comm]
  ·have hh:=Mu n v a b (l.map Sim.enc) _  (io 9 9 a 0 b 0 n [] v [])
   rw[fi] at hh;refine hh.trans (congrArg (fun b=>some (Res.ret (B b) [])) ?_)
   rw[Bool.eq_iff_iff];simp[Sl.oneB,Sl.oneK,and_comm,and_left_comm]
  ·have hh:=JF n v a b (l.map Sim.enc) _  (io 10 10 a 0 b 0 n [] v [])
   rw[fi] at hh;refine hh.trans (congrArg (fun b=>some (Res.ret (B b) [])) ?_)
   rw[Bool.eq_iff_iff];simp[Sl.oneB,Sl.oneK,and_comm,and_left_comm]
  ·have hq:=io 11 11 a 0 b 0 n [] v []
   have e1:Sl.oneB (.mk 11 n v a b l)=((((11:Int)==11)&&((n==[])&&((v==[])&&((a==0)&&((b==0)&&true)))))&&(l.length==1&&Sl.j8 l)):=by
    rw[Sl.oneB,Sl.oneK,if_neg (by omega),if_neg (by omega),if_neg (by omega),if_neg (by omega),if_neg (by omega),if_neg (by omega),if_neg (by omega),if_pos rfl,if_pos rfl]
    simp[]
   rw[e1];generalize (((11:Int)==11)&&((n==[])&&((v==[])&&((a==0)&&((b==0)&&true)))))=Q at hq ⊢;cases Q
   ·rw[Bool.false_and];exact Hj n v a b _ hq
   rw[Bool.true_and]
   match l,hl,ih with
   | [],_,_=>exact yf n v a b _ (by simp) hq
   | [y],_,ih =>
    obtain⟨k2,n2,v2,a2,b2,l2⟩:=y;have e2:([(Sim.mk k2 n2 v2 a2 b2 l2)].length==1&&Sl.j8 [.mk k2 n2 v2 a2 b2 l2])=(k2 != 11&&Sl.oneB (.mk k2 n2 v2 a2 b2 l2)):=by
     show (Sl.j8 [.mk k2 n2 v2 a2 b2 l2])=_
     rw[Sl.j8,Sl.j8,Bool.and_true];rfl
    rw[e2];have h0:=ih (.mk k2 n2 v2 a2 b2 l2) (by simp)
    simp only[List.map_cons,List.map_nil,Sim.enc_mk] at h0 ⊢;exact Iq n v a b k2 n2 v2 a2 b2 (l2.map Sim.enc) _ h0 hq
   | y::z::m,_,_ =>
    have e2:((y::z::m).length==1&&Sl.j8 (y::z::m))=false:=by simp
    rw[e2];exact yf n v a b _ (by simp) hq
end Go.Abs
