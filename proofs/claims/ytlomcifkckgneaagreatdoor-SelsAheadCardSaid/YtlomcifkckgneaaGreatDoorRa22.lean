/-
  SelsAhead, as the interpreter answers it: true, whatever the text and the combinator are.
  WHAT READS AS THE ARGUMENTS: the statement SelsAhead.
-/
import Derived.Test.YtlomcifkckgneaaGreatDoorRa4
import Derived.Test.YtlomcifkckgneaaGreatDoorRa7
import Derived.Test.YtlomcifkckgneaaGreatDoorRa19
import Derived.Test.YtlomcifkckgneaaGreatDoorRa20
import Derived.Test.YtlomcifkckgneaaGreatDoorRa21
set_option linter.unusedSimpArgs false
set_option linter.unusedVariables false
namespace Go.Abs
open Go Go.Proofs
set_option maxRecDepth 10000
attribute [local go_sem] cA bm bU bD bB cz bQ bS aG bv bq bL cg br opd avOf cvOf St.degAt St.put okPV db okAV cN cM cO cd aq if_true Bool.false_eq_true if_false Option.map_some Option.map_none Option.bind_some Option.bind_none c9 c5 upd List.toList_toArray bO steal aZ mvB cR cf b7 AV.deg CV.deg AV.gv AV.isIter b9 bT bC List.length_nil List.length_cons List.filterMap_cons List.filterMap_nil beq_iff_eq List.getElem?_cons_zero List.getElem?_cons_succ Option.getD_some du d5 Bool.false_and Bool.and_false Bool.and_self K_P eF bF bV aW lend back idx dedup AV.ren CV.ren TV.ren AV.ptrs CV.ptrs ce AV.flat CV.flat bM bz aJ cj cx dp bE aE bK a7 bh bA a8 dP CV.pv? content bf ownT aL reps pvs chunks bu leave dL bW cJ bt aX TV.deg TV.av LK CV.plain CV.noBld cm dF bound List.map_cons List.map_nil List.all_cons List.all_nil List.any_cons List.any_nil List.contains_cons List.contains_nil List.elem_cons List.elem_nil List.cons_append List.nil_append List.append_nil List.flatMap_cons List.flatMap_nil List.zip_cons_cons List.zip_nil_left List.zip_nil_right List.take_succ_cons List.take_zero List.take_nil List.drop_succ_cons List.drop_zero List.drop_nil List.isEmpty_nil List.isEmpty_cons Bool.and_true Bool.true_and Bool.or_true Bool.true_or Bool.or_false Bool.false_or Bool.not_true Bool.not_false Nat.add_zero Nat.zero_add Option.isNone_none Option.isNone_some Option.getD_none true_and and_true not_true_eq_false not_false_eq_true decide_true decide_false Nat.le_refl and_self Bool.not_eq_true Nat.sub_self or_true true_or Option.some.injEq List.length_map List.nil_eq and_false false_and AV.live CV.live CV.liveIn dh aI Option.orElse_some Option.orElse_none head aO aN Int.lt_irrefl List.length_append ite_self dc bI ck bg Key.clash Key.sees Key.writes Nat.lt_irrefl gt_iff_lt bR cW false_or or_false beq_self_eq_true Bool.true_beq Bool.false_beq nV ot
theorem DF {s:List UInt8} {x:Cpx} (h:Sl.read s=some [x]):x.parts≠[]:=by
 unfold Sl.read at h
 rw[Option.bind_eq_some_iff] at h
 obtain ⟨v,_,h⟩:=h
 unfold Sl.parse at h
 split at h
 case isFalse=>cases h
 cases hq:Sl.at_ [44] (Sl.trim v) with
 | nil=>rw[hq,Sl.all_nil] at h;cases h
 | cons q r =>
  rw[hq,Sl.all_cons] at h
  cases hc:Sl.cpx 16 0 (Sl.trim q) with
  | none=>rw[hc] at h;cases h
  | some c =>
   rw[hc] at h
   cases hr:Sl.all_ r with
   | none=>rw[hr] at h;cases h
   | some cs =>
    rw[hr] at h
    simp only[Option.some.injEq,List.cons.injEq] at h
    rw[←h.1]
    exact Sl.lQ _ _ _ _ hc
set_option maxHeartbeats 8000000 in
theorem qB (s:List UInt8) (c:Int) (_:I64 c):den K 8 [T s,I c] []=some (.ret (B true) []):=by
 have hr:Tryz.f8.results = #[.tmp 4]:=rfl
 have hf:=ei
 have q0:((0:Int)==0)=true:=rfl
 have q40:((40:Int)==0)=false:=rfl
 cases ht:decide ((300:Int)<(s.length:Int))
 case true =>
  refine ab rfl rfl Tryz.func8 rfl Tryz.ntmps8 ⟨by simp,by simp[LK]⟩ ?_
  simp only[go_sem,Nat.reduceLT,reduceCtorEq,Nat.reduceEqDiff,Nat.reduceBEq,Nat.reduceAdd,aF az,hr,hf,ht]
 cases c1:decide (c<1)
 case true =>
  refine ab rfl rfl Tryz.func8 rfl Tryz.ntmps8 ⟨by simp,by simp[LK]⟩ ?_
  simp only[go_sem,Nat.reduceLT,reduceCtorEq,Nat.reduceEqDiff,Nat.reduceBEq,Nat.reduceAdd,aF az,hr,hf,ht,c1]
 cases c4:decide (4<c)
 case true =>
  refine ab rfl rfl Tryz.func8 rfl Tryz.ntmps8 ⟨by simp,by simp[LK]⟩ ?_
  simp only[go_sem,Nat.reduceLT,reduceCtorEq,Nat.reduceEqDiff,Nat.reduceBEq,Nat.reduceAdd,aF az,hr,hf,ht,c1,c4]
 have hc:1≤c∧c≤4:=⟨by have:=of_decide_eq_false c1;omega,by have:=of_decide_eq_false c4;omega⟩
 have hsl:s.length≤300:=by have:=of_decide_eq_false ht;omega
 have r1:=nH s (by omega)
 cases hrd:Sl.read s with
 | none =>
  rw[hrd] at r1
  unfold jh at r1
  simp only at r1
  refine ab rfl rfl Tryz.func8 rfl Tryz.ntmps8 ⟨by simp,by simp[LK]⟩ ?_
  simp only[go_sem,Nat.reduceLT,reduceCtorEq,Nat.reduceEqDiff,Nat.reduceBEq,Nat.reduceAdd,aF az,hr,hf,ht,c1,c4,r1,q40,bne,TV.flat]
 | some l =>
  rw[hrd] at r1
  unfold jh at r1
  simp only at r1
  match l,hrd,r1 with
  | [],_,r1 =>
   simp only[encC,List.map_nil] at r1
   refine ab rfl rfl Tryz.func8 rfl Tryz.ntmps8 ⟨by simp,by simp[LK]⟩ ?_
   simp only[go_sem,Nat.reduceLT,reduceCtorEq,Nat.reduceEqDiff,Nat.reduceBEq,Nat.reduceAdd,aF az,ai ax,hr,hf,ht,c1,c4,r1,q0,Fh,bne,TV.flat]
  | x::y::r,_,r1 =>
   simp only[encC,List.map_cons] at r1
   have e:=yu x.enc y.enc (r.map Cpx.enc)
   have e':=yu x y r
   refine ab rfl rfl Tryz.func8 rfl Tryz.ntmps8 ⟨by simp,by simp[LK]⟩ ?_
   simp only[go_sem,Nat.reduceLT,reduceCtorEq,Nat.reduceEqDiff,Nat.reduceBEq,Nat.reduceAdd,aF az,ai ax,hr,hf,ht,c1,c4,r1,q0,e',bne,TV.flat]
  | [⟨ps,z⟩],hrd,r1 =>
   have h:=Sl.wT hc hrd
   have m1:=nH (Sl.pi c s) (by show (97::46::98::Sl.E0 c::s).length≤500000;simp only[List.length_cons];omega)
   have r1:den K 19 [T s] []=some (.ret (.tup [.c (.pv (.sl [[.sl (encQ ps),.str z]])),.c (.pv (.int .i64 0))]) []):=r1
   rw[h] at m1
   by_cases hl:ps.length≤15
   ·rw[if_pos hl] at h m1
    have sS:den K 22 [L (encC [⟨⟨0,Sl.abL⟩::Sl.setC c ps,z⟩]),L (encC [⟨⟨0,Sl.abL⟩::Sl.setC c ps,z⟩])] []=some (.ret (B true) []):=by
     unfold Sl.read at h
     rw[Option.bind_eq_some_iff] at h
     obtain ⟨u,_,hu⟩:=h
     exact uz hu
    cases ps with
    | nil=>exact absurd rfl (DF hrd)
    | cons p ps =>
     have hb:decide ((16:Int)≤((p::ps).length:Int))=false:=decide_eq_false (by omega)
     have hp9:ps.length≤99:=by rw[List.length_cons] at hl;omega
     have eW:encC [⟨⟨0,Sl.abL⟩::Sl.setC c (p::ps),z⟩]=[[.sl (abP::Prt.enc ⟨c,p.l⟩::encQ ps),.str z]]:=by
      simp only[encC,List.map_cons,List.map_nil,Cpx.enc_mk,Sl.setC,Ey]
     have sS:den K 22 [L (encC [⟨⟨0,Sl.abL⟩::⟨c,p.l⟩::ps,z⟩]),L [[.sl (abP::Prt.enc ⟨c,p.l⟩::encQ ps),.str z]]] []=some (.ret (B true) []):=by
      rw[←eW];exact sS
     rcases oT hc with rfl|rfl|rfl|rfl
     ·exact FI s p ps z ht hsl hp9 r1 m1 sS hb
     ·exact Fp s p ps z ht hsl hp9 r1 m1 sS hb
     ·exact Fg s p ps z ht hsl hp9 r1 m1 sS hb
     ·exact Fy s p ps z ht hsl hp9 r1 m1 sS hb
   ·rw[if_neg hl] at m1
    have hb:decide ((16:Int)≤(ps.length:Int))=true:=decide_eq_true (by
     have : ¬ ps.length≤15:=hl
     omega)
    rcases oT hc with rfl|rfl|rfl|rfl
    ·exact DU s ps z ht hsl r1 m1 hb
    ·exact DG s ps z ht hsl r1 m1 hb
    ·exact D1 s ps z ht hsl r1 m1 hb
    ·exact DI s ps z ht hsl r1 m1 hb
end Go.Abs
set_option linter.unusedSimpArgs true
namespace Go.Abs
open Go Go.Proofs
set_option maxRecDepth 100000
theorem pd (pss:List (List PV)) (h:All2 (fun t p => ∃ n,TyP Tryz.prog n t p) Tryz.f8.params.toList pss) :
  den K 8 (List.zipWith (jU Tryz.prog) Tryz.f8.params.toList pss) []=some (.ret (.c (.pv (.bool true))) []):=by
 have hp:Tryz.f8.params.toList=[9,3]:=rfl
 rw[hp] at h ⊢
 refine args2 h fun n m p q h1 h2 e => ?_
 subst e
 obtain ⟨s,rfl,_⟩:=Eo az h1
 obtain ⟨c,rfl,hc⟩:=Es im h2
 simp only[List.zipWith_cons_cons,List.zipWith_nil_left,z7,yT]
 exact qB s c (Ft hc)
end Go.Abs
