/-
  WHAT THE FUNCTIONS COMPUTE, layer 4, the program's reader of selectors: functions, what stands behind a sign :, a simple selector.
  (And 3 texts more.)
-/
import Derived.Test.YtlomcifkckgneaaGreatDoorRd14
set_option maxHeartbeats 16000000
open Nat (reduceEqDiff reduceAdd reduceLT reduceLeDiff reduceSub reduceMul)
set_option linter.unusedSimpArgs false
set_option linter.unusedVariables false
namespace Go.Abs
open Go Go.Proofs
set_option maxRecDepth 10000
attribute [local go_sem] dP bZ de cB cK dL dh du bo ck ce cE dr ci opd avOf cvOf St.degAt St.put okPV fE okAV eL eP eV dM aP if_true Bool.false_eq_true if_false Option.map_some Option.map_none Option.bind_some Option.bind_none fo fw upd List.toList_toArray cM steal bI mvB fj dK db AV.deg CV.deg AV.gv AV.isIter dG dw cJ List.length_nil List.length_cons List.filterMap_cons List.filterMap_nil beq_iff_eq List.getElem?_cons_zero List.getElem?_cons_succ Option.getD_some fM gJ Bool.false_and Bool.and_false Bool.and_self K_P iJ cI dc bL lend back idx dedup AV.ren CV.ren TV.ren AV.ptrs CV.ptrs dE AV.flat CV.flat cQ cz br dD dY gi cL bf cS bV cu cH bU gS CV.pv? content bT ownT bv reps pvs chunks co leave gj cZ eD cm bB TV.deg TV.av LK CV.plain CV.noBld dR gD bound List.map_cons List.map_nil List.all_cons List.all_nil List.any_cons List.any_nil List.contains_cons List.contains_nil List.elem_cons List.elem_nil List.cons_append List.nil_append List.append_nil List.flatMap_cons List.flatMap_nil List.zip_cons_cons List.zip_nil_left List.zip_nil_right List.take_succ_cons List.take_zero List.take_nil List.drop_succ_cons List.drop_zero List.drop_nil List.isEmpty_nil List.isEmpty_cons Bool.and_true Bool.true_and Bool.or_true Bool.true_or Bool.or_false Bool.false_or Bool.not_true Bool.not_false Nat.add_zero Nat.zero_add Option.isNone_none Option.isNone_some Option.getD_none true_and and_true not_true_eq_false not_false_eq_true decide_true decide_false Nat.le_refl and_self Bool.not_eq_true Nat.sub_self or_true true_or Option.some.injEq List.length_map List.nil_eq and_false false_and AV.live CV.live CV.liveIn gk bu Option.orElse_some Option.orElse_none head bJ bG Int.lt_irrefl List.length_append ite_self fx cF dC cf Key.clash Key.sees Key.writes Nat.lt_irrefl gt_iff_lt dt fB false_or or_false beq_self_eq_true Bool.true_beq Bool.false_beq Ex dZ fL ab bX bc dW aN cj gG ee fK RS pL AL dz cy bK mX BD cX vl QD vt Nu DT vG Nc vb bg PE QT
abbrev simE (x:Sim):AV:=.agg (ff x)
abbrev simZ:List CV:=[.pv (.int .i64 0),.pv (.str []),.pv (.str []),.pv (.int .i64 0),.pv (.int .i64 0),.nils]
theorem Mu (x:Sim)(f:Nat→Option Nat):(ff x).map (CV.ren f)=ff x:=by
 obtain⟨k,n,v,a,b,l⟩:=x;cases l<;>rfl
theorem vO (f:Nat→Option Nat):simZ.map (CV.ren f)=simZ:=rfl
theorem OY {l r:List Val}{x:Sim}(h:den K 140 [P0,B true] [rdB l]=some (.ret (simE x) [rdB r])) :
  den K 225 [P0,P1] [rdB l,simZ]=some (.ret (.tup []) [rdB r,ff x]):=by
 have hr:Tryz.f225.results=#[]:=rfl
 obtain⟨k,n,v,a,b,xl⟩:=x;cases xl
 all_goals
  simp only[rdB,simE,aQ,cO] at h ⊢;refine ai rfl rfl Tryz.func225 rfl Tryz.ntmps225 ⟨by simp,by simp[LK]⟩ ?_
  simp only[go_sem,reduceLT,reduceEqDiff,Nat.reduceBEq,reduceAdd,reduceSub,reduceLeDiff,hr,h]
theorem NL {l m:List Val}(h:den K 140 [P0,B true] [rdB l]=some (.pan ey [rdB m])) :
  den K 225 [P0,P1] [rdB l,simZ]=some (.pan ey [rdB m,simZ]):=by
 have hr:Tryz.f225.results=#[]:=rfl
 simp only[rdB] at h ⊢;refine ai rfl rfl Tryz.func225 rfl Tryz.ntmps225 ⟨by simp,by simp[LK]⟩ ?_
 simp only[go_sem,reduceLT,reduceEqDiff,Nat.reduceBEq,reduceAdd,reduceSub,reduceLeDiff,hr,h]
def fnG (g:List Val→Option (Sim×List Val))(t:Tok)(c:List Val):Option Sim :=
 if t.text=Sl.nthT then(Sl.nthM c).map fun x=>Sim.mk 8 [] [] x.1 x.2 [] else if t.text=Sl.notT then notG g c else none
def Ol {α:Type}(enc:α→AV)(o:Option α)(r:Option Res):Prop:=match o with
 | some x=>r=some (.ret (enc x) [])
 | none=>r=some (.pan ey [])
theorem Bf (g:List Val→Option (Sim×List Val))(t:Tok)(c:List Val)(hc:c.length≤70000000)(hts:TSh c)(hg:t.text=Sl.notT→jw simE (g (Sl.trim c)) (den K 140 [P0,B true] [rdB (Sl.trim c)])) :
  Ol simE (fnG g t c) (den K 204 [.agg (kX 5 t c)] []):=by
 have hr:Tryz.f204.results=#[.cell 2 52]:=rfl
 have hmy:=fF
 have hmn:=jk
 have hgd:goods.contains 225=true:=by kernel_rfl
 unfold fnG;by_cases h1:t.text=Sl.nthT
 ·have e1:(t.text==[110,116,104,45,99,104,105,108,100])=true:=by rw[h1];rfl
  have hn:=Nl c hc hts
  rw[if_pos h1];cases hm:Sl.nthM c with
  | none =>
   rw[hm] at hn;unfold nthA at hn;simp only at hn
   show den K 204 [.agg (kX 5 t c)] []=some (.pan ey [])
   refine ai rfl rfl Tryz.func204 rfl Tryz.ntmps204 ⟨by simp,by simp[LK]⟩ ?_
   simp only[go_sem,reduceLT,reduceEqDiff,Nat.reduceBEq,reduceAdd,reduceSub,reduceLeDiff,hr,hn,e1,hmn,TV.flat,Int.reduceBEq]
  | some x =>
   obtain⟨a,b⟩:=x;rw[hm] at hn;unfold nthA at hn;simp only at hn
   show den K 204 [.agg (kX 5 t c)] []=some (.ret (.agg (ff (.mk 8 [] [] a b []))) [])
   rw[aQ];refine ai rfl rfl Tryz.func204 rfl Tryz.ntmps204 ⟨by simp,by simp[LK]⟩ ?_
   simp only[go_sem,reduceLT,reduceEqDiff,Nat.reduceBEq,reduceAdd,reduceSub,reduceLeDiff,aa ab ah,hr,hn,e1,hmy,TV.flat]
 have e1:(t.text==[110,116,104,45,99,104,105,108,100])=false:=by rw[beq_eq_false_iff_ne];exact h1
 rw[if_neg h1];by_cases h2:t.text=Sl.notT
 ·have e2:(t.text==[110,111,116])=true:=by rw[h2];rfl
  have hg:=hg h2
  rw[if_pos h2];unfold notG;cases hx:g (Sl.trim c) with
  | none =>
   rw[hx] at hg;obtain⟨m,hg⟩:=gh hg;have hw:=xV hgd (by omega) vO vO (NL hg)
   show den K 204 [.agg (kX 5 t c)] []=some (.pan ey [])
   simp only[simZ] at hw;refine ai rfl rfl Tryz.func204 rfl Tryz.ntmps204 ⟨by simp,by simp[LK]⟩ ?_
   simp only[go_sem,reduceLT,reduceEqDiff,Nat.reduceBEq,reduceAdd,reduceSub,reduceLeDiff,hr,e1,e2,hw,hmn,jZ,locs,lw,Int.reduceBEq]
  | some y =>
   obtain⟨x,m⟩:=y;rw[hx] at hg;have hw:=wR hgd (by omega) vO (Mu x) (OY (eO hg))
   cases m with
   | cons z m =>
    show den K 204 [.agg (kX 5 t c)] []=some (.pan ey [])
    obtain⟨k,n,v,a,b,xl⟩:=x;cases xl
    all_goals
     simp only[simZ,aQ,cO,List.isEmpty_cons,Bool.false_eq_true,if_false] at hw;refine ai rfl rfl Tryz.func204 rfl Tryz.ntmps204 ⟨by simp,by simp[LK]⟩ ?_
     simp only[go_sem,reduceLT,reduceEqDiff,Nat.reduceBEq,reduceAdd,reduceSub,reduceLeDiff,hr,e1,e2,hw,hmn,jZ,locs,lw,Int.reduceBEq]
   | nil =>
    simp only;by_cases hk:x.kind=11
    ·rw[if_pos hk]
     show den K 204 [.agg (kX 5 t c)] []=some (.pan ey [])
     obtain⟨k,n,v,a,b,xl⟩:=x;have ek:(k==11)=true:=by rw[beq_iff_eq];exact hk
     cases xl
     all_goals
      simp only[simZ,aQ,cO,List.isEmpty_nil,if_true] at hw;refine ai rfl rfl Tryz.func204 rfl Tryz.ntmps204 ⟨by simp,by simp[LK]⟩ ?_
      simp only[go_sem,reduceLT,reduceEqDiff,Nat.reduceBEq,reduceAdd,reduceSub,reduceLeDiff,hr,e1,e2,hw,hmn,ek,bne,jZ,locs,lw]
    ·rw[if_neg hk]
     show den K 204 [.agg (kX 5 t c)] []=some (.ret (.agg (ff (.mk 11 [] [] 0 0 [x]))) [])
     obtain⟨k,n,v,a,b,xl⟩:=x;have ek:(k==11)=false:=by rw[beq_eq_false_iff_ne];exact hk
     rw[cO,po];cases xl
     all_goals
      simp only[simZ,aQ,cO,List.isEmpty_nil,if_true,ru,pH] at hw ⊢;refine ai rfl rfl Tryz.func204 rfl Tryz.ntmps204 ⟨by simp,by simp[LK]⟩ ?_
      simp only[go_sem,reduceLT,reduceEqDiff,Nat.reduceBEq,reduceAdd,reduceSub,reduceLeDiff,reduceMul,aa ab ah,ao (len:=1) ae dZ ab ⟨rfl,by decide,by decide⟩,hr,e1,e2,hw,hmy,ek,bne,jZ,locs,lw]
 ·have e2:(t.text==[110,111,116])=false:=by rw[beq_eq_false_iff_ne];exact h2
  rw[if_neg h2]
  show den K 204 [.agg (kX 5 t c)] []=some (.pan ey [])
  refine ai rfl rfl Tryz.func204 rfl Tryz.ntmps204 ⟨by simp,by simp[LK]⟩ ?_
  simp only[go_sem,reduceLT,reduceEqDiff,Nat.reduceBEq,reduceAdd,reduceSub,reduceLeDiff,aa gY ip,hr,e1,e2]
theorem Gv:den K 191 [] []=some (.ret (L [[.str [104,111,118,101,114]],[.str [102,111,99,117,115]],[.str [97,99,116,105,118,101]],[.str [99,104,101,99,107,101,100]]]) []):=by
 have hr:Tryz.f191.results=#[.tmp 0]:=rfl
 refine ai rfl rfl Tryz.func191 rfl Tryz.ntmps191 ⟨by simp,by simp[LK]⟩ ?_
 simp only[go_sem,reduceLT,reduceCtorEq,Nat.reduceBEq,reduceAdd,reduceLeDiff,reduceMul,ao (len:=4) aK aN aH ⟨rfl,by decide,by decide⟩,hr]
theorem KQ (s:List UInt8):den K 106 [L [[.str [104,111,118,101,114]],[.str [102,111,99,117,115]],[.str [97,99,116,105,118,101]],[.str [99,104,101,99,107,101,100]]],T s] []=some (.ret (B (decide (Sl.jE s))) []):=by
 have h:=px [Sl.oY,Sl.ph,Sl.mN,Sl.ld] s (by simp)
 have e:([Sl.oY,Sl.ph,Sl.mN,Sl.ld].any (s == ·))=decide (Sl.jE s):=by
  rw[Bool.eq_iff_iff,decide_eq_true_eq];simp only[List.any_cons,List.any_nil,Bool.or_false,Bool.or_eq_true,beq_iff_eq];exact Iff.rfl
 rw[e] at h;exact h
theorem pz {kind:Int}{l:List Val}{t:Tok}{c r:List Val}(h:Sl.eM kind l=some ((t,c),r)):l=.mk kind t c::r:=Sl.nP h
theorem ud {kind:Int}{l:List Val}(h:Sl.eM kind l=none):l=[]∨∃ k t c r,l=.mk k t c::r∧(k==kind)=false:=by
 cases l with
 | nil=>exact .inl rfl
 | cons v r =>
  obtain⟨k,t,c⟩:=v;refine .inr ⟨k,t,c,r,rfl,?_⟩
  rw[beq_eq_false_iff_ne];intro hh;unfold Sl.eM at h;simp only at h;rw[if_pos hh] at h;cases h
theorem GF (g:List Val→Option (Sim×List Val))(l:List Val)(hl:l.length≤60000000)(t:Tok)(c r:List Val)(hv:Sl.eM 5 l=some ((t,c),r))(hf:Ol simE (fnG g t c) (den K 204 [.agg (kX 5 t c)] [])) :
  jw simE (Sl.colon g l) (den K 171 [P0] [rdB l]):=by
 have hr:Tryz.f171.results=#[.cell 2 52]:=rfl
 rw[Ih g hv];have e:=pz hv
 subst e;have hx:=iM (.mk 5 t c::r) (by omega)
 have htk:=gx 5 t c r (by rw[List.length_cons] at hl;omega)
 rw[ii] at hx htk;have e0:(if t.text=Sl.nthT then(Sl.nthM c).map fun x=>(Sim.mk 8 [] [] x.1 x.2 [],r) else if t.text=Sl.notT then(notG g c).map fun x=>(x,r) else none)=(fnG g t c).map fun x=>(x,r):=by
  unfold fnG;split
  ·rw[Option.map_map];rfl
  ·split
   ·rfl
   ·rfl
 rw[e0];cases hF:fnG g t c with
 | none =>
  rw[hF] at hf;have hf:den K 204 [.agg (kX 5 t c)] []=some (.pan ey []):=hf
  refine⟨r,?_⟩
  simp only[rdB,sG] at hx htk hf ⊢;refine ai rfl rfl Tryz.func171 rfl Tryz.ntmps171 ⟨by simp,by simp[LK]⟩ ?_
  simp only[go_sem,reduceLT,reduceCtorEq,reduceEqDiff,Nat.reduceBEq,reduceAdd,reduceSub,reduceLeDiff,hr,hx,htk,hf]
 | some x =>
  rw[hF] at hf;have hf:den K 204 [.agg (kX 5 t c)] []=some (.ret (simE x) []):=hf
  show den K 171 [P0] [rdB (.mk 5 t c::r)]=some (.ret (simE x) [rdB r])
  obtain⟨k,n,v,a,b,xl⟩:=x;cases xl
  all_goals
   simp only[rdB,sG,simE,aQ,cO] at hx htk hf ⊢;refine ai rfl rfl Tryz.func171 rfl Tryz.ntmps171 ⟨by simp,by simp[LK]⟩ ?_
   simp only[go_sem,reduceLT,reduceCtorEq,reduceEqDiff,Nat.reduceBEq,reduceAdd,reduceSub,reduceLeDiff,hr,hx,htk,hf]
theorem Et (g:List Val→Option (Sim×List Val))(l:List Val)(hl:l.length≤60000000)(hv:Sl.eM 5 l=none) :
  jw simE (Sl.colon g l) (den K 171 [P0] [rdB l]):=by
 have hr:Tryz.f171.results=#[.cell 2 52]:=rfl
 rw[IQ g hv];have hx:=iM l (by omega)
 have hn:=kz l (by omega)
 have hmy:=fF
 have hmn:=jk
 obtain⟨k,x1,x2,x3,x4,ek,en⟩:∃ (k:Int) (x1 x2 x3 x4:CV),(k==5)=false∧nxCv l=[.pv (.int .i64 k),x1,x2,x3,x4]:=by
  rcases ud hv with rfl|⟨k,t,c,r,rfl,ek⟩
  ·exact⟨0,_,_,_,_,rfl,xQ⟩
  ·exact⟨k,_,_,_,_,ek,ii k t c r⟩
 rw[en] at hx;cases hnm:Sl.name l with
 | none =>
  rw[hnm] at hn;obtain⟨m,hn⟩:=gh hn;refine⟨m,?_⟩
  simp only[rdB] at hx hn ⊢;refine ai rfl rfl Tryz.func171 rfl Tryz.ntmps171 ⟨by simp,by simp[LK]⟩ ?_
  simp only[go_sem,reduceLT,reduceCtorEq,reduceEqDiff,Nat.reduceBEq,reduceAdd,reduceSub,reduceLeDiff,hr,hx,ek,hn]
 | some y =>
  obtain⟨s,r⟩:=y;rw[hnm] at hn;have hn:=eO hn
  simp only;have hst:=Gv
  have hsh:=KQ s
  unfold Sl.fu;by_cases h4:s=Sl.qt
  ·subst h4
   show den K 171 [P0] [rdB l]=some (.ret (.agg (ff (.mk 9 [] [] 0 0 []))) [rdB r])
   have q0:(([114,111,111,116]:List UInt8)==[114,111,111,116])=true:=rfl
   simp only[rdB,aQ,Sl.qt] at hx hn ⊢;refine ai rfl rfl Tryz.func171 rfl Tryz.ntmps171 ⟨by simp,by simp[LK]⟩ ?_
   simp only[go_sem,reduceLT,reduceCtorEq,reduceEqDiff,Nat.reduceBEq,reduceAdd,reduceSub,reduceLeDiff,aa ab ah,hr,hx,ek,hn,q0]
  have e4:(s==[114,111,111,116])=false:=by rw[beq_eq_false_iff_ne];exact h4
  by_cases h5:s=Sl.mR
  ·subst h5
   show den K 171 [P0] [rdB l]=some (.ret (.agg (ff (.mk 10 [] [] 0 0 []))) [rdB r])
   have q0:(([101,109,112,116,121]:List UInt8)==[114,111,111,116])=false:=rfl
   have q1:(([101,109,112,116,121]:List UInt8)==[101,109,112,116,121])=true:=rfl
   simp only[rdB,aQ,Sl.mR] at hx hn ⊢;refine ai rfl rfl Tryz.func171 rfl Tryz.ntmps171 ⟨by simp,by simp[LK]⟩ ?_
   simp only[go_sem,reduceLT,reduceCtorEq,reduceEqDiff,Nat.reduceBEq,reduceAdd,reduceSub,reduceLeDiff,aa ab ah,hr,hx,ek,hn,q0,q1]
  have e5:(s==[101,109,112,116,121])=false:=by rw[beq_eq_false_iff_ne];exact h5
  by_cases h6:s=Sl.wZ
  ·subst h6
   show den K 171 [P0] [rdB l]=some (.ret (.agg (ff (.mk 8 [] [] 0 1 []))) [rdB r])
   have q0:(([102,105,114,115,116,45,99,104,105,108,100]:List UInt8)==[114,111,111,116])=false:=rfl
   have q1:(([102,105,114,115,116,45,99,104,105,108,100]:List UInt8)==[101,109,112,116,121])=false:=rfl
   have q2:(([102,105,114,115,116,45,99,104,105,108,100]:List UInt8)==[102,105,114,115,116,45,99,104,105,108,100])=true:=rfl
   simp only[rdB,aQ,Sl.wZ] at hx hn ⊢;refine ai rfl rfl Tryz.func171 rfl Tryz.ntmps171 ⟨by simp,by simp[LK]⟩ ?_
   simp only[go_sem,reduceLT,reduceCtorEq,reduceEqDiff,Nat.reduceBEq,reduceAdd,reduceSub,reduceLeDiff,aa ab ah,hr,hx,ek,hn,q0,q1,q2]
  have e6:(s==[102,105,114,115,116,45,99,104,105,108,100])=false:=by rw[beq_eq_false_iff_ne];exact h6
  by_cases h0:Sl.jE s
  ·rw[decide_eq_true h0] at hsh;rw[if_pos h0]
   show den K 171 [P0] [rdB l]=some (.ret (.agg (ff (.mk 7 s [] 0 0 []))) [rdB r])
   simp only[rdB,aQ] at hx hn ⊢;refine ai rfl rfl Tryz.func171 rfl Tryz.ntmps171 ⟨by simp,by simp[LK]⟩ ?_
   simp only[go_sem,reduceLT,reduceCtorEq,reduceEqDiff,Nat.reduceBEq,reduceAdd,reduceSub,reduceLeDiff,aa ab ah,hr,hx,ek,hn,e4,e5,e6,hst,hsh,hmy]
  ·rw[decide_eq_false h0] at hsh;rw[if_neg h0,if_neg h4,if_neg h5,if_neg h6];refine⟨r,?_⟩
   simp only[rdB] at hx hn ⊢;refine ai rfl rfl Tryz.func171 rfl Tryz.ntmps171 ⟨by simp,by simp[LK]⟩ ?_
   simp only[go_sem,reduceLT,reduceCtorEq,reduceEqDiff,Nat.reduceBEq,reduceAdd,reduceSub,reduceLeDiff,aa ab ah,hr,hx,ek,hn,e4,e5,e6,hst,hsh,hmn]
theorem FL (s:List UInt8)(h:s.length<1000000000):den K 170 [T s] []=some (.ret (T (Sl.low s)) []):=by
 have e:Sl.low s=s.map lowB:=by unfold Sl.low;exact List.map_congr_left fun c _=>(CW c).symm
 rw[e];exact eX (F:=rL) rfl (by unfold rL;simp only;rw[if_pos (by unfold bN;omega)])
def wI (l:List Val)(first:Bool):Prop:=first=false∨(Sl.tokK 1 l=none∧Sl.sign [42] l=none)
theorem JS (g:List Val→Option (Sim×List Val))(l:List Val)(first:Bool)(hl:l.length≤60000000)(hf:wI l first)(t:Tok)(k4:Sl.tokK 4 l=some t) :
  jw simE (jp g l) (den K 140 [P0,B first] [rdB l]):=by
 have hr:Tryz.f140.results=#[.cell 4 52]:=rfl
 have t4:=dV l 4 (by omega)
 have t1:=dV l 1 (by omega)
 unfold jp;obtain⟨e,c,r,rfl,hk⟩:=lF k4;rw[e] at t4
 have htk:=gx 1 t c r (by rw[List.length_cons] at hl;omega)
 rw[ii] at htk;rw[k4]
 show den K 140 [P0,B first] [rdB (.mk 1 t c::r)]=some (.ret (.agg (ff (.mk 3 t.text [] 0 0 []))) [rdB r])
 cases first
 ·simp only[rdB,aQ] at t4 htk ⊢
  refine ai rfl rfl Tryz.func140 rfl Tryz.ntmps140 ⟨by simp,by simp[LK]⟩ ?_
  simp only[go_sem,reduceLT,reduceCtorEq,reduceEqDiff,Nat.reduceBEq,reduceAdd,reduceSub,reduceLeDiff,reduceMul,aa ab ah,ao (len:=1) aK aN aH ⟨rfl,by decide,by decide⟩,hr,t4,htk]
 ·rcases hf with hf|⟨hf1,hf2⟩
  ·cases hf
  rw[eR hf1] at t1
  have s42:=fZ (by omega) hf2
  have q0:(([]:List UInt8)==[])=true:=rfl
  simp only[rdB,aQ] at t1 s42 t4 htk ⊢
  refine ai rfl rfl Tryz.func140 rfl Tryz.ntmps140 ⟨by simp,by simp[LK]⟩ ?_
  simp only[go_sem,reduceLT,reduceCtorEq,reduceEqDiff,Nat.reduceBEq,reduceAdd,reduceSub,reduceLeDiff,reduceMul,aa ab ah,ao (len:=1) aK aN aH ⟨rfl,by decide,by decide⟩,hr,t1,s42,q0,bne,t4,htk]
theorem OZ (g:List Val→Option (Sim×List Val))(l:List Val)(first:Bool)(hl:l.length≤60000000)(hf:wI l first)(k4:Sl.tokK 4 l=none)(r:List Val)(k5:Sl.sign [46] l=some r) :
  jw simE (jp g l) (den K 140 [P0,B first] [rdB l]):=by
 have hr:Tryz.f140.results=#[.cell 4 52]:=rfl
 have t4:=dV l 4 (by omega)
 have t1:=dV l 1 (by omega)
 rw[eR k4] at t4
 have s46:=jU (by omega) k5
 have q0:(([]:List UInt8)==[])=true:=rfl
 have q1:(([46]:List UInt8)==[])=false:=rfl
 have hrl:r.length≤l.length:=by
  obtain⟨v,e,_⟩:=Sl.gK k5;rw[e,List.length_cons];omega
 have hn:=kz r (by omega)
 unfold jp;rw[k4,k5];simp only;cases hnm:Sl.name r with
 | none =>
  rw[hnm] at hn;obtain⟨m,hn⟩:=gh hn;refine⟨m,?_⟩
  cases first
  ·simp only[rdB] at t4 s46 hn ⊢
   refine ai rfl rfl Tryz.func140 rfl Tryz.ntmps140 ⟨by simp,by simp[LK]⟩ ?_
   simp only[go_sem,reduceLT,reduceCtorEq,reduceEqDiff,Nat.reduceBEq,reduceAdd,reduceSub,reduceLeDiff,reduceMul,aa ab ah,ao (len:=1) aK aN aH ⟨rfl,by decide,by decide⟩,hr,t4,s46,q1,bne,hn]
  ·rcases hf with hf|⟨hf1,hf2⟩
   ·cases hf
   rw[eR hf1] at t1
   have s42:=fZ (by omega) hf2
   simp only[rdB] at t1 s42 t4 s46 hn ⊢
   refine ai rfl rfl Tryz.func140 rfl Tryz.ntmps140 ⟨by simp,by simp[LK]⟩ ?_
   simp only[go_sem,reduceLT,reduceCtorEq,reduceEqDiff,Nat.reduceBEq,reduceAdd,reduceSub,reduceLeDiff,reduceMul,aa ab ah,ao (len:=1) aK aN aH ⟨rfl,by decide,by decide⟩,hr,t1,s42,q0,q1,bne,t4,s46,hn]
 | some y =>
  obtain⟨s,m⟩:=y;rw[hnm] at hn;have hn:=eO hn
  show den K 140 [P0,B first] [rdB l]=some (.ret (.agg (ff (.mk 4 s [] 0 0 []))) [rdB m])
  cases first
  ·simp only[rdB,aQ] at t4 s46 hn ⊢
   refine ai rfl rfl Tryz.func140 rfl Tryz.ntmps140 ⟨by simp,by simp[LK]⟩ ?_
   simp only[go_sem,reduceLT,reduceCtorEq,reduceEqDiff,Nat.reduceBEq,reduceAdd,reduceSub,reduceLeDiff,reduceMul,aa ab ah,ao (len:=1) aK aN aH ⟨rfl,by decide,by decide⟩,hr,t4,s46,q1,bne,hn]
  ·rcases hf with hf|⟨hf1,hf2⟩
   ·cases hf
   rw[eR hf1] at t1
   have s42:=fZ (by omega) hf2
   simp only[rdB,aQ] at t1 s42 t4 s46 hn ⊢
   refine ai rfl rfl Tryz.func140 rfl Tryz.ntmps140 ⟨by simp,by simp[LK]⟩ ?_
   simp only[go_sem,reduceLT,reduceCtorEq,reduceEqDiff,Nat.reduceBEq,reduceAdd,reduceSub,reduceLeDiff,reduceMul,aa ab ah,ao (len:=1) aK aN aH ⟨rfl,by decide,by decide⟩,hr,t1,s42,q0,q1,bne,t4,s46,hn]
theorem Ib (g:List Val→Option (Sim×List Val))(l:List Val)(first:Bool)(hl:l.length≤60000000)(hf:wI l first)(k4:Sl.tokK 4 l=none)(k5:Sl.sign [46] l=none)(r:List Val)(k6:Sl.sign [58] l=some r)
  (hp:jw simE (Sl.colon g r) (den K 171 [P0] [rdB r])) :
  jw simE (jp g l) (den K 140 [P0,B first] [rdB l]):=by
 have hr:Tryz.f140.results=#[.cell 4 52]:=rfl
 have t4:=dV l 4 (by omega)
 have t1:=dV l 1 (by omega)
 rw[eR k4] at t4
 have s46:=fZ (by omega) k5
 have s58:=jU (by omega) k6
 have q0:(([]:List UInt8)==[])=true:=rfl
 have q1:(([58]:List UInt8)==[])=false:=rfl
 unfold jp;rw[k4,k5,k6];simp only;cases hc:Sl.colon g r with
 | none =>
  rw[hc] at hp;obtain⟨m,hp⟩:=gh hp;refine⟨m,?_⟩
  cases first
  ·simp only[rdB] at t4 s46 s58 hp ⊢
   refine ai rfl rfl Tryz.func140 rfl Tryz.ntmps140 ⟨by simp,by simp[LK]⟩ ?_
   simp only[go_sem,reduceLT,reduceCtorEq,reduceEqDiff,Nat.reduceBEq,reduceAdd,reduceSub,reduceLeDiff,reduceMul,aa ab ah,ao (len:=1) aK aN aH ⟨rfl,by decide,by decide⟩,hr,t4,s46,s58,q0,q1,bne,hp]
  ·rcases hf with hf|⟨hf1,hf2⟩
   ·cases hf
   rw[eR hf1] at t1
   have s42:=fZ (by omega) hf2
   simp only[rdB] at t1 s42 t4 s46 s58 hp ⊢
   refine ai rfl rfl Tryz.func140 rfl Tryz.ntmps140 ⟨by simp,by simp[LK]⟩ ?_
   simp only[go_sem,reduceLT,reduceCtorEq,reduceEqDiff,Nat.reduceBEq,reduceAdd,reduceSub,reduceLeDiff,reduceMul,aa ab ah,ao (len:=1) aK aN aH ⟨rfl,by decide,by decide⟩,hr,t1,s42,t4,s46,s58,q0,q1,bne,hp]
 | some y =>
  obtain⟨x,m⟩:=y;rw[hc] at hp;have hp:=eO hp
  show den K 140 [P0,B first] [rdB l]=some (.ret (.agg (ff x)) [rdB m])
  obtain⟨k,n,v,a,b,xl⟩:=x;cases xl
  all_goals
   cases first
   ·simp only[rdB,simE,aQ,cO] at t4 s46 s58 hp ⊢
    refine ai rfl rfl Tryz.func140 rfl Tryz.ntmps140 ⟨by simp,by simp[LK]⟩ ?_
    simp only[go_sem,reduceLT,reduceCtorEq,reduceEqDiff,Nat.reduceBEq,reduceAdd,reduceSub,reduceLeDiff,reduceMul,aa ab ah,ao (len:=1) aK aN aH ⟨rfl,by decide,by decide⟩,hr,t4,s46,s58,q0,q1,bne,hp]
   ·rcases hf with hf|⟨hf1,hf2⟩
    ·cases hf
    rw[eR hf1] at t1
    have s42:=fZ (by omega) hf2
    simp only[rdB,simE,aQ,cO] at t1 s42 t4 s46 s58 hp ⊢
    refine ai rfl rfl Tryz.func140 rfl Tryz.ntmps140 ⟨by simp,by simp[LK]⟩ ?_
    simp only[go_sem,reduceLT,reduceCtorEq,reduceEqDiff,Nat.reduceBEq,reduceAdd,reduceSub,reduceLeDiff,reduceMul,aa ab ah,ao (len:=1) aK aN aH ⟨rfl,by decide,by decide⟩,hr,t1,s42,t4,s46,s58,q0,q1,bne,hp]
theorem Kr (g:List Val→Option (Sim×List Val))(l:List Val)(first:Bool)(hl:Ne.size l≤60000000)(hf:wI l first)(k4:Sl.tokK 4 l=none)(k5:Sl.sign [46] l=none)(k6:Sl.sign [58] l=none) :
  jw simE (jp g l) (den K 140 [P0,B first] [rdB l]):=by
 have hr:Tryz.f140.results=#[.cell 4 52]:=rfl
 have hll:=Ne.bD l
 have t4:=dV l 4 (by omega)
 have t1:=dV l 1 (by omega)
 rw[eR k4] at t4
 have s46:=fZ (by omega) k5
 have s58:=fZ (by omega) k6
 have hx:=iM l (by omega)
 have q0:(([]:List UInt8)==[])=true:=rfl
 unfold jp;rw[k4,k5,k6];simp only;cases hv:Sl.eM 3 l with
 | none =>
  obtain⟨k,x1,x2,x3,x4,ek,en⟩:∃ (k:Int) (x1 x2 x3 x4:CV),(k==3)=false∧nxCv l=[.pv (.int .i64 k),x1,x2,x3,x4]:=by
   rcases ud hv with rfl|⟨k,t,c,r,rfl,ek⟩
   ·exact⟨0,_,_,_,_,rfl,xQ⟩
   ·exact⟨k,_,_,_,_,ek,ii k t c r⟩
  rw[en] at hx;refine⟨l,?_⟩
  cases first
  ·simp only[rdB] at t4 s46 s58 hx ⊢
   refine ai rfl rfl Tryz.func140 rfl Tryz.ntmps140 ⟨by simp,by simp[LK]⟩ ?_
   simp only[go_sem,reduceLT,reduceCtorEq,reduceEqDiff,Nat.reduceBEq,reduceAdd,reduceSub,reduceLeDiff,reduceMul,aa ab ah,ao (len:=1) aK aN aH ⟨rfl,by decide,by decide⟩,aa gY ip,hr,t4,s46,s58,q0,bne,hx,ek]
  ·rcases hf with hf|⟨hf1,hf2⟩
   ·cases hf
   rw[eR hf1] at t1
   have s42:=fZ (by omega) hf2
   simp only[rdB] at t1 s42 t4 s46 s58 hx ⊢
   refine ai rfl rfl Tryz.func140 rfl Tryz.ntmps140 ⟨by simp,by simp[LK]⟩ ?_
   simp only[go_sem,reduceLT,reduceCtorEq,reduceEqDiff,Nat.reduceBEq,reduceAdd,reduceSub,reduceLeDiff,reduceMul,aa ab ah,ao (len:=1) aK aN aH ⟨rfl,by decide,by decide⟩,aa gY ip,hr,t1,s42,t4,s46,s58,q0,bne,hx,ek]
 | some y =>
  obtain⟨⟨t,c⟩,r⟩:=y;have e:=pz hv
  subst e;have htk:=gx 3 t c r (by rw[List.length_cons] at hll;omega)
  rw[ii] at hx htk;have ha:=Km c (by rw[Ne.size,Ne.ro] at hl;omega)
  simp only;cases hm:Sl.attr c with
  | none =>
   rw[hm] at ha;simp only at ha;refine⟨r,?_⟩
   cases first
   ·simp only[rdB] at t4 s46 s58 hx htk ⊢
    refine ai rfl rfl Tryz.func140 rfl Tryz.ntmps140 ⟨by simp,by simp[LK]⟩ ?_
    simp only[go_sem,reduceLT,reduceCtorEq,reduceEqDiff,Nat.reduceBEq,reduceAdd,reduceSub,reduceLeDiff,reduceMul,aa ab ah,ao (len:=1) aK aN aH ⟨rfl,by decide,by decide⟩,hr,t4,s46,s58,q0,bne,hx,htk,ha]
   ·rcases hf with hf|⟨hf1,hf2⟩
    ·cases hf
    rw[eR hf1] at t1
    have s42:=fZ (by omega) hf2
    simp only[rdB] at t1 s42 t4 s46 s58 hx htk ⊢
    refine ai rfl rfl Tryz.func140 rfl Tryz.ntmps140 ⟨by simp,by simp[LK]⟩ ?_
    simp only[go_sem,reduceLT,reduceCtorEq,reduceEqDiff,Nat.reduceBEq,reduceAdd,reduceSub,reduceLeDiff,reduceMul,aa ab ah,ao (len:=1) aK aN aH ⟨rfl,by decide,by decide⟩,hr,t1,s42,t4,s46,s58,q0,bne,hx,htk,ha]
  | some x =>
   rw[hm] at ha;simp only at ha
   show den K 140 [P0,B first] [rdB (.mk 3 t c::r)]=some (.ret (.agg (ff x)) [rdB r])
   obtain⟨k,n,v,a,b,xl⟩:=x;cases xl
   all_goals
    cases first
    ·simp only[rdB,aQ,cO] at t4 s46 s58 hx htk ha ⊢
     refine ai rfl rfl Tryz.func140 rfl Tryz.ntmps140 ⟨by simp,by simp[LK]⟩ ?_
     simp only[go_sem,reduceLT,reduceCtorEq,reduceEqDiff,Nat.reduceBEq,reduceAdd,reduceSub,reduceLeDiff,reduceMul,aa ab ah,ao (len:=1) aK aN aH ⟨rfl,by decide,by decide⟩,hr,t4,s46,s58,q0,bne,hx,htk,ha]
    ·rcases hf with hf|⟨hf1,hf2⟩
     ·cases hf
     rw[eR hf1] at t1
     have s42:=fZ (by omega) hf2
     simp only[rdB,aQ,cO] at t1 s42 t4 s46 s58 hx htk ha ⊢
     refine ai rfl rfl Tryz.func140 rfl Tryz.ntmps140 ⟨by simp,by simp[LK]⟩ ?_
     simp only[go_sem,reduceLT,reduceCtorEq,reduceEqDiff,Nat.reduceBEq,reduceAdd,reduceSub,reduceLeDiff,reduceMul,aa ab ah,ao (len:=1) aK aN aH ⟨rfl,by decide,by decide⟩,hr,t1,s42,t4,s46,s58,q0,bne,hx,htk,ha]
theorem Ft (l:List Val)(hl:l.length≤60000000)(hts:TSh l)(t:Tok)(k1:Sl.tokK 1 l=some t) :
  den K 140 [P0,B true] [rdB l]=some (.ret (.agg (ff (.mk 2 (Sl.low t.text) [] 0 0 []))) [rdB l.tail]):=by
 have hr:Tryz.f140.results=#[.cell 4 52]:=rfl
 have t1:=dV l 1 (by omega)
 have hn:=kz l (by omega)
 have en:Sl.name l=some (t.text,l.tail):=by unfold Sl.name;rw[k1];rfl
 rw[en] at hn;have hn:=eO hn
 obtain⟨e,c,r,rfl,hk⟩:=lF k1;rw[e] at t1
 have hlo:=FL t.text (FI hts)
 simp only[rdB,aQ,List.tail_cons] at t1 hn ⊢
 refine ai rfl rfl Tryz.func140 rfl Tryz.ntmps140 ⟨by simp,by simp[LK]⟩ ?_
 simp only[go_sem,reduceLT,reduceCtorEq,reduceEqDiff,Nat.reduceBEq,reduceAdd,reduceSub,reduceLeDiff,reduceMul,aa ab ah,ao (len:=1) aK aN aH ⟨rfl,by decide,by decide⟩,hr,t1,hn,hlo]
theorem CF (l:List Val)(hl:l.length≤60000000)(k1:Sl.tokK 1 l=none)(r:List Val)(k2:Sl.sign [42] l=some r) :
  den K 140 [P0,B true] [rdB l]=some (.ret (.agg (ff (.mk 1 [] [] 0 0 []))) [rdB r]):=by
 have hr:Tryz.f140.results=#[.cell 4 52]:=rfl
 have t1:=dV l 1 (by omega)
 rw[eR k1] at t1
 have s42:=jU (by omega) k2
 have q1:(([42]:List UInt8)==[])=false:=rfl
 simp only[rdB,aQ] at t1 s42 ⊢
 refine ai rfl rfl Tryz.func140 rfl Tryz.ntmps140 ⟨by simp,by simp[LK]⟩ ?_
 simp only[go_sem,reduceLT,reduceCtorEq,reduceEqDiff,Nat.reduceBEq,reduceAdd,reduceSub,reduceLeDiff,reduceMul,aa ab ah,ao (len:=1) aK aN aH ⟨rfl,by decide,by decide⟩,hr,t1,s42,q1,bne]
attribute [local go_sem] kh aZ fy iy lH lk fT kw jb aO cP Ix Jc fV ib fI BR gp Bx fU iA lC TK yY zM
theorem aV {α:Type}{ops ops' ops2:List Oper}{n j i n' j' i' n2 j2 i2:Nat}{a b:α}(h:(reach ops n j i&&(reach ops' n' j' i'&&reach ops2 n2 j2 i2))=true):(if (reach ops n j i&&(reach ops' n' j' i'&&reach ops2 n2 j2 i2))=true then a else b)=a:=if_pos h
abbrev encQ (l:List Prt):List (List PV):=l.map Prt.enc
theorem cx (l:List Prt):(encQ l).length=l.length:=List.length_map ..
theorem jm (l:List Prt):lens 2 (encQ l)=true:=by
 simp only[lens,List.all_map,List.all_eq_true];intro x _;rfl
theorem fm (a b:PV):lens 2 [[a,b]]=true:=rfl
theorem fD (l:List Prt)(cb:Int)(acc:List Sim):encQ l++[[.int .i64 cb,.sl (Sim.encL acc)]]=encQ (l++[⟨cb,acc⟩]):=by
 show _=(l++[(⟨cb,acc⟩:Prt)]).map Prt.enc
 rw[List.map_append,Sim.encL_map];rfl
abbrev cx4H (l:List Val)(i:Nat)(cb:Int)(e:Nat)(ps:List Prt):St :=
  { sl:=upd (upd (upd (upd bot 6 (I cb)) 5 (.c (.loc 5 0))) 4 (.c (.loc 10 0))) 2 (.c (.loc 2 0)),
    bx:=upd (upd (upd nobox 10 (some (rb0 l i false))) 5 (some [.own e (encQ ps),.pv (.str [])])) 2 (some zcpx),nt:=141 }
noncomputable def cxlp:Code:=.loop (ap Tryz.f48 4)
theorem PM (l:List Val)(i:Nat)(cb:Int)(e:Nat)(ps:List Prt)(h:¬ ps.length<16) :
  Ends (exL K 48 cxlp (cx4H l i cb e ps)) fun o S=>o=.exit 0∧S.nt=141∧S.sl 2=.c (.loc 2 0)∧S.bx 2=some zcpx:=by
 have e1:decide ((ps.length:Int)<16)=false:=decide_eq_false (by omega)
 unfold cxlp
 conv in ap _ _=>whnf
 rw[aq];simp only[go_sem,reduceLT,reduceEqDiff,Nat.reduceBEq,reduceAdd,af ay,cx,e1,aw]
def CNo (o:Out)(S:St):Prop:=o=.ret∧S.sl 2=.c (.loc 2 0)∧S.sl 3=B false∧S.bx 2=some [.nils,.pv (.str [])]
def CYes (ps:List Prt)(s:List UInt8)(o:Out)(S:St):Prop:=o=.ret∧S.sl 2=.c (.loc 2 0)∧S.sl 3=B true∧S.bx 2=some [.pv (.sl (encQ ps)),.pv (.str s)]
theorem Sq (l:List Val)(i:Nat)(cb:Int)(e:Nat)(ps:List Prt)(hl:l.length≤100000000)(h16:ps.length<16)(he:e=50∨ps=[])(S:St)(w:exL K 48 palp (kc l i false cb 0 [] e (encQ ps))=some (.exit 2,S))(hk:PKept S e (encQ ps))(j e7:Nat)(acc:List Sim)(gb10:S.bx 10=some (rb0 l j true))(gb7:S.bx 7=some (pcell cb e7 acc)) :
  Ends (exL K 48 cxlp (cx4H l i cb e ps)) fun o S=>CNo o S:=by
 have e16:decide ((ps.length:Int)<16)=true:=decide_eq_true (by omega)
 have hown:e=50∨(encQ ps).isEmpty=true:=by
  rcases he with rfl|rfl
  ·exact .inl rfl
  ·exact .inr rfl
 have hlim:ps.length+1<bS:=by unfold bS;omega
 have hlv:=jm ps
 unfold PKept at hk;obtain⟨gn,g2,g4,g5,g7,gb2,gb5⟩:=hk;simp only[rb0,pcell] at gb10 gb7
 unfold palp at w
 conv at w in ap _ _=>whnf
 simp only[kc,rb0,pcell] at w
 unfold cxlp
 conv in ap _ _=>whnf
 unfold CNo;rw[aq];simp only[go_sem,reduceLT,reduceEqDiff,Nat.reduceBEq,reduceAdd,reduceLeDiff,af ay,aa aO cq,cx,e16];rw[au];simp only[go_sem,reduceEqDiff,Nat.reduceBEq];erw [w];simp only[go_sem,reduceLT,reduceCtorEq,reduceEqDiff,Nat.reduceBEq,reduceAdd,reduceLeDiff,reduceMul,aa aZ cg,ao (len:=1) ay cP aO ⟨rfl,by decide,by decide⟩,bq cG,aU ay,cx,hown,hlim,hlv,fm,fD,gn,g2,g4,g5,g7,gb2,gb5,gb7,gb10,aw]
theorem Lp (l:List Val)(i:Nat)(cb:Int)(e:Nat)(ps:List Prt)(hl:l.length≤100000000)(h16:ps.length<16)(he:e=50∨ps=[])(S:St)(w:exL K 48 palp (kc l i false cb 0 [] e (encQ ps))=some (.exit 2,S))(hk:PKept S e (encQ ps))(j e7:Nat)(acc:List Sim)(hj:j≤l.length)(hd:Sl.double (l.drop j)=false)(hw:8<acc.length∨acc=[])(gb10:S.bx 10=some (rb0 l j false))(gb7:S.bx 7=some (pcell cb e7 acc)) :
  Ends (exL K 48 cxlp (cx4H l i cb e ps)) fun o S=>CNo o S:=by
 have dd:=jJ l j false hl (by omega)
 rw[hd] at dd
 simp only[rb0] at dd
 have e16:decide ((ps.length:Int)<16)=true:=decide_eq_true (by omega)
 have hown:e=50∨(encQ ps).isEmpty=true:=by
  rcases he with rfl|rfl
  ·exact .inl rfl
  ·exact .inr rfl
 have hlim:ps.length+1<bS:=by unfold bS;omega
 have hlv:=jm ps
 unfold PKept at hk;obtain⟨gn,g2,g4,g5,g7,gb2,gb5⟩:=hk;simp only[rb0,pcell] at gb10 gb7
 unfold palp at w
 conv at w in ap _ _=>whnf
 simp only[kc,rb0,pcell] at w
 unfold cxlp
 conv in ap _ _=>whnf
 unfold CNo;by_cases h8:8<acc.length
 ·have e8:decide ((8:Int)<(acc.length:Int))=true:=decide_eq_true (by omega)
  rw[aq];simp only[go_sem,reduceLT,reduceEqDiff,Nat.reduceBEq,reduceAdd,reduceLeDiff,af ay,aa aO cq,cx,e16];rw[au];simp only[go_sem,reduceEqDiff,Nat.reduceBEq];erw [w];simp only[go_sem,reduceLT,reduceCtorEq,reduceEqDiff,Nat.reduceBEq,reduceAdd,reduceLeDiff,reduceMul,aa aZ cg,af ae,ao (len:=1) ay cP aO ⟨rfl,by decide,by decide⟩,bq cG,aU ay,cx,hown,hlim,hlv,fm,fD,gL,gn,g2,g4,g5,g7,gb2,gb5,gb7,gb10,dd,e8,aw]
 ·have e8:decide ((8:Int)<(acc.length:Int))=false:=decide_eq_false (by omega)
  have e0:((acc.length:Int)==0)=true:=by
   rcases hw with h|h
   ·exact absurd h h8
   ·rw[h];rfl
  rw[aq];simp only[go_sem,reduceLT,reduceEqDiff,Nat.reduceBEq,reduceAdd,reduceLeDiff,af ay,aa aO cq,cx,e16];rw[au];simp only[go_sem,reduceEqDiff,Nat.reduceBEq];erw [w];simp only[go_sem,reduceLT,reduceCtorEq,reduceEqDiff,Nat.reduceBEq,reduceAdd,reduceLeDiff,reduceMul,aa aZ cg,af ae,ao (len:=1) ay cP aO ⟨rfl,by decide,by decide⟩,bq cG,aU ay,cx,hown,hlim,hlv,fm,fD,gL,gn,g2,g4,g5,g7,gb2,gb5,gb7,gb10,dd,e8,e0,aw]
theorem Ow (l:List Val)(i:Nat)(cb:Int)(e:Nat)(ps:List Prt)(hl:l.length≤100000000)(h16:ps.length<16)(he:e=50∨ps=[])(S:St)(w:exL K 48 palp (kc l i false cb 0 [] e (encQ ps))=some (.exit 2,S))(hk:PKept S e (encQ ps))(e7:Nat)(acc:List Sim)(hd:Sl.double (l.drop l.length)=false)(h8:acc.length≤8)(hne:acc≠[])(gb10:S.bx 10=some (rb0 l l.length false))(gb7:S.bx 7=some (pcell cb e7 acc)) :
  Ends (exL K 48 cxlp (cx4H l i cb e ps)) fun o S=>CYes (ps++[⟨cb,acc⟩]) [] o S:=by
 have dd:=jJ l l.length false hl (by omega)
 rw[hd] at dd
 simp only[rb0] at dd
 have en:((l.length:Int)==(l.length:Int))=true:=beq_self_eq_true _
 have e8:decide ((8:Int)<(acc.length:Int))=false:=decide_eq_false (by omega)
 have e0:((acc.length:Int)==0)=false:=by
  rw[beq_eq_false_iff_ne];intro h;exact hne (List.eq_nil_of_length_eq_zero (by omega))
 have e16:decide ((ps.length:Int)<16)=true:=decide_eq_true (by omega)
 have hown:e=50∨(encQ ps).isEmpty=true:=by
  rcases he with rfl|rfl
  ·exact .inl rfl
  ·exact .inr rfl
 have hlim:ps.length+1<bS:=by unfold bS;omega
 have hlv:=jm ps
 unfold PKept at hk;obtain⟨gn,g2,g4,g5,g7,gb2,gb5⟩:=hk;simp only[rb0,pcell] at gb10 gb7
 unfold palp at w
 conv at w in ap _ _=>whnf
 simp only[kc,rb0,pcell] at w
 unfold cxlp
 conv in ap _ _=>whnf
 unfold CYes;rw[aq];simp only[go_sem,reduceLT,reduceEqDiff,Nat.reduceBEq,reduceAdd,reduceLeDiff,af ay,aa aO cq,cx,e16];rw[au];simp only[go_sem,reduceEqDiff,Nat.reduceBEq];erw [w];simp only[go_sem,reduceLT,reduceCtorEq,reduceEqDiff,Nat.reduceBEq,reduceAdd,reduceLeDiff,reduceMul,aa aZ cg,af ae,af ak,ao (len:=1) ay cP aO ⟨rfl,by decide,by decide⟩,bq cG,aU ay,cx,hown,hlim,hlv,fm,fD,gL,gn,g2,g4,g5,g7,gb2,gb5,gb7,gb10,dd,e8,e0,en,aA,aw]
theorem Qg (l:List Val)(i:Nat)(cb:Int)(e:Nat)(ps:List Prt)(hl:l.length≤100000000)(h16:ps.length<16)(he:e=50∨ps=[])(S:St)(w:exL K 48 palp (kc l i false cb 0 [] e (encQ ps))=some (.exit 2,S))(hk:PKept S e (encQ ps))(j e7:Nat)(acc:List Sim)(hj:j<l.length)(hd:Sl.double (l.drop j)=false)(h8:acc.length≤8)(hne:acc≠[])(gb10:S.bx 10=some (rb0 l j false))(gb7:S.bx 7=some (pcell cb e7 acc))(c:Int)(m:Nat)(hc:den K 97 [P0] [rb0 l j false]=some (.ret (I c) [rb0 l m false])) :
  exL K 48 cxlp (cx4H l i cb e ps)=exL K 48 cxlp (cx4H l m c 50 (ps++[⟨cb,acc⟩])):=by
 have dd:=jJ l j false hl (by omega)
 rw[hd] at dd
 simp only[rb0] at dd hc
 have en:((j:Int)==(l.length:Int))=false:=by rw[beq_eq_false_iff_ne];omega
 have e8:decide ((8:Int)<(acc.length:Int))=false:=decide_eq_false (by omega)
 have e0:((acc.length:Int)==0)=false:=by
  rw[beq_eq_false_iff_ne];intro h;exact hne (List.eq_nil_of_length_eq_zero (by omega))
 have e16:decide ((ps.length:Int)<16)=true:=decide_eq_true (by omega)
 have hown:e=50∨(encQ ps).isEmpty=true:=by
  rcases he with rfl|rfl
  ·exact .inl rfl
  ·exact .inr rfl
 have hlim:ps.length+1<bS:=by unfold bS;omega
 have hlv:=jm ps
 unfold PKept at hk;obtain⟨gn,g2,g4,g5,g7,gb2,gb5⟩:=hk;simp only[rb0,pcell] at gb10 gb7
 unfold palp at w
 conv at w in ap _ _=>whnf
 simp only[kc,rb0,pcell] at w
 unfold cxlp
 conv in ap _ _=>whnf
 conv in ap _ _=>whnf
 conv in exL _ _ _ (cx4H l i cb e ps)=>rw[aq]
 simp only[go_sem,reduceLT,reduceEqDiff,Nat.reduceBEq,reduceAdd,reduceLeDiff,af ay,aa aO cq,cx,e16];rw[au];simp only[go_sem,reduceEqDiff,Nat.reduceBEq];erw [w];simp only[go_sem,reduceLT,reduceCtorEq,reduceEqDiff,Nat.reduceBEq,reduceAdd,reduceLeDiff,reduceMul,aa aZ cg,af ae,af ak,ao (len:=1) ay cP aO ⟨rfl,by decide,by decide⟩,bq cG,aU ay,cx,hown,hlim,hlv,fm,fD,gL,gn,g2,g4,g5,g7,gb2,gb5,gb7,gb10,dd,e8,e0,en,hc,aA]
 rw[au];simp only[go_sem,reduceEqDiff,Nat.reduceBEq,g2,g4,g5,gb2]
theorem Lf (l:List Val)(i:Nat)(cb:Int)(e:Nat)(ps:List Prt)(hl:l.length≤100000000)(h16:ps.length<16)(he:e=50∨ps=[])(S:St)(w:exL K 48 palp (kc l i false cb 0 [] e (encQ ps))=some (.exit 2,S))(hk:PKept S e (encQ ps))(j e7:Nat)(acc:List Sim)(hj:j<l.length)(hd:Sl.double (l.drop j)=true)(hn:Sl.name (l.drop (j+2))=none)(gb10:S.bx 10=some (rb0 l j false))(gb7:S.bx 7=some (pcell cb e7 acc)) :
  Ends (exL K 48 cxlp (cx4H l i cb e ps)) fun o S=>CNo o S:=by
 have dd:=jJ l j false hl (by omega)
 rw[hd] at dd
 simp only[rb0] at dd
 have w2:IntKind.i64.wrap ((j:Int)+2)=((j+2:Nat):Int):=by rw[IntWalk.i64_in _ (by omega)];omega
 have nm:=vZ l (j+2) false hl hn
 simp only[rb0] at nm
 have e16:decide ((ps.length:Int)<16)=true:=decide_eq_true (by omega)
 have hown:e=50∨(encQ ps).isEmpty=true:=by
  rcases he with rfl|rfl
  ·exact .inl rfl
  ·exact .inr rfl
 have hlim:ps.length+1<bS:=by unfold bS;omega
 have hlv:=jm ps
 unfold PKept at hk;obtain⟨gn,g2,g4,g5,g7,gb2,gb5⟩:=hk;simp only[rb0,pcell] at gb10 gb7
 unfold palp at w
 conv at w in ap _ _=>whnf
 simp only[kc,rb0,pcell] at w
 unfold cxlp
 conv in ap _ _=>whnf
 unfold CNo;rw[aq];simp only[go_sem,reduceLT,reduceEqDiff,Nat.reduceBEq,reduceAdd,reduceLeDiff,af ay,aa aO cq,cx,e16];rw[au];simp only[go_sem,reduceEqDiff,Nat.reduceBEq];erw [w];simp only[go_sem,reduceLT,reduceEqDiff,Nat.reduceBEq,reduceAdd,reduceLeDiff,gn,g4,g5,gb5,gb10,dd,w2,nm]
 first|rw[aY]|rw[aR]|rw[aV]
 rotate_left
 ·kernel_rfl
 simp only[go_sem,reduceLT,reduceCtorEq,reduceEqDiff,Nat.reduceBEq,reduceAdd,reduceLeDiff,reduceMul,aa aZ cg,ao (len:=1) ay cP aO ⟨rfl,by decide,by decide⟩,bq cG,aU ay,cx,hown,hlim,hlv,fm,fD,g2,g4,g5,g7,gb2,gb5,gb7,gb10,aw]
theorem HR (l:List Val)(i:Nat)(cb:Int)(e:Nat)(ps:List Prt)(hl:l.length≤100000000)(h16:ps.length<16)(he:e=50∨ps=[])(S:St)(w:exL K 48 palp (kc l i false cb 0 [] e (encQ ps))=some (.exit 2,S))(hk:PKept S e (encQ ps))(j e7:Nat)(acc:List Sim)(hj:j<l.length)(hd:Sl.double (l.drop j)=true)(s:List UInt8)(r:List Val)(hn:Sl.name (l.drop (j+2))=some (s,r))(gb10:S.bx 10=some (rb0 l j false))(gb7:S.bx 7=some (pcell cb e7 acc)) :
  if r=[]∧(s=Sl.eH∨s=Sl.fJ)∧acc.length≤8 then Ends (exL K 48 cxlp (cx4H l i cb e ps)) (fun o S=>CYes (ps++[⟨cb,acc⟩]) s o S) else Ends (exL K 48 cxlp (cx4H l i cb e ps)) fun o S=>CNo o S:=by
 have dd:=jJ l j false hl (by omega)
 rw[hd] at dd
 simp only[rb0] at dd
 have w2:IntKind.i64.wrap ((j:Int)+2)=((j+2:Nat):Int):=by rw[IntWalk.i64_in _ (by omega)];omega
 obtain⟨nm,nd,ni⟩:=pN l (j+2) false hl s r hn;simp only[rb0] at nm
 have e16:decide ((ps.length:Int)<16)=true:=decide_eq_true (by omega)
 have hown:e=50∨(encQ ps).isEmpty=true:=by
  rcases he with rfl|rfl
  ·exact .inl rfl
  ·exact .inr rfl
 have hlim:ps.length+1<bS:=by unfold bS;omega
 have hlv:=jm ps
 unfold PKept at hk;obtain⟨gn,g2,g4,g5,g7,gb2,gb5⟩:=hk;simp only[rb0,pcell] at gb10 gb7
 unfold palp at w
 conv at w in ap _ _=>whnf
 simp only[kc,rb0,pcell] at w
 by_cases h1:s=Sl.eH∨s=Sl.fJ
 ·have hb:∃ b,(s != [98,101,102,111,114,101])=b∧(b=true→(s != [97,102,116,101,114])=false)∧(s==[])=false:=by
   rcases h1 with rfl|rfl
   ·exact⟨false,rfl,(fun h=>by cases h),rfl⟩
   ·exact⟨true,rfl,(fun _=>rfl),rfl⟩
  obtain⟨b,b1,b2,b3⟩:=hb;by_cases h2:r=[]
  ·have hjl:j+3=l.length:=by
    rw[h2] at nd
    have:=List.drop_eq_nil_iff.1 nd
    omega
   have e2:decide (((j+2+1:Nat):Int)<(l.length:Int))=false:=decide_eq_false (by omega)
   have en:(((j+2+1:Nat):Int)==(l.length:Int))=true:=by rw[beq_iff_eq];omega
   by_cases h8:acc.length≤8
   ·rw[if_pos (show r=[]∧(s=Sl.eH∨s=Sl.fJ)∧acc.length≤8 from⟨h2,h1,h8⟩)]
    unfold CYes;have e8:decide ((8:Int)<(acc.length:Int))=false:=decide_eq_false (by omega)
    cases h0:((acc.length:Int)==0)
    all_goals
     cases b
     ·unfold cxlp
      conv in ap _ _=>whnf
      rw[aq];simp only[go_sem,reduceLT,reduceEqDiff,Nat.reduceBEq,reduceAdd,reduceLeDiff,af ay,aa aO cq,cx,e16];rw[au];simp only[go_sem,reduceEqDiff,Nat.reduceBEq];erw [w];simp only[go_sem,reduceLT,reduceEqDiff,Nat.reduceBEq,reduceAdd,reduceLeDiff,af ak,gn,g4,g5,gb5,gb10,dd,w2,nm,b1,e2,aA]
      first|rw[aY]|rw[aR]|rw[aV]
      rotate_left
      ·kernel_rfl
      simp only[go_sem,reduceLT,reduceCtorEq,reduceEqDiff,Nat.reduceBEq,reduceAdd,reduceLeDiff,reduceMul,aa aZ cg,af ae,af ak,ao (len:=1) ay cP aO ⟨rfl,by decide,by decide⟩,bq cG,aU ay,cx,hown,hlim,hlv,fm,fD,gL,g2,g4,g5,g7,gb2,gb5,gb7,gb10,b3,e8,h0,en,aA,aw]
     ·have b4:=b2 rfl
      unfold cxlp
      conv in ap _ _=>whnf
      rw[aq];simp only[go_sem,reduceLT,reduceEqDiff,Nat.reduceBEq,reduceAdd,reduceLeDiff,af ay,aa aO cq,cx,e16];rw[au];simp only[go_sem,reduceEqDiff,Nat.reduceBEq];erw [w];simp only[go_sem,reduceLT,reduceEqDiff,Nat.reduceBEq,reduceAdd,reduceLeDiff,af ak,gn,g4,g5,gb5,gb10,dd,w2,nm,b1,b4,e2,aA]
      first|rw[aY]|rw[aR]|rw[aV]
      rotate_left
      ·kernel_rfl
      simp only[go_sem,reduceLT,reduceCtorEq,reduceEqDiff,Nat.reduceBEq,reduceAdd,reduceLeDiff,reduceMul,aa aZ cg,af ae,af ak,ao (len:=1) ay cP aO ⟨rfl,by decide,by decide⟩,bq cG,aU ay,cx,hown,hlim,hlv,fm,fD,gL,g2,g4,g5,g7,gb2,gb5,gb7,gb10,b3,e8,h0,en,aA,aw]
   ·rw[if_neg (show ¬(r=[]∧(s=Sl.eH∨s=Sl.fJ)∧acc.length≤8) from fun h=>h8 h.2.2)]
    unfold CNo;have e8:decide ((8:Int)<(acc.length:Int))=true:=decide_eq_true (by omega)
    cases b
    ·unfold cxlp
     conv in ap _ _=>whnf
     rw[aq];simp only[go_sem,reduceLT,reduceEqDiff,Nat.reduceBEq,reduceAdd,reduceLeDiff,af ay,aa aO cq,cx,e16];rw[au];simp only[go_sem,reduceEqDiff,Nat.reduceBEq];erw [w];simp only[go_sem,reduceLT,reduceEqDiff,Nat.reduceBEq,reduceAdd,reduceLeDiff,af ak,gn,g4,g5,gb5,gb10,dd,w2,nm,b1,e2,aA]
     first|rw[aY]|rw[aR]|rw[aV]
     rotate_left
     ·kernel_rfl
     simp only[go_sem,reduceLT,reduceCtorEq,reduceEqDiff,Nat.reduceBEq,reduceAdd,reduceLeDiff,reduceMul,aa aZ cg,af ae,ao (len:=1) ay cP aO ⟨rfl,by decide,by decide⟩,bq cG,aU ay,cx,hown,hlim,hlv,fm,fD,gL,g2,g4,g5,g7,gb2,gb5,gb7,gb10,e8,aw]
    ·have b4:=b2 rfl
     unfold cxlp
     conv in ap _ _=>whnf
     rw[aq];simp only[go_sem,reduceLT,reduceEqDiff,Nat.reduceBEq,reduceAdd,reduceLeDiff,af ay,aa aO cq,cx,e16];rw[au];simp only[go_sem,reduceEqDiff,Nat.reduceBEq];erw [w];simp only[go_sem,reduceLT,reduceEqDiff,Nat.reduceBEq,reduceAdd,reduceLeDiff,af ak,gn,g4,g5,gb5,gb10,dd,w2,nm,b1,b4,e2,aA]
     first|rw[aY]|rw[aR]|rw[aV]
     rotate_left
     ·kernel_rfl
     simp only[go_sem,reduceLT,reduceCtorEq,reduceEqDiff,Nat.reduceBEq,reduceAdd,reduceLeDiff,reduceMul,aa aZ cg,af ae,ao (len:=1) ay cP aO ⟨rfl,by decide,by decide⟩,bq cG,aU ay,cx,hown,hlim,hlv,fm,fD,gL,g2,g4,g5,g7,gb2,gb5,gb7,gb10,e8,aw]
  ·rw[if_neg (show ¬(r=[]∧(s=Sl.eH∨s=Sl.fJ)∧acc.length≤8) from fun h=>h2 h.1)]
   unfold CNo;have hjl:j+3<l.length:=by
    rcases Nat.lt_or_ge (j+3) l.length with h|h
    ·exact h
    ·exact absurd (by rw[←nd];exact List.drop_eq_nil_iff.2 h) h2
   have e2:decide (((j+2+1:Nat):Int)<(l.length:Int))=true:=decide_eq_true (by omega)
   cases b
   ·unfold cxlp
    conv in ap _ _=>whnf
    rw[aq];simp only[go_sem,reduceLT,reduceEqDiff,Nat.reduceBEq,reduceAdd,reduceLeDiff,af ay,aa aO cq,cx,e16];rw[au];simp only[go_sem,reduceEqDiff,Nat.reduceBEq];erw [w];simp only[go_sem,reduceLT,reduceEqDiff,Nat.reduceBEq,reduceAdd,reduceLeDiff,af ak,gn,g4,g5,gb5,gb10,dd,w2,nm,b1,e2,aA]
    first|rw[aY]|rw[aR]|rw[aV]
    rotate_left
    ·kernel_rfl
    simp only[go_sem,reduceLT,reduceCtorEq,reduceEqDiff,Nat.reduceBEq,reduceAdd,reduceLeDiff,reduceMul,aa aZ cg,ao (len:=1) ay cP aO ⟨rfl,by decide,by decide⟩,bq cG,aU ay,cx,hown,hlim,hlv,fm,fD,g2,g4,g5,g7,gb2,gb5,gb7,gb10,aw]
   ·have b4:=b2 rfl
    unfold cxlp
    conv in ap _ _=>whnf
    rw[aq];simp only[go_sem,reduceLT,reduceEqDiff,Nat.reduceBEq,reduceAdd,reduceLeDiff,af ay,aa aO cq,cx,e16];rw[au];simp only[go_sem,reduceEqDiff,Nat.reduceBEq];erw [w];simp only[go_sem,reduceLT,reduceEqDiff,Nat.reduceBEq,reduceAdd,reduceLeDiff,af ak,gn,g4,g5,gb5,gb10,dd,w2,nm,b1,b4,e2,aA]
    first|rw[aY]|rw[aR]|rw[aV]
    rotate_left
    ·kernel_rfl
    simp only[go_sem,reduceLT,reduceCtorEq,reduceEqDiff,Nat.reduceBEq,reduceAdd,reduceLeDiff,reduceMul,aa aZ cg,ao (len:=1) ay cP aO ⟨rfl,by decide,by decide⟩,bq cG,aU ay,cx,hown,hlim,hlv,fm,fD,g2,g4,g5,g7,gb2,gb5,gb7,gb10,aw]
 ·rw[if_neg (show ¬(r=[]∧(s=Sl.eH∨s=Sl.fJ)∧acc.length≤8) from fun h=>h1 h.2.1)]
  unfold CNo;have b1:(s != [98,101,102,111,114,101])=true:=by rw[bne_iff_ne];exact fun h=>h1 (.inl h)
  have b4:(s != [97,102,116,101,114])=true:=by rw[bne_iff_ne];exact fun h=>h1 (.inr h)
  unfold cxlp
  conv in ap _ _=>whnf
  rw[aq];simp only[go_sem,reduceLT,reduceEqDiff,Nat.reduceBEq,reduceAdd,reduceLeDiff,af ay,aa aO cq,cx,e16];rw[au];simp only[go_sem,reduceEqDiff,Nat.reduceBEq];erw [w];simp only[go_sem,reduceLT,reduceEqDiff,Nat.reduceBEq,reduceAdd,reduceLeDiff,gn,g4,g5,gb5,gb10,dd,w2,nm,b1,b4]
  first|rw[aY]|rw[aR]|rw[aV]
  rotate_left
  ·kernel_rfl
  simp only[go_sem,reduceLT,reduceCtorEq,reduceEqDiff,Nat.reduceBEq,reduceAdd,reduceLeDiff,reduceMul,aa aZ cg,ao (len:=1) ay cP aO ⟨rfl,by decide,by decide⟩,bq cG,aU ay,cx,hown,hlim,hlv,fm,fD,g2,g4,g5,g7,gb2,gb5,gb7,gb10,aw]
def PEnd (res:Option (List Sim×List Val))(l:List Val)(i:Nat)(cb:Int)(acc:List Sim)(S:St):Prop :=
 match res with
 | some (qs,r)=>∃ (j e:Nat),l.drop j=r∧i≤j∧j≤l.length∧(Sl.over r||Sl.double r)=true∧S.bx 10=some (rb0 l j false)∧S.bx 7=some (pcell cb e (acc++qs))∧(e=52∨acc++qs=[])
 | none=>∃ (j e:Nat) (acc':List Sim),S.bx 10=some (rb0 l j true)∧S.bx 7=some (pcell cb e acc')∧(e=52∨acc'=[])∧acc'.length≤100000001
theorem zI (l:List Val)(cb:Int)(e5:Nat)(ps:List (List PV))(hsz:Ne.size l≤100000000)(hts:TSh l):∀ (f:Nat) (i e:Nat) (acc:List Sim) (first:Bool),(l.drop i).length<f→i≤l.length→((acc.length:Int)==0)=first→acc.length≤i→(e=52∨acc=[]) →
  Ends (exL K 48 palp (kc l i false cb e acc e5 ps)) fun o S=>o=.exit 2∧PKept S e5 ps∧PEnd (Sl.part f first (l.drop i)) l i cb acc S
 | 0,i,e,acc,first,hf,_,_,_,_=>absurd hf (by omega)
 | f+1,i,e,acc,first,hf,hi,hfi,ha,he=>by
  have hl:l.length≤100000000:=Nat.le_trans (Ne.bD l) hsz
  cases ho:Sl.over (l.drop i) with
  | true =>
   have hp:Sl.part (f+1) first (l.drop i)=some ([],l.drop i):=by rw[Sl.part,ho];rfl
   rw[hp];refine aW (Mw l i cb e acc e5 ps hl ho) fun o S q=>⟨q.1,q.2.1,i,e,rfl,Nat.le_refl _,hi,by rw[ho];rfl,q.2.2.1,?_,?_⟩
   ·rw[List.append_nil];exact q.2.2.2
   ·rw[List.append_nil];exact he
  | false =>
   cases hd:Sl.double (l.drop i) with
   | true =>
    have hp:Sl.part (f+1) first (l.drop i)=some ([],l.drop i):=by rw[Sl.part,ho,hd];rfl
    rw[hp];refine aW (DL l i cb e acc e5 ps hl hi ho hd) fun o S q=>⟨q.1,q.2.1,i,e,rfl,Nat.le_refl _,hi,by rw[ho,hd];rfl,q.2.2.1,?_,?_⟩
    ·rw[List.append_nil];exact q.2.2.2
    ·rw[List.append_nil];exact he
   | false =>
    have hil:i<l.length:=by
     rcases Nat.lt_or_ge i l.length with h|h
     ·exact h
     ·rw[List.drop_eq_nil_iff.2 h] at ho;cases ho
    have hs:=CX l i first hsz hts hil
    have hp:Sl.part (f+1) first (l.drop i)=match Sl.simple (Ne.size (l.drop i)) first (l.drop i) with
     | none=>none
     | some (x,r)=>(Sl.part f false r).map fun y=>(x::y.1,y.2):=by rw[Sl.part,ho,hd];rfl
    rw[hp];unfold jV SRes at hs;cases hr:Sl.simple (Ne.size (l.drop i)) first (l.drop i) with
    | none =>
     rw[hr] at hs;obtain⟨x,j,hs⟩:=hs;rw[zq l i cb e acc e5 ps hl hi ho hd (by omega) he first hfi x j true hs]
     refine aW (Re l j cb 52 (acc++[x]) e5 ps) fun o S q=>⟨q.1,q.2.1,j,52,acc++[x],q.2.2.1,q.2.2.2,.inl rfl,?_⟩
     rw[List.length_append,List.length_singleton];omega
    | some y =>
     obtain⟨x,r⟩:=y;rw[hr] at hs;obtain⟨j,j1,j2,j3,hs⟩:=hs;subst j1;rw[zq l i cb e acc e5 ps hl hi ho hd (by omega) he first hfi x j false hs]
     have hlen:(acc++[x]).length=acc.length+1:=by rw[List.length_append,List.length_singleton]
     have hfl:(l.drop j).length<f:=by rw[List.length_drop] at hf ⊢;omega
     refine aW (zI l cb e5 ps hsz hts f j 52 (acc++[x]) false hfl j3 (by rw[hlen,beq_eq_false_iff_ne];omega) (by omega) (.inl rfl)) fun o S q=>⟨q.1,q.2.1,?_⟩
     have q3:=q.2.2
     show PEnd ((Sl.part f false (l.drop j)).map fun y=>(x::y.1,y.2)) l i cb acc S
     cases hpp:Sl.part f false (l.drop j) with
     | none =>
      rw[hpp] at q3
      exact q3
     | some z =>
      obtain⟨qs,r⟩:=z;rw[hpp] at q3
      obtain⟨j',e',k1,k2,k3,k4,k5,k6,k7⟩:=q3;rw[List.append_assoc,List.singleton_append] at k6 k7
      exact⟨j',e',k1,by omega,k3,k4,k5,k6,k7⟩
theorem RL (t:Tok)(hn:I64 t.n):(oneS t).length≤t.text.length+21:=by
 have h:=kV hn
 unfold oneS
 repeat' split
 all_goals simp
 all_goals omega
end Go.Abs
