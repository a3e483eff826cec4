/-
  WHAT THE FUNCTIONS COMPUTE, layer 4, the program's reader of selectors: functions, what stands behind a sign :, a simple selector.
-/
import Derived.Test.YtlomcifkckgneaaGreatDoorRc9
import Derived.Test.YtlomcifkckgneaaGreatDoorRc11
set_option linter.unusedSimpArgs false
set_option linter.unusedVariables false
namespace Go.Abs
open Go Go.Proofs
set_option maxRecDepth 10000
attribute [local go_sem] cM bt ck bJ bH cL cq co aR bU bO ci cN bF opd avOf cvOf St.degAt St.put okPV dA okAV cZ cY cX cG aH if_true Bool.false_eq_true if_false Option.map_some Option.map_none Option.bind_some Option.bind_none dC dr upd List.toList_toArray cA steal bm mvB c8 cF cE AV.deg CV.deg AV.gv AV.isIter cy cj bK List.length_nil List.length_cons List.filterMap_cons List.filterMap_nil beq_iff_eq List.getElem?_cons_zero List.getElem?_cons_succ Option.getD_some dE ev Bool.false_and Bool.and_false Bool.and_self K_P eN bZ cz bh lend back idx dedup AV.ren CV.ren TV.ren AV.ptrs CV.ptrs cH AV.flat CV.flat cf bQ aV cK cQ dM bW aM bX bc bv bR bd d8 CV.pv? content bo ownT aW reps pvs chunks bM leave dU cw cV bG bg TV.deg TV.av LK CV.plain CV.noBld cJ dX bound List.map_cons List.map_nil List.all_cons List.all_nil List.any_cons List.any_nil List.contains_cons List.contains_nil List.elem_cons List.elem_nil List.cons_append List.nil_append List.append_nil List.flatMap_cons List.flatMap_nil List.zip_cons_cons List.zip_nil_left List.zip_nil_right List.take_succ_cons List.take_zero List.take_nil List.drop_succ_cons List.drop_zero List.drop_nil List.isEmpty_nil List.isEmpty_cons Bool.and_true Bool.true_and Bool.or_true Bool.true_or Bool.or_false Bool.false_or Bool.not_true Bool.not_false Nat.add_zero Nat.zero_add Option.isNone_none Option.isNone_some Option.getD_none true_and and_true not_true_eq_false not_false_eq_true decide_true decide_false Nat.le_refl and_self Bool.not_eq_true Nat.sub_self or_true true_or Option.some.injEq List.length_map List.nil_eq and_false false_and AV.live CV.live CV.liveIn dq aX Option.orElse_some Option.orElse_none head a7 a6 Int.lt_irrefl List.length_append ite_self dz ce cO bu Key.clash Key.sees Key.writes Nat.lt_irrefl gt_iff_lt cg dc false_or or_false beq_self_eq_true Bool.true_beq Bool.false_beq wG dS dw ag cu aQ dH aI b7 eJ cR eD IZ kZ vE cS cx bC ku uY c5 qv ET qy xE nG qT xd qS bf GA D4
abbrev simE (x:Sim):AV := .agg (ii x)
abbrev simZ:List CV:=[.pv (.int .i64 0),.pv (.str []),.pv (.str []),.pv (.int .i64 0),.pv (.int .i64 0),.nils]
theorem Dg (x:Sim) (f:Nat→Option Nat):(ii x).map (CV.ren f)=ii x:=by
 obtain ⟨k,n,v,a,b,l⟩:=x
 cases l<;>rfl
theorem sN (f:Nat→Option Nat):simZ.map (CV.ren f)=simZ:=rfl
theorem Ey {l r:List Val} {x:Sim} (h:den K 140 [P0,B true] [rdB l]=some (.ret (simE x) [rdB r])) :
  den K 225 [P0,P1] [rdB l,simZ]=some (.ret (.tup []) [rdB r,ii x]):=by
 have hr:Tryz.f225.results = #[]:=rfl
 obtain ⟨k,n,v,a,b,xl⟩:=x
 cases xl
 all_goals
  simp only[rdB,simE,cT,eK] at h ⊢
  refine ai rfl rfl Tryz.func225 rfl Tryz.ntmps225 ⟨by simp,by simp[LK]⟩ ?_
  simp only[go_sem,Nat.reduceLT,Nat.reduceEqDiff,Nat.reduceBEq,Nat.reduceAdd,Nat.reduceSub,Nat.reduceLeDiff,hr,h]
theorem Gx {l m:List Val} (h:den K 140 [P0,B true] [rdB l]=some (.pan du [rdB m])) :
  den K 225 [P0,P1] [rdB l,simZ]=some (.pan du [rdB m,simZ]):=by
 have hr:Tryz.f225.results = #[]:=rfl
 simp only[rdB] at h ⊢
 refine ai rfl rfl Tryz.func225 rfl Tryz.ntmps225 ⟨by simp,by simp[LK]⟩ ?_
 simp only[go_sem,Nat.reduceLT,Nat.reduceEqDiff,Nat.reduceBEq,Nat.reduceAdd,Nat.reduceSub,Nat.reduceLeDiff,hr,h]
def fnG (g:List Val→Option (Sim×List Val)) (t:Tok) (c:List Val):Option Sim :=
 if t.text=Sl.nthT then (Sl.nthM c).map fun x=>Sim.mk 8 [] [] x.1 x.2 [] else if t.text=Sl.notT then notG g c else none
def Ft {α:Type} (enc:α→AV) (o:Option α) (r:Option Res):Prop:=match o with
 | some x=>r=some (.ret (enc x) [])
 | none=>r=some (.pan du [])
set_option maxHeartbeats 8000000 in
theorem vb (g:List Val→Option (Sim×List Val)) (t:Tok) (c:List Val) (hc:c.length≤70000000) (hts:TSh c) (hg:t.text=Sl.notT→gF simE (g (Sl.trim c)) (den K 140 [P0,B true] [rdB (Sl.trim c)])) :
  Ft simE (fnG g t c) (den K 204 [.agg (iY 5 t c)] []):=by
 have hr:Tryz.f204.results = #[.cell 2 52]:=rfl
 have hmy:=eC
 have hmn:=gk
 have hgd:goods.contains 225=true:=by kernel_rfl
 unfold fnG
 by_cases h1:t.text=Sl.nthT
 ·have e1:(t.text==[110,116,104,45,99,104,105,108,100])=true:=by rw[h1];rfl
  have hn:=E1 c hc hts
  rw[if_pos h1]
  cases hm:Sl.nthM c with
  | none =>
   rw[hm] at hn
   unfold nthA at hn
   simp only at hn
   show den K 204 [.agg (iY 5 t c)] []=some (.pan du [])
   refine ai rfl rfl Tryz.func204 rfl Tryz.ntmps204 ⟨by simp,by simp[LK]⟩ ?_
   simp only[go_sem,Nat.reduceLT,Nat.reduceEqDiff,Nat.reduceBEq,Nat.reduceAdd,Nat.reduceSub,Nat.reduceLeDiff,hr,hn,e1,hmn,TV.flat,Int.reduceBEq]
  | some x =>
   obtain ⟨a,b⟩:=x
   rw[hm] at hn
   unfold nthA at hn
   simp only at hn
   show den K 204 [.agg (iY 5 t c)] []=some (.ret (.agg (ii (.mk 8 [] [] a b []))) [])
   rw[cT]
   refine ai rfl rfl Tryz.func204 rfl Tryz.ntmps204 ⟨by simp,by simp[LK]⟩ ?_
   simp only[go_sem,Nat.reduceLT,Nat.reduceEqDiff,Nat.reduceBEq,Nat.reduceAdd,Nat.reduceSub,Nat.reduceLeDiff,af ag ak,hr,hn,e1,hmy,TV.flat]
 have e1:(t.text==[110,116,104,45,99,104,105,108,100])=false:=by rw[beq_eq_false_iff_ne];exact h1
 rw[if_neg h1]
 by_cases h2:t.text=Sl.notT
 ·have e2:(t.text==[110,111,116])=true:=by rw[h2];rfl
  have hg:=hg h2
  rw[if_pos h2]
  unfold notG
  cases hx:g (Sl.trim c) with
  | none =>
   rw[hx] at hg
   obtain ⟨m,hg⟩:=eR hg
   have hw:=si hgd (by omega) sN sN (Gx hg)
   show den K 204 [.agg (iY 5 t c)] []=some (.pan du [])
   simp only[simZ] at hw
   refine ai rfl rfl Tryz.func204 rfl Tryz.ntmps204 ⟨by simp,by simp[LK]⟩ ?_
   simp only[go_sem,Nat.reduceLT,Nat.reduceEqDiff,Nat.reduceBEq,Nat.reduceAdd,Nat.reduceSub,Nat.reduceLeDiff,hr,e1,e2,hw,hmn,gq,locs,jb,Int.reduceBEq]
  | some y =>
   obtain ⟨x,m⟩:=y
   rw[hx] at hg
   have hw:=ri hgd (by omega) sN (Dg x) (Ey (dP hg))
   cases m with
   | cons z m =>
    show den K 204 [.agg (iY 5 t c)] []=some (.pan du [])
    obtain ⟨k,n,v,a,b,xl⟩:=x
    cases xl
    all_goals
     simp only[simZ,cT,eK,List.isEmpty_cons,Bool.false_eq_true,if_false] at hw
     refine ai rfl rfl Tryz.func204 rfl Tryz.ntmps204 ⟨by simp,by simp[LK]⟩ ?_
     simp only[go_sem,Nat.reduceLT,Nat.reduceEqDiff,Nat.reduceBEq,Nat.reduceAdd,Nat.reduceSub,Nat.reduceLeDiff,hr,e1,e2,hw,hmn,gq,locs,jb,Int.reduceBEq]
   | nil =>
    simp only
    by_cases hk:x.kind=11
    ·rw[if_pos hk]
     show den K 204 [.agg (iY 5 t c)] []=some (.pan du [])
     obtain ⟨k,n,v,a,b,xl⟩:=x
     have ek:(k==11)=true:=by rw[beq_iff_eq];exact hk
     cases xl
     all_goals
      simp only[simZ,cT,eK,List.isEmpty_nil,if_true] at hw
      refine ai rfl rfl Tryz.func204 rfl Tryz.ntmps204 ⟨by simp,by simp[LK]⟩ ?_
      simp only[go_sem,Nat.reduceLT,Nat.reduceEqDiff,Nat.reduceBEq,Nat.reduceAdd,Nat.reduceSub,Nat.reduceLeDiff,hr,e1,e2,hw,hmn,ek,bne,gq,locs,jb]
    ·rw[if_neg hk]
     show den K 204 [.agg (iY 5 t c)] []=some (.ret (.agg (ii (.mk 11 [] [] 0 0 [x]))) [])
     obtain ⟨k,n,v,a,b,xl⟩:=x
     have ek:(k==11)=false:=by rw[beq_eq_false_iff_ne];exact hk
     rw[eK,F6]
     cases xl
     all_goals
      simp only[simZ,cT,eK,List.isEmpty_nil,if_true,Hl,GF] at hw ⊢
      refine ai rfl rfl Tryz.func204 rfl Tryz.ntmps204 ⟨by simp,by simp[LK]⟩ ?_
      simp only[go_sem,Nat.reduceLT,Nat.reduceEqDiff,Nat.reduceBEq,Nat.reduceAdd,Nat.reduceSub,Nat.reduceLeDiff,Nat.reduceMul,af ag ak,am (len:=1) aa dS ag ⟨rfl,by decide,by decide⟩,hr,e1,e2,hw,hmy,ek,bne,gq,locs,jb]
 ·have e2:(t.text==[110,111,116])=false:=by rw[beq_eq_false_iff_ne];exact h2
  rw[if_neg h2]
  show den K 204 [.agg (iY 5 t c)] []=some (.pan du [])
  refine ai rfl rfl Tryz.func204 rfl Tryz.ntmps204 ⟨by simp,by simp[LK]⟩ ?_
  simp only[go_sem,Nat.reduceLT,Nat.reduceEqDiff,Nat.reduceBEq,Nat.reduceAdd,Nat.reduceSub,Nat.reduceLeDiff,af fh fD,hr,e1,e2]
theorem rx:den K 191 [] []=some (.ret (L [[.str [104,111,118,101,114]],[.str [102,111,99,117,115]],[.str [97,99,116,105,118,101]],[.str [99,104,101,99,107,101,100]]]) []):=by
 have hr:Tryz.f191.results = #[.tmp 0]:=rfl
 refine ai rfl rfl Tryz.func191 rfl Tryz.ntmps191 ⟨by simp,by simp[LK]⟩ ?_
 simp only[go_sem,Nat.reduceLT,reduceCtorEq,Nat.reduceBEq,Nat.reduceAdd,Nat.reduceLeDiff,Nat.reduceMul,am (len:=4) aG aI aF ⟨rfl,by decide,by decide⟩,hr]
theorem tJ (s:List UInt8):den K 106 [L [[.str [104,111,118,101,114]],[.str [102,111,99,117,115]],[.str [97,99,116,105,118,101]],[.str [99,104,101,99,107,101,100]]],T s] []=some (.ret (B (decide (Sl.er s))) []):=by
 have h:=jx [Sl.sM,Sl.s7,Sl.oC,Sl.mg] s (by simp)
 have e:([Sl.sM,Sl.s7,Sl.oC,Sl.mg].any (s == ·))=decide (Sl.er s):=by
  rw[Bool.eq_iff_iff,decide_eq_true_eq]
  simp only[List.any_cons,List.any_nil,Bool.or_false,Bool.or_eq_true,beq_iff_eq]
  exact Iff.rfl
 rw[e] at h
 exact h
theorem l8 {kind:Int} {l:List Val} {t:Tok} {c r:List Val} (h:Sl.gu kind l=some ((t,c),r)):l = .mk kind t c::r:=Sl.gI h
theorem pQ {kind:Int} {l:List Val} (h:Sl.gu kind l=none):l=[] ∨ ∃ k t c r,l = .mk k t c::r∧(k==kind)=false:=by
 cases l with
 | nil=>exact .inl rfl
 | cons v r =>
  obtain ⟨k,t,c⟩:=v
  refine .inr ⟨k,t,c,r,rfl,?_⟩
  rw[beq_eq_false_iff_ne]
  intro hh
  unfold Sl.gu at h
  simp only at h
  rw[if_pos hh] at h
  cases h
set_option maxHeartbeats 16000000 in
theorem Au (g:List Val→Option (Sim×List Val)) (l:List Val) (hl:l.length≤60000000) (t:Tok) (c r:List Val) (hv:Sl.gu 5 l=some ((t,c),r)) (hf:Ft simE (fnG g t c) (den K 204 [.agg (iY 5 t c)] [])) :
  gF simE (Sl.colon g l) (den K 171 [P0] [rdB l]):=by
 have hr:Tryz.f171.results = #[.cell 2 52]:=rfl
 rw[HS g hv]
 have e:=l8 hv
 subst e
 have hx:=fU (.mk 5 t c::r) (by omega)
 have htk:=eX 5 t c r (by rw[List.length_cons] at hl;omega)
 rw[fy] at hx htk
 have e0:(if t.text=Sl.nthT then (Sl.nthM c).map fun x=>(Sim.mk 8 [] [] x.1 x.2 [],r) else if t.text=Sl.notT then (notG g c).map fun x=>(x,r) else none)=(fnG g t c).map fun x=>(x,r):=by
  unfold fnG
  split
  ·rw[Option.map_map];rfl
  ·split
   ·rfl
   ·rfl
 rw[e0]
 cases hF:fnG g t c with
 | none =>
  rw[hF] at hf
  have hf:den K 204 [.agg (iY 5 t c)] []=some (.pan du []):=hf
  refine ⟨r,?_⟩
  simp only[rdB,xK] at hx htk hf ⊢
  refine ai rfl rfl Tryz.func171 rfl Tryz.ntmps171 ⟨by simp,by simp[LK]⟩ ?_
  simp only[go_sem,Nat.reduceLT,reduceCtorEq,Nat.reduceEqDiff,Nat.reduceBEq,Nat.reduceAdd,Nat.reduceSub,Nat.reduceLeDiff,hr,hx,htk,hf]
 | some x =>
  rw[hF] at hf
  have hf:den K 204 [.agg (iY 5 t c)] []=some (.ret (simE x) []):=hf
  show den K 171 [P0] [rdB (.mk 5 t c::r)]=some (.ret (simE x) [rdB r])
  obtain ⟨k,n,v,a,b,xl⟩:=x
  cases xl
  all_goals
   simp only[rdB,xK,simE,cT,eK] at hx htk hf ⊢
   refine ai rfl rfl Tryz.func171 rfl Tryz.ntmps171 ⟨by simp,by simp[LK]⟩ ?_
   simp only[go_sem,Nat.reduceLT,reduceCtorEq,Nat.reduceEqDiff,Nat.reduceBEq,Nat.reduceAdd,Nat.reduceSub,Nat.reduceLeDiff,hr,hx,htk,hf]
set_option maxHeartbeats 16000000 in
theorem yp (g:List Val→Option (Sim×List Val)) (l:List Val) (hl:l.length≤60000000) (hv:Sl.gu 5 l=none) :
  gF simE (Sl.colon g l) (den K 171 [P0] [rdB l]):=by
 have hr:Tryz.f171.results = #[.cell 2 52]:=rfl
 rw[Ip g hv]
 have hx:=fU l (by omega)
 have hn:=iu l (by omega)
 have hmy:=eC
 have hmn:=gk
 obtain ⟨k,x1,x2,x3,x4,ek,en⟩ : ∃ (k:Int) (x1 x2 x3 x4:CV),(k==5)=false∧nxCv l=[.pv (.int .i64 k),x1,x2,x3,x4]:=by
  rcases pQ hv with rfl|⟨k,t,c,r,rfl,ek⟩
  ·exact ⟨0,_,_,_,_,rfl,ro⟩
  ·exact ⟨k,_,_,_,_,ek,fy k t c r⟩
 rw[en] at hx
 cases hnm:Sl.name l with
 | none =>
  rw[hnm] at hn
  obtain ⟨m,hn⟩:=eR hn
  refine ⟨m,?_⟩
  simp only[rdB] at hx hn ⊢
  refine ai rfl rfl Tryz.func171 rfl Tryz.ntmps171 ⟨by simp,by simp[LK]⟩ ?_
  simp only[go_sem,Nat.reduceLT,reduceCtorEq,Nat.reduceEqDiff,Nat.reduceBEq,Nat.reduceAdd,Nat.reduceSub,Nat.reduceLeDiff,hr,hx,ek,hn]
 | some y =>
  obtain ⟨s,r⟩:=y
  rw[hnm] at hn
  have hn:=dP hn
  simp only
  have hst:=rx
  have hsh:=tJ s
  unfold Sl.fX
  by_cases h4:s=Sl.Fi
  ·subst h4
   show den K 171 [P0] [rdB l]=some (.ret (.agg (ii (.mk 9 [] [] 0 0 []))) [rdB r])
   have q0:(([114,111,111,116]:List UInt8)==[114,111,111,116])=true:=rfl
   simp only[rdB,cT,Sl.Fi] at hx hn ⊢
   refine ai rfl rfl Tryz.func171 rfl Tryz.ntmps171 ⟨by simp,by simp[LK]⟩ ?_
   simp only[go_sem,Nat.reduceLT,reduceCtorEq,Nat.reduceEqDiff,Nat.reduceBEq,Nat.reduceAdd,Nat.reduceSub,Nat.reduceLeDiff,af ag ak,hr,hx,ek,hn,q0]
  have e4:(s==[114,111,111,116])=false:=by rw[beq_eq_false_iff_ne];exact h4
  by_cases h5:s=Sl.AD
  ·subst h5
   show den K 171 [P0] [rdB l]=some (.ret (.agg (ii (.mk 10 [] [] 0 0 []))) [rdB r])
   have q0:(([101,109,112,116,121]:List UInt8)==[114,111,111,116])=false:=rfl
   have q1:(([101,109,112,116,121]:List UInt8)==[101,109,112,116,121])=true:=rfl
   simp only[rdB,cT,Sl.AD] at hx hn ⊢
   refine ai rfl rfl Tryz.func171 rfl Tryz.ntmps171 ⟨by simp,by simp[LK]⟩ ?_
   simp only[go_sem,Nat.reduceLT,reduceCtorEq,Nat.reduceEqDiff,Nat.reduceBEq,Nat.reduceAdd,Nat.reduceSub,Nat.reduceLeDiff,af ag ak,hr,hx,ek,hn,q0,q1]
  have e5:(s==[101,109,112,116,121])=false:=by rw[beq_eq_false_iff_ne];exact h5
  by_cases h6:s=Sl.AG
  ·subst h6
   show den K 171 [P0] [rdB l]=some (.ret (.agg (ii (.mk 8 [] [] 0 1 []))) [rdB r])
   have q0:(([102,105,114,115,116,45,99,104,105,108,100]:List UInt8)==[114,111,111,116])=false:=rfl
   have q1:(([102,105,114,115,116,45,99,104,105,108,100]:List UInt8)==[101,109,112,116,121])=false:=rfl
   have q2:(([102,105,114,115,116,45,99,104,105,108,100]:List UInt8)==[102,105,114,115,116,45,99,104,105,108,100])=true:=rfl
   simp only[rdB,cT,Sl.AG] at hx hn ⊢
   refine ai rfl rfl Tryz.func171 rfl Tryz.ntmps171 ⟨by simp,by simp[LK]⟩ ?_
   simp only[go_sem,Nat.reduceLT,reduceCtorEq,Nat.reduceEqDiff,Nat.reduceBEq,Nat.reduceAdd,Nat.reduceSub,Nat.reduceLeDiff,af ag ak,hr,hx,ek,hn,q0,q1,q2]
  have e6:(s==[102,105,114,115,116,45,99,104,105,108,100])=false:=by rw[beq_eq_false_iff_ne];exact h6
  by_cases h0:Sl.er s
  ·rw[decide_eq_true h0] at hsh
   rw[if_pos h0]
   show den K 171 [P0] [rdB l]=some (.ret (.agg (ii (.mk 7 s [] 0 0 []))) [rdB r])
   simp only[rdB,cT] at hx hn ⊢
   refine ai rfl rfl Tryz.func171 rfl Tryz.ntmps171 ⟨by simp,by simp[LK]⟩ ?_
   simp only[go_sem,Nat.reduceLT,reduceCtorEq,Nat.reduceEqDiff,Nat.reduceBEq,Nat.reduceAdd,Nat.reduceSub,Nat.reduceLeDiff,af ag ak,hr,hx,ek,hn,e4,e5,e6,hst,hsh,hmy]
  ·rw[decide_eq_false h0] at hsh
   rw[if_neg h0,if_neg h4,if_neg h5,if_neg h6]
   refine ⟨r,?_⟩
   simp only[rdB] at hx hn ⊢
   refine ai rfl rfl Tryz.func171 rfl Tryz.ntmps171 ⟨by simp,by simp[LK]⟩ ?_
   simp only[go_sem,Nat.reduceLT,reduceCtorEq,Nat.reduceEqDiff,Nat.reduceBEq,Nat.reduceAdd,Nat.reduceSub,Nat.reduceLeDiff,af ag ak,hr,hx,ek,hn,e4,e5,e6,hst,hsh,hmn]
theorem r8 (s:List UInt8) (h:s.length<1000000000):den K 170 [T s] []=some (.ret (T (Sl.low s)) []):=by
 have e:Sl.low s=s.map lowB:=by unfold Sl.low;exact List.map_congr_left fun c _=>(yx c).symm
 rw[e]
 exact eW (F:=nv) rfl (by unfold nv;simp only;rw[if_pos (by unfold bT;omega)])
def rT (l:List Val) (first:Bool):Prop:=first=false∨(Sl.tokK 1 l=none∧Sl.sign [42] l=none)
set_option maxHeartbeats 16000000 in
theorem BU (g:List Val→Option (Sim×List Val)) (l:List Val) (first:Bool) (hl:l.length≤60000000) (hf:rT l first) (t:Tok) (k4:Sl.tokK 4 l=some t) :
  gF simE (lQ g l) (den K 140 [P0,B first] [rdB l]):=by
 have hr:Tryz.f140.results = #[.cell 4 52]:=rfl
 have t4:=dk l 4 (by omega)
 have t1:=dk l 1 (by omega)
 unfold lQ
 obtain ⟨e,c,r,rfl,hk⟩:=jl k4
 rw[e] at t4
 have htk:=eX 1 t c r (by rw[List.length_cons] at hl;omega)
 rw[fy] at htk
 rw[k4]
 show den K 140 [P0,B first] [rdB (.mk 1 t c::r)]=some (.ret (.agg (ii (.mk 3 t.text [] 0 0 []))) [rdB r])
 cases first
 ·simp only[rdB,cT] at t4 htk ⊢
  refine ai rfl rfl Tryz.func140 rfl Tryz.ntmps140 ⟨by simp,by simp[LK]⟩ ?_
  simp only[go_sem,Nat.reduceLT,reduceCtorEq,Nat.reduceEqDiff,Nat.reduceBEq,Nat.reduceAdd,Nat.reduceSub,Nat.reduceLeDiff,Nat.reduceMul,af ag ak,am (len:=1) aG aI aF ⟨rfl,by decide,by decide⟩,hr,t4,htk]
 ·rcases hf with hf|⟨hf1,hf2⟩
  ·cases hf
  rw[dT hf1] at t1
  have s42:=eS (by omega) hf2
  have q0:(([]:List UInt8)==[])=true:=rfl
  simp only[rdB,cT] at t1 s42 t4 htk ⊢
  refine ai rfl rfl Tryz.func140 rfl Tryz.ntmps140 ⟨by simp,by simp[LK]⟩ ?_
  simp only[go_sem,Nat.reduceLT,reduceCtorEq,Nat.reduceEqDiff,Nat.reduceBEq,Nat.reduceAdd,Nat.reduceSub,Nat.reduceLeDiff,Nat.reduceMul,af ag ak,am (len:=1) aG aI aF ⟨rfl,by decide,by decide⟩,hr,t1,s42,q0,bne,t4,htk]
set_option maxHeartbeats 16000000 in
theorem Fu (g:List Val→Option (Sim×List Val)) (l:List Val) (first:Bool) (hl:l.length≤60000000) (hf:rT l first) (k4:Sl.tokK 4 l=none) (r:List Val) (k5:Sl.sign [46] l=some r) :
  gF simE (lQ g l) (den K 140 [P0,B first] [rdB l]):=by
 have hr:Tryz.f140.results = #[.cell 4 52]:=rfl
 have t4:=dk l 4 (by omega)
 have t1:=dk l 1 (by omega)
 rw[dT k4] at t4
 have s46:=gP (by omega) k5
 have q0:(([]:List UInt8)==[])=true:=rfl
 have q1:(([46]:List UInt8)==[])=false:=rfl
 have hrl:r.length≤l.length:=by
  obtain ⟨v,e,_⟩:=Sl.fm k5
  rw[e,List.length_cons];omega
 have hn:=iu r (by omega)
 unfold lQ
 rw[k4,k5]
 simp only
 cases hnm:Sl.name r with
 | none =>
  rw[hnm] at hn
  obtain ⟨m,hn⟩:=eR hn
  refine ⟨m,?_⟩
  cases first
  ·simp only[rdB] at t4 s46 hn ⊢
   refine ai rfl rfl Tryz.func140 rfl Tryz.ntmps140 ⟨by simp,by simp[LK]⟩ ?_
   simp only[go_sem,Nat.reduceLT,reduceCtorEq,Nat.reduceEqDiff,Nat.reduceBEq,Nat.reduceAdd,Nat.reduceSub,Nat.reduceLeDiff,Nat.reduceMul,af ag ak,am (len:=1) aG aI aF ⟨rfl,by decide,by decide⟩,hr,t4,s46,q1,bne,hn]
  ·rcases hf with hf|⟨hf1,hf2⟩
   ·cases hf
   rw[dT hf1] at t1
   have s42:=eS (by omega) hf2
   simp only[rdB] at t1 s42 t4 s46 hn ⊢
   refine ai rfl rfl Tryz.func140 rfl Tryz.ntmps140 ⟨by simp,by simp[LK]⟩ ?_
   simp only[go_sem,Nat.reduceLT,reduceCtorEq,Nat.reduceEqDiff,Nat.reduceBEq,Nat.reduceAdd,Nat.reduceSub,Nat.reduceLeDiff,Nat.reduceMul,af ag ak,am (len:=1) aG aI aF ⟨rfl,by decide,by decide⟩,hr,t1,s42,q0,q1,bne,t4,s46,hn]
 | some y =>
  obtain ⟨s,m⟩:=y
  rw[hnm] at hn
  have hn:=dP hn
  show den K 140 [P0,B first] [rdB l]=some (.ret (.agg (ii (.mk 4 s [] 0 0 []))) [rdB m])
  cases first
  ·simp only[rdB,cT] at t4 s46 hn ⊢
   refine ai rfl rfl Tryz.func140 rfl Tryz.ntmps140 ⟨by simp,by simp[LK]⟩ ?_
   simp only[go_sem,Nat.reduceLT,reduceCtorEq,Nat.reduceEqDiff,Nat.reduceBEq,Nat.reduceAdd,Nat.reduceSub,Nat.reduceLeDiff,Nat.reduceMul,af ag ak,am (len:=1) aG aI aF ⟨rfl,by decide,by decide⟩,hr,t4,s46,q1,bne,hn]
  ·rcases hf with hf|⟨hf1,hf2⟩
   ·cases hf
   rw[dT hf1] at t1
   have s42:=eS (by omega) hf2
   simp only[rdB,cT] at t1 s42 t4 s46 hn ⊢
   refine ai rfl rfl Tryz.func140 rfl Tryz.ntmps140 ⟨by simp,by simp[LK]⟩ ?_
   simp only[go_sem,Nat.reduceLT,reduceCtorEq,Nat.reduceEqDiff,Nat.reduceBEq,Nat.reduceAdd,Nat.reduceSub,Nat.reduceLeDiff,Nat.reduceMul,af ag ak,am (len:=1) aG aI aF ⟨rfl,by decide,by decide⟩,hr,t1,s42,q0,q1,bne,t4,s46,hn]
set_option maxHeartbeats 16000000 in
theorem Aa (g:List Val→Option (Sim×List Val)) (l:List Val) (first:Bool) (hl:l.length≤60000000) (hf:rT l first) (k4:Sl.tokK 4 l=none) (k5:Sl.sign [46] l=none) (r:List Val) (k6:Sl.sign [58] l=some r)
  (hp:gF simE (Sl.colon g r) (den K 171 [P0] [rdB r])) :
  gF simE (lQ g l) (den K 140 [P0,B first] [rdB l]):=by
 have hr:Tryz.f140.results = #[.cell 4 52]:=rfl
 have t4:=dk l 4 (by omega)
 have t1:=dk l 1 (by omega)
 rw[dT k4] at t4
 have s46:=eS (by omega) k5
 have s58:=gP (by omega) k6
 have q0:(([]:List UInt8)==[])=true:=rfl
 have q1:(([58]:List UInt8)==[])=false:=rfl
 unfold lQ
 rw[k4,k5,k6]
 simp only
 cases hc:Sl.colon g r with
 | none =>
  rw[hc] at hp
  obtain ⟨m,hp⟩:=eR hp
  refine ⟨m,?_⟩
  cases first
  ·simp only[rdB] at t4 s46 s58 hp ⊢
   refine ai rfl rfl Tryz.func140 rfl Tryz.ntmps140 ⟨by simp,by simp[LK]⟩ ?_
   simp only[go_sem,Nat.reduceLT,reduceCtorEq,Nat.reduceEqDiff,Nat.reduceBEq,Nat.reduceAdd,Nat.reduceSub,Nat.reduceLeDiff,Nat.reduceMul,af ag ak,am (len:=1) aG aI aF ⟨rfl,by decide,by decide⟩,hr,t4,s46,s58,q0,q1,bne,hp]
  ·rcases hf with hf|⟨hf1,hf2⟩
   ·cases hf
   rw[dT hf1] at t1
   have s42:=eS (by omega) hf2
   simp only[rdB] at t1 s42 t4 s46 s58 hp ⊢
   refine ai rfl rfl Tryz.func140 rfl Tryz.ntmps140 ⟨by simp,by simp[LK]⟩ ?_
   simp only[go_sem,Nat.reduceLT,reduceCtorEq,Nat.reduceEqDiff,Nat.reduceBEq,Nat.reduceAdd,Nat.reduceSub,Nat.reduceLeDiff,Nat.reduceMul,af ag ak,am (len:=1) aG aI aF ⟨rfl,by decide,by decide⟩,hr,t1,s42,t4,s46,s58,q0,q1,bne,hp]
 | some y =>
  obtain ⟨x,m⟩:=y
  rw[hc] at hp
  have hp:=dP hp
  show den K 140 [P0,B first] [rdB l]=some (.ret (.agg (ii x)) [rdB m])
  obtain ⟨k,n,v,a,b,xl⟩:=x
  cases xl
  all_goals
   cases first
   ·simp only[rdB,simE,cT,eK] at t4 s46 s58 hp ⊢
    refine ai rfl rfl Tryz.func140 rfl Tryz.ntmps140 ⟨by simp,by simp[LK]⟩ ?_
    simp only[go_sem,Nat.reduceLT,reduceCtorEq,Nat.reduceEqDiff,Nat.reduceBEq,Nat.reduceAdd,Nat.reduceSub,Nat.reduceLeDiff,Nat.reduceMul,af ag ak,am (len:=1) aG aI aF ⟨rfl,by decide,by decide⟩,hr,t4,s46,s58,q0,q1,bne,hp]
   ·rcases hf with hf|⟨hf1,hf2⟩
    ·cases hf
    rw[dT hf1] at t1
    have s42:=eS (by omega) hf2
    simp only[rdB,simE,cT,eK] at t1 s42 t4 s46 s58 hp ⊢
    refine ai rfl rfl Tryz.func140 rfl Tryz.ntmps140 ⟨by simp,by simp[LK]⟩ ?_
    simp only[go_sem,Nat.reduceLT,reduceCtorEq,Nat.reduceEqDiff,Nat.reduceBEq,Nat.reduceAdd,Nat.reduceSub,Nat.reduceLeDiff,Nat.reduceMul,af ag ak,am (len:=1) aG aI aF ⟨rfl,by decide,by decide⟩,hr,t1,s42,t4,s46,s58,q0,q1,bne,hp]
set_option maxHeartbeats 16000000 in
theorem Cn (g:List Val→Option (Sim×List Val)) (l:List Val) (first:Bool) (hl:Ne.size l≤60000000) (hf:rT l first) (k4:Sl.tokK 4 l=none) (k5:Sl.sign [46] l=none) (k6:Sl.sign [58] l=none) :
  gF simE (lQ g l) (den K 140 [P0,B first] [rdB l]):=by
 have hr:Tryz.f140.results = #[.cell 4 52]:=rfl
 have hll:=Ne.cU l
 have t4:=dk l 4 (by omega)
 have t1:=dk l 1 (by omega)
 rw[dT k4] at t4
 have s46:=eS (by omega) k5
 have s58:=eS (by omega) k6
 have hx:=fU l (by omega)
 have q0:(([]:List UInt8)==[])=true:=rfl
 unfold lQ
 rw[k4,k5,k6]
 simp only
 cases hv:Sl.gu 3 l with
 | none =>
  obtain ⟨k,x1,x2,x3,x4,ek,en⟩ : ∃ (k:Int) (x1 x2 x3 x4:CV),(k==3)=false∧nxCv l=[.pv (.int .i64 k),x1,x2,x3,x4]:=by
   rcases pQ hv with rfl|⟨k,t,c,r,rfl,ek⟩
   ·exact ⟨0,_,_,_,_,rfl,ro⟩
   ·exact ⟨k,_,_,_,_,ek,fy k t c r⟩
  rw[en] at hx
  refine ⟨l,?_⟩
  cases first
  ·simp only[rdB] at t4 s46 s58 hx ⊢
   refine ai rfl rfl Tryz.func140 rfl Tryz.ntmps140 ⟨by simp,by simp[LK]⟩ ?_
   simp only[go_sem,Nat.reduceLT,reduceCtorEq,Nat.reduceEqDiff,Nat.reduceBEq,Nat.reduceAdd,Nat.reduceSub,Nat.reduceLeDiff,Nat.reduceMul,af ag ak,am (len:=1) aG aI aF ⟨rfl,by decide,by decide⟩,af fh fD,hr,t4,s46,s58,q0,bne,hx,ek]
  ·rcases hf with hf|⟨hf1,hf2⟩
   ·cases hf
   rw[dT hf1] at t1
   have s42:=eS (by omega) hf2
   simp only[rdB] at t1 s42 t4 s46 s58 hx ⊢
   refine ai rfl rfl Tryz.func140 rfl Tryz.ntmps140 ⟨by simp,by simp[LK]⟩ ?_
   simp only[go_sem,Nat.reduceLT,reduceCtorEq,Nat.reduceEqDiff,Nat.reduceBEq,Nat.reduceAdd,Nat.reduceSub,Nat.reduceLeDiff,Nat.reduceMul,af ag ak,am (len:=1) aG aI aF ⟨rfl,by decide,by decide⟩,af fh fD,hr,t1,s42,t4,s46,s58,q0,bne,hx,ek]
 | some y =>
  obtain ⟨⟨t,c⟩,r⟩:=y
  have e:=l8 hv
  subst e
  have htk:=eX 3 t c r (by rw[List.length_cons] at hll;omega)
  rw[fy] at hx htk
  have ha:=Df c (by rw[Ne.size,Ne.oS] at hl;omega)
  simp only
  cases hm:Sl.attr c with
  | none =>
   rw[hm] at ha
   simp only at ha
   refine ⟨r,?_⟩
   cases first
   ·simp only[rdB] at t4 s46 s58 hx htk ⊢
    refine ai rfl rfl Tryz.func140 rfl Tryz.ntmps140 ⟨by simp,by simp[LK]⟩ ?_
    simp only[go_sem,Nat.reduceLT,reduceCtorEq,Nat.reduceEqDiff,Nat.reduceBEq,Nat.reduceAdd,Nat.reduceSub,Nat.reduceLeDiff,Nat.reduceMul,af ag ak,am (len:=1) aG aI aF ⟨rfl,by decide,by decide⟩,hr,t4,s46,s58,q0,bne,hx,htk,ha]
   ·rcases hf with hf|⟨hf1,hf2⟩
    ·cases hf
    rw[dT hf1] at t1
    have s42:=eS (by omega) hf2
    simp only[rdB] at t1 s42 t4 s46 s58 hx htk ⊢
    refine ai rfl rfl Tryz.func140 rfl Tryz.ntmps140 ⟨by simp,by simp[LK]⟩ ?_
    simp only[go_sem,Nat.reduceLT,reduceCtorEq,Nat.reduceEqDiff,Nat.reduceBEq,Nat.reduceAdd,Nat.reduceSub,Nat.reduceLeDiff,Nat.reduceMul,af ag ak,am (len:=1) aG aI aF ⟨rfl,by decide,by decide⟩,hr,t1,s42,t4,s46,s58,q0,bne,hx,htk,ha]
  | some x =>
   rw[hm] at ha
   simp only at ha
   show den K 140 [P0,B first] [rdB (.mk 3 t c::r)]=some (.ret (.agg (ii x)) [rdB r])
   obtain ⟨k,n,v,a,b,xl⟩:=x
   cases xl
   all_goals
    cases first
    ·simp only[rdB,cT,eK] at t4 s46 s58 hx htk ha ⊢
     refine ai rfl rfl Tryz.func140 rfl Tryz.ntmps140 ⟨by simp,by simp[LK]⟩ ?_
     simp only[go_sem,Nat.reduceLT,reduceCtorEq,Nat.reduceEqDiff,Nat.reduceBEq,Nat.reduceAdd,Nat.reduceSub,Nat.reduceLeDiff,Nat.reduceMul,af ag ak,am (len:=1) aG aI aF ⟨rfl,by decide,by decide⟩,hr,t4,s46,s58,q0,bne,hx,htk,ha]
    ·rcases hf with hf|⟨hf1,hf2⟩
     ·cases hf
     rw[dT hf1] at t1
     have s42:=eS (by omega) hf2
     simp only[rdB,cT,eK] at t1 s42 t4 s46 s58 hx htk ha ⊢
     refine ai rfl rfl Tryz.func140 rfl Tryz.ntmps140 ⟨by simp,by simp[LK]⟩ ?_
     simp only[go_sem,Nat.reduceLT,reduceCtorEq,Nat.reduceEqDiff,Nat.reduceBEq,Nat.reduceAdd,Nat.reduceSub,Nat.reduceLeDiff,Nat.reduceMul,af ag ak,am (len:=1) aG aI aF ⟨rfl,by decide,by decide⟩,hr,t1,s42,t4,s46,s58,q0,bne,hx,htk,ha]
set_option maxHeartbeats 16000000 in
theorem xV (l:List Val) (hl:l.length≤60000000) (hts:TSh l) (t:Tok) (k1:Sl.tokK 1 l=some t) :
  den K 140 [P0,B true] [rdB l]=some (.ret (.agg (ii (.mk 2 (Sl.low t.text) [] 0 0 []))) [rdB l.tail]):=by
 have hr:Tryz.f140.results = #[.cell 4 52]:=rfl
 have t1:=dk l 1 (by omega)
 have hn:=iu l (by omega)
 have en:Sl.name l=some (t.text,l.tail):=by unfold Sl.name;rw[k1];rfl
 rw[en] at hn
 have hn:=dP hn
 obtain ⟨e,c,r,rfl,hk⟩:=jl k1
 rw[e] at t1
 have hlo:=r8 t.text (FC hts)
 simp only[rdB,cT,List.tail_cons] at t1 hn ⊢
 refine ai rfl rfl Tryz.func140 rfl Tryz.ntmps140 ⟨by simp,by simp[LK]⟩ ?_
 simp only[go_sem,Nat.reduceLT,reduceCtorEq,Nat.reduceEqDiff,Nat.reduceBEq,Nat.reduceAdd,Nat.reduceSub,Nat.reduceLeDiff,Nat.reduceMul,af ag ak,am (len:=1) aG aI aF ⟨rfl,by decide,by decide⟩,hr,t1,hn,hlo]
set_option maxHeartbeats 16000000 in
theorem xp (l:List Val) (hl:l.length≤60000000) (k1:Sl.tokK 1 l=none) (r:List Val) (k2:Sl.sign [42] l=some r) :
  den K 140 [P0,B true] [rdB l]=some (.ret (.agg (ii (.mk 1 [] [] 0 0 []))) [rdB r]):=by
 have hr:Tryz.f140.results = #[.cell 4 52]:=rfl
 have t1:=dk l 1 (by omega)
 rw[dT k1] at t1
 have s42:=gP (by omega) k2
 have q1:(([42]:List UInt8)==[])=false:=rfl
 simp only[rdB,cT] at t1 s42 ⊢
 refine ai rfl rfl Tryz.func140 rfl Tryz.ntmps140 ⟨by simp,by simp[LK]⟩ ?_
 simp only[go_sem,Nat.reduceLT,reduceCtorEq,Nat.reduceEqDiff,Nat.reduceBEq,Nat.reduceAdd,Nat.reduceSub,Nat.reduceLeDiff,Nat.reduceMul,af ag ak,am (len:=1) aG aI aF ⟨rfl,by decide,by decide⟩,hr,t1,s42,q1,bne]
end Go.Abs
