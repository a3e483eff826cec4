/-
  WHAT THE FUNCTIONS COMPUTE, layer 4, the program's reader of selectors: functions, what stands behind a sign :, a simple selector.
-/
import Derived.Test.YtlomcifkckgneaaGreatDoorRa9
import Derived.Test.YtlomcifkckgneaaGreatDoorRa11
set_option linter.unusedSimpArgs false
set_option linter.unusedVariables false
namespace Go.Abs
open Go Go.Proofs
set_option maxRecDepth 10000
attribute [local go_sem] cA bm bU bD bB cz bQ bS aG bv bq bL cg br opd avOf cvOf St.degAt St.put okPV db okAV cN cM cO cd aq if_true Bool.false_eq_true if_false Option.map_some Option.map_none Option.bind_some Option.bind_none c9 c5 upd List.toList_toArray bO steal aZ mvB cR cf b7 AV.deg CV.deg AV.gv AV.isIter b9 bT bC List.length_nil List.length_cons List.filterMap_cons List.filterMap_nil beq_iff_eq List.getElem?_cons_zero List.getElem?_cons_succ Option.getD_some du d5 Bool.false_and Bool.and_false Bool.and_self K_P eF bF bV aW lend back idx dedup AV.ren CV.ren TV.ren AV.ptrs CV.ptrs ce AV.flat CV.flat bM bz aJ cj cx dp bE aE bK a7 bh bA a8 dP CV.pv? content bf ownT aL reps pvs chunks bu leave dL bW cJ bt aX TV.deg TV.av LK CV.plain CV.noBld cm dF bound List.map_cons List.map_nil List.all_cons List.all_nil List.any_cons List.any_nil List.contains_cons List.contains_nil List.elem_cons List.elem_nil List.cons_append List.nil_append List.append_nil List.flatMap_cons List.flatMap_nil List.zip_cons_cons List.zip_nil_left List.zip_nil_right List.take_succ_cons List.take_zero List.take_nil List.drop_succ_cons List.drop_zero List.drop_nil List.isEmpty_nil List.isEmpty_cons Bool.and_true Bool.true_and Bool.or_true Bool.true_or Bool.or_false Bool.false_or Bool.not_true Bool.not_false Nat.add_zero Nat.zero_add Option.isNone_none Option.isNone_some Option.getD_none true_and and_true not_true_eq_false not_false_eq_true decide_true decide_false Nat.le_refl and_self Bool.not_eq_true Nat.sub_self or_true true_or Option.some.injEq List.length_map List.nil_eq and_false false_and AV.live CV.live CV.liveIn dh aI Option.orElse_some Option.orElse_none head aO aN Int.lt_irrefl List.length_append ite_self dc bI ck bg Key.clash Key.sees Key.writes Nat.lt_irrefl gt_iff_lt bR cW false_or or_false beq_self_eq_true Bool.true_beq Bool.false_beq vD dJ fM ag bw aK dB ar cu dC dM dU Ds ja sL f5 cy bN iX sd co om Dh nU AW vV nY BN oh aQ C7 BD
abbrev simE (x:Sim):AV := .agg (fL x)
abbrev simZ:List CV:=[.pv (.int .i64 0),.pv (.str []),.pv (.str []),.pv (.int .i64 0),.pv (.int .i64 0),.nils]
theorem AD (x:Sim) (f:Nat→Option Nat):(fL x).map (CV.ren f)=fL x:=by
 obtain ⟨k,n,v,a,b,l⟩:=x
 cases l<;>rfl
theorem o0 (f:Nat→Option Nat):simZ.map (CV.ren f)=simZ:=rfl
theorem Cl {l r:List Val} {x:Sim} (h:den K 140 [P0,B true] [rdB l]=some (.ret (simE x) [rdB r])) :
  den K 225 [P0,P1] [rdB l,simZ]=some (.ret (.tup []) [rdB r,fL x]):=by
 have hr:Tryz.f225.results = #[]:=rfl
 obtain ⟨k,n,v,a,b,xl⟩:=x
 cases xl
 all_goals
  simp only[rdB,simE,bZ,dE] at h ⊢
  refine ab rfl rfl Tryz.func225 rfl Tryz.ntmps225 ⟨by simp,by simp[LK]⟩ ?_
  simp only[go_sem,Nat.reduceLT,Nat.reduceEqDiff,Nat.reduceBEq,Nat.reduceAdd,Nat.reduceSub,Nat.reduceLeDiff,hr,h]
theorem De {l m:List Val} (h:den K 140 [P0,B true] [rdB l]=some (.pan cI [rdB m])) :
  den K 225 [P0,P1] [rdB l,simZ]=some (.pan cI [rdB m,simZ]):=by
 have hr:Tryz.f225.results = #[]:=rfl
 simp only[rdB] at h ⊢
 refine ab rfl rfl Tryz.func225 rfl Tryz.ntmps225 ⟨by simp,by simp[LK]⟩ ?_
 simp only[go_sem,Nat.reduceLT,Nat.reduceEqDiff,Nat.reduceBEq,Nat.reduceAdd,Nat.reduceSub,Nat.reduceLeDiff,hr,h]
def fnG (g:List Val→Option (Sim×List Val)) (t:Tok) (c:List Val):Option Sim :=
 if t.text=Sl.nthT then (Sl.nthM c).map fun x=>Sim.mk 8 [] [] x.1 x.2 [] else if t.text=Sl.notT then notG g c else none
def BT {α:Type} (enc:α→AV) (o:Option α) (r:Option Res):Prop:=match o with
 | some x=>r=some (.ret (enc x) [])
 | none=>r=some (.pan cI [])
set_option maxHeartbeats 8000000 in
theorem se (g:List Val→Option (Sim×List Val)) (t:Tok) (c:List Val) (hc:c.length≤70000000) (hts:TSh c) (hg:t.text=Sl.notT→fh simE (g (Sl.trim c)) (den K 140 [P0,B true] [rdB (Sl.trim c)])) :
  BT simE (fnG g t c) (den K 204 [.agg (il 5 t c)] []):=by
 have hr:Tryz.f204.results = #[.cell 2 52]:=rfl
 have hmy:=dq
 have hmn:=e7
 have hgd:goods.contains 225=true:=by kernel_rfl
 unfold fnG
 by_cases h1:t.text=Sl.nthT
 ·have e1:(t.text==[110,116,104,45,99,104,105,108,100])=true:=by rw[h1];rfl
  have hn:=Bp c hc hts
  rw[if_pos h1]
  cases hm:Sl.nthM c with
  | none =>
   rw[hm] at hn
   unfold nthA at hn
   simp only at hn
   show den K 204 [.agg (il 5 t c)] []=some (.pan cI [])
   refine ab rfl rfl Tryz.func204 rfl Tryz.ntmps204 ⟨by simp,by simp[LK]⟩ ?_
   simp only[go_sem,Nat.reduceLT,Nat.reduceEqDiff,Nat.reduceBEq,Nat.reduceAdd,Nat.reduceSub,Nat.reduceLeDiff,hr,hn,e1,hmn,TV.flat,Int.reduceBEq]
  | some x =>
   obtain ⟨a,b⟩:=x
   rw[hm] at hn
   unfold nthA at hn
   simp only at hn
   show den K 204 [.agg (il 5 t c)] []=some (.ret (.agg (fL (.mk 8 [] [] a b []))) [])
   rw[bZ]
   refine ab rfl rfl Tryz.func204 rfl Tryz.ntmps204 ⟨by simp,by simp[LK]⟩ ?_
   simp only[go_sem,Nat.reduceLT,Nat.reduceEqDiff,Nat.reduceBEq,Nat.reduceAdd,Nat.reduceSub,Nat.reduceLeDiff,aj ag ao,hr,hn,e1,hmy,TV.flat]
 have e1:(t.text==[110,116,104,45,99,104,105,108,100])=false:=by rw[beq_eq_false_iff_ne];exact h1
 rw[if_neg h1]
 by_cases h2:t.text=Sl.notT
 ·have e2:(t.text==[110,111,116])=true:=by rw[h2];rfl
  have hg:=hg h2
  rw[if_pos h2]
  unfold notG
  cases hx:g (Sl.trim c) with
  | none =>
   rw[hx] at hg
   obtain ⟨m,hg⟩:=dH hg
   have hw:=pg hgd (by omega) o0 o0 (De hg)
   show den K 204 [.agg (il 5 t c)] []=some (.pan cI [])
   simp only[simZ] at hw
   refine ab rfl rfl Tryz.func204 rfl Tryz.ntmps204 ⟨by simp,by simp[LK]⟩ ?_
   simp only[go_sem,Nat.reduceLT,Nat.reduceEqDiff,Nat.reduceBEq,Nat.reduceAdd,Nat.reduceSub,Nat.reduceLeDiff,hr,e1,e2,hw,hmn,fK,locs,gD,Int.reduceBEq]
  | some y =>
   obtain ⟨x,m⟩:=y
   rw[hx] at hg
   have hw:=oD hgd (by omega) o0 (AD x) (Cl (cS hg))
   cases m with
   | cons z m =>
    show den K 204 [.agg (il 5 t c)] []=some (.pan cI [])
    obtain ⟨k,n,v,a,b,xl⟩:=x
    cases xl
    all_goals
     simp only[simZ,bZ,dE,List.isEmpty_cons,Bool.false_eq_true,if_false] at hw
     refine ab rfl rfl Tryz.func204 rfl Tryz.ntmps204 ⟨by simp,by simp[LK]⟩ ?_
     simp only[go_sem,Nat.reduceLT,Nat.reduceEqDiff,Nat.reduceBEq,Nat.reduceAdd,Nat.reduceSub,Nat.reduceLeDiff,hr,e1,e2,hw,hmn,fK,locs,gD,Int.reduceBEq]
   | nil =>
    simp only
    by_cases hk:x.kind=11
    ·rw[if_pos hk]
     show den K 204 [.agg (il 5 t c)] []=some (.pan cI [])
     obtain ⟨k,n,v,a,b,xl⟩:=x
     have ek:(k==11)=true:=by rw[beq_iff_eq];exact hk
     cases xl
     all_goals
      simp only[simZ,bZ,dE,List.isEmpty_nil,if_true] at hw
      refine ab rfl rfl Tryz.func204 rfl Tryz.ntmps204 ⟨by simp,by simp[LK]⟩ ?_
      simp only[go_sem,Nat.reduceLT,Nat.reduceEqDiff,Nat.reduceBEq,Nat.reduceAdd,Nat.reduceSub,Nat.reduceLeDiff,hr,e1,e2,hw,hmn,ek,bne,fK,locs,gD]
    ·rw[if_neg hk]
     show den K 204 [.agg (il 5 t c)] []=some (.ret (.agg (fL (.mk 11 [] [] 0 0 [x]))) [])
     obtain ⟨k,n,v,a,b,xl⟩:=x
     have ek:(k==11)=false:=by rw[beq_eq_false_iff_ne];exact hk
     rw[dE,Cy]
     cases xl
     all_goals
      simp only[simZ,bZ,dE,List.isEmpty_nil,if_true,EP,CX] at hw ⊢
      refine ab rfl rfl Tryz.func204 rfl Tryz.ntmps204 ⟨by simp,by simp[LK]⟩ ?_
      simp only[go_sem,Nat.reduceLT,Nat.reduceEqDiff,Nat.reduceBEq,Nat.reduceAdd,Nat.reduceSub,Nat.reduceLeDiff,Nat.reduceMul,aj ag ao,ae (len:=1) bX dJ ag ⟨rfl,by decide,by decide⟩,hr,e1,e2,hw,hmy,ek,bne,fK,locs,gD]
 ·have e2:(t.text==[110,111,116])=false:=by rw[beq_eq_false_iff_ne];exact h2
  rw[if_neg h2]
  show den K 204 [.agg (il 5 t c)] []=some (.pan cI [])
  refine ab rfl rfl Tryz.func204 rfl Tryz.ntmps204 ⟨by simp,by simp[LK]⟩ ?_
  simp only[go_sem,Nat.reduceLT,Nat.reduceEqDiff,Nat.reduceBEq,Nat.reduceAdd,Nat.reduceSub,Nat.reduceLeDiff,aj d7 ev,hr,e1,e2]
theorem wk:den K 191 [] []=some (.ret (L [[.str [104,111,118,101,114]],[.str [102,111,99,117,115]],[.str [97,99,116,105,118,101]],[.str [99,104,101,99,107,101,100]]]) []):=by
 have hr:Tryz.f191.results = #[.tmp 0]:=rfl
 refine ab rfl rfl Tryz.func191 rfl Tryz.ntmps191 ⟨by simp,by simp[LK]⟩ ?_
 simp only[go_sem,Nat.reduceLT,reduceCtorEq,Nat.reduceBEq,Nat.reduceAdd,Nat.reduceLeDiff,Nat.reduceMul,ae (len:=4) al ar ah ⟨rfl,by decide,by decide⟩,hr]
theorem AI (s:List UInt8):den K 106 [L [[.str [104,111,118,101,114]],[.str [102,111,99,117,115]],[.str [97,99,116,105,118,101]],[.str [99,104,101,99,107,101,100]]],T s] []=some (.ret (B (decide (Sl.ic s))) []):=by
 have h:=jO [Sl.wD,Sl.wW,Sl.sx,Sl.o8] s (by simp)
 have e:([Sl.wD,Sl.wW,Sl.sx,Sl.o8].any (s == ·))=decide (Sl.ic s):=by
  rw[Bool.eq_iff_iff,decide_eq_true_eq]
  simp only[List.any_cons,List.any_nil,Bool.or_false,Bool.or_eq_true,beq_iff_eq]
  exact Iff.rfl
 rw[e] at h
 exact h
theorem jM {kind:Int} {l:List Val} {t:Tok} {c r:List Val} (h:Sl.ep kind l=some ((t,c),r)):l = .mk kind t c::r:=Sl.lh h
theorem nF {kind:Int} {l:List Val} (h:Sl.ep kind l=none):l=[] ∨ ∃ k t c r,l = .mk k t c::r∧(k==kind)=false:=by
 cases l with
 | nil=>exact .inl rfl
 | cons v r =>
  obtain ⟨k,t,c⟩:=v
  refine .inr ⟨k,t,c,r,rfl,?_⟩
  rw[beq_eq_false_iff_ne]
  intro hh
  unfold Sl.ep at h
  simp only at h
  rw[if_pos hh] at h
  cases h
set_option maxHeartbeats 16000000 in
theorem xD (g:List Val→Option (Sim×List Val)) (l:List Val) (hl:l.length≤60000000) (t:Tok) (c r:List Val) (hv:Sl.ep 5 l=some ((t,c),r)) (hf:BT simE (fnG g t c) (den K 204 [.agg (il 5 t c)] [])) :
  fh simE (Sl.colon g l) (den K 171 [P0] [rdB l]):=by
 have hr:Tryz.f171.results = #[.cell 2 52]:=rfl
 rw[Ei g hv]
 have e:=jM hv
 subst e
 have hx:=eL (.mk 5 t c::r) (by omega)
 have htk:=dT 5 t c r (by rw[List.length_cons] at hl;omega)
 rw[eo] at hx htk
 have e0:(if t.text=Sl.nthT then (Sl.nthM c).map fun x=>(Sim.mk 8 [] [] x.1 x.2 [],r) else if t.text=Sl.notT then (notG g c).map fun x=>(x,r) else none)=(fnG g t c).map fun x=>(x,r):=by
  unfold fnG
  split
  ·rw[Option.map_map];rfl
  ·split
   ·rfl
   ·rfl
 rw[e0]
 cases hF:fnG g t c with
 | none =>
  rw[hF] at hf
  have hf:den K 204 [.agg (il 5 t c)] []=some (.pan cI []):=hf
  refine ⟨r,?_⟩
  simp only[rdB,uA] at hx htk hf ⊢
  refine ab rfl rfl Tryz.func171 rfl Tryz.ntmps171 ⟨by simp,by simp[LK]⟩ ?_
  simp only[go_sem,Nat.reduceLT,reduceCtorEq,Nat.reduceEqDiff,Nat.reduceBEq,Nat.reduceAdd,Nat.reduceSub,Nat.reduceLeDiff,hr,hx,htk,hf]
 | some x =>
  rw[hF] at hf
  have hf:den K 204 [.agg (il 5 t c)] []=some (.ret (simE x) []):=hf
  show den K 171 [P0] [rdB (.mk 5 t c::r)]=some (.ret (simE x) [rdB r])
  obtain ⟨k,n,v,a,b,xl⟩:=x
  cases xl
  all_goals
   simp only[rdB,uA,simE,bZ,dE] at hx htk hf ⊢
   refine ab rfl rfl Tryz.func171 rfl Tryz.ntmps171 ⟨by simp,by simp[LK]⟩ ?_
   simp only[go_sem,Nat.reduceLT,reduceCtorEq,Nat.reduceEqDiff,Nat.reduceBEq,Nat.reduceAdd,Nat.reduceSub,Nat.reduceLeDiff,hr,hx,htk,hf]
set_option maxHeartbeats 16000000 in
theorem ur (g:List Val→Option (Sim×List Val)) (l:List Val) (hl:l.length≤60000000) (hv:Sl.ep 5 l=none) :
  fh simE (Sl.colon g l) (den K 171 [P0] [rdB l]):=by
 have hr:Tryz.f171.results = #[.cell 2 52]:=rfl
 rw[D3 g hv]
 have hx:=eL l (by omega)
 have hn:=fY l (by omega)
 have hmy:=dq
 have hmn:=e7
 obtain ⟨k,x1,x2,x3,x4,ek,en⟩ : ∃ (k:Int) (x1 x2 x3 x4:CV),(k==5)=false∧nxCv l=[.pv (.int .i64 k),x1,x2,x3,x4]:=by
  rcases nF hv with rfl|⟨k,t,c,r,rfl,ek⟩
  ·exact ⟨0,_,_,_,_,rfl,pO⟩
  ·exact ⟨k,_,_,_,_,ek,eo k t c r⟩
 rw[en] at hx
 cases hnm:Sl.name l with
 | none =>
  rw[hnm] at hn
  obtain ⟨m,hn⟩:=dH hn
  refine ⟨m,?_⟩
  simp only[rdB] at hx hn ⊢
  refine ab rfl rfl Tryz.func171 rfl Tryz.ntmps171 ⟨by simp,by simp[LK]⟩ ?_
  simp only[go_sem,Nat.reduceLT,reduceCtorEq,Nat.reduceEqDiff,Nat.reduceBEq,Nat.reduceAdd,Nat.reduceSub,Nat.reduceLeDiff,hr,hx,ek,hn]
 | some y =>
  obtain ⟨s,r⟩:=y
  rw[hnm] at hn
  have hn:=cS hn
  simp only
  have hst:=wk
  have hsh:=AI s
  unfold Sl.dQ
  by_cases h4:s=Sl.rz
  ·subst h4
   show den K 171 [P0] [rdB l]=some (.ret (.agg (fL (.mk 9 [] [] 0 0 []))) [rdB r])
   have q0:(([114,111,111,116]:List UInt8)==[114,111,111,116])=true:=rfl
   simp only[rdB,bZ,Sl.rz] at hx hn ⊢
   refine ab rfl rfl Tryz.func171 rfl Tryz.ntmps171 ⟨by simp,by simp[LK]⟩ ?_
   simp only[go_sem,Nat.reduceLT,reduceCtorEq,Nat.reduceEqDiff,Nat.reduceBEq,Nat.reduceAdd,Nat.reduceSub,Nat.reduceLeDiff,aj ag ao,hr,hx,ek,hn,q0]
  have e4:(s==[114,111,111,116])=false:=by rw[beq_eq_false_iff_ne];exact h4
  by_cases h5:s=Sl.mz
  ·subst h5
   show den K 171 [P0] [rdB l]=some (.ret (.agg (fL (.mk 10 [] [] 0 0 []))) [rdB r])
   have q0:(([101,109,112,116,121]:List UInt8)==[114,111,111,116])=false:=rfl
   have q1:(([101,109,112,116,121]:List UInt8)==[101,109,112,116,121])=true:=rfl
   simp only[rdB,bZ,Sl.mz] at hx hn ⊢
   refine ab rfl rfl Tryz.func171 rfl Tryz.ntmps171 ⟨by simp,by simp[LK]⟩ ?_
   simp only[go_sem,Nat.reduceLT,reduceCtorEq,Nat.reduceEqDiff,Nat.reduceBEq,Nat.reduceAdd,Nat.reduceSub,Nat.reduceLeDiff,aj ag ao,hr,hx,ek,hn,q0,q1]
  have e5:(s==[101,109,112,116,121])=false:=by rw[beq_eq_false_iff_ne];exact h5
  by_cases h6:s=Sl.wM
  ·subst h6
   show den K 171 [P0] [rdB l]=some (.ret (.agg (fL (.mk 8 [] [] 0 1 []))) [rdB r])
   have q0:(([102,105,114,115,116,45,99,104,105,108,100]:List UInt8)==[114,111,111,116])=false:=rfl
   have q1:(([102,105,114,115,116,45,99,104,105,108,100]:List UInt8)==[101,109,112,116,121])=false:=rfl
   have q2:(([102,105,114,115,116,45,99,104,105,108,100]:List UInt8)==[102,105,114,115,116,45,99,104,105,108,100])=true:=rfl
   simp only[rdB,bZ,Sl.wM] at hx hn ⊢
   refine ab rfl rfl Tryz.func171 rfl Tryz.ntmps171 ⟨by simp,by simp[LK]⟩ ?_
   simp only[go_sem,Nat.reduceLT,reduceCtorEq,Nat.reduceEqDiff,Nat.reduceBEq,Nat.reduceAdd,Nat.reduceSub,Nat.reduceLeDiff,aj ag ao,hr,hx,ek,hn,q0,q1,q2]
  have e6:(s==[102,105,114,115,116,45,99,104,105,108,100])=false:=by rw[beq_eq_false_iff_ne];exact h6
  by_cases h0:Sl.ic s
  ·rw[decide_eq_true h0] at hsh
   rw[if_pos h0]
   show den K 171 [P0] [rdB l]=some (.ret (.agg (fL (.mk 7 s [] 0 0 []))) [rdB r])
   simp only[rdB,bZ] at hx hn ⊢
   refine ab rfl rfl Tryz.func171 rfl Tryz.ntmps171 ⟨by simp,by simp[LK]⟩ ?_
   simp only[go_sem,Nat.reduceLT,reduceCtorEq,Nat.reduceEqDiff,Nat.reduceBEq,Nat.reduceAdd,Nat.reduceSub,Nat.reduceLeDiff,aj ag ao,hr,hx,ek,hn,e4,e5,e6,hst,hsh,hmy]
  ·rw[decide_eq_false h0] at hsh
   rw[if_neg h0,if_neg h4,if_neg h5,if_neg h6]
   refine ⟨r,?_⟩
   simp only[rdB] at hx hn ⊢
   refine ab rfl rfl Tryz.func171 rfl Tryz.ntmps171 ⟨by simp,by simp[LK]⟩ ?_
   simp only[go_sem,Nat.reduceLT,reduceCtorEq,Nat.reduceEqDiff,Nat.reduceBEq,Nat.reduceAdd,Nat.reduceSub,Nat.reduceLeDiff,aj ag ao,hr,hx,ek,hn,e4,e5,e6,hst,hsh,hmn]
theorem vZ (s:List UInt8) (h:s.length<1000000000):den K 170 [T s] []=some (.ret (T (Sl.low s)) []):=by
 have e:Sl.low s=s.map lowB:=by unfold Sl.low;exact List.map_congr_left fun c _=>(C3 c).symm
 rw[e]
 exact ey (F:=md) rfl (by unfold md;simp only;rw[if_pos (by unfold aB;omega)])
def po (l:List Val) (first:Bool):Prop:=first=false∨(Sl.tokK 1 l=none∧Sl.sign [42] l=none)
set_option maxHeartbeats 16000000 in
theorem zm (g:List Val→Option (Sim×List Val)) (l:List Val) (first:Bool) (hl:l.length≤60000000) (hf:po l first) (t:Tok) (k4:Sl.tokK 4 l=some t) :
  fh simE (kw g l) (den K 140 [P0,B first] [rdB l]):=by
 have hr:Tryz.f140.results = #[.cell 4 52]:=rfl
 have t4:=cE l 4 (by omega)
 have t1:=cE l 1 (by omega)
 unfold kw
 obtain ⟨e,c,r,rfl,hk⟩:=gK k4
 rw[e] at t4
 have htk:=dT 1 t c r (by rw[List.length_cons] at hl;omega)
 rw[eo] at htk
 rw[k4]
 show den K 140 [P0,B first] [rdB (.mk 1 t c::r)]=some (.ret (.agg (fL (.mk 3 t.text [] 0 0 []))) [rdB r])
 cases first
 ·simp only[rdB,bZ] at t4 htk ⊢
  refine ab rfl rfl Tryz.func140 rfl Tryz.ntmps140 ⟨by simp,by simp[LK]⟩ ?_
  simp only[go_sem,Nat.reduceLT,reduceCtorEq,Nat.reduceEqDiff,Nat.reduceBEq,Nat.reduceAdd,Nat.reduceSub,Nat.reduceLeDiff,Nat.reduceMul,aj ag ao,ae (len:=1) al ar ah ⟨rfl,by decide,by decide⟩,hr,t4,htk]
 ·rcases hf with hf|⟨hf1,hf2⟩
  ·cases hf
  rw[cU hf1] at t1
  have s42:=dG (by omega) hf2
  have q0:(([]:List UInt8)==[])=true:=rfl
  simp only[rdB,bZ] at t1 s42 t4 htk ⊢
  refine ab rfl rfl Tryz.func140 rfl Tryz.ntmps140 ⟨by simp,by simp[LK]⟩ ?_
  simp only[go_sem,Nat.reduceLT,reduceCtorEq,Nat.reduceEqDiff,Nat.reduceBEq,Nat.reduceAdd,Nat.reduceSub,Nat.reduceLeDiff,Nat.reduceMul,aj ag ao,ae (len:=1) al ar ah ⟨rfl,by decide,by decide⟩,hr,t1,s42,q0,bne,t4,htk]
set_option maxHeartbeats 16000000 in
theorem Bb (g:List Val→Option (Sim×List Val)) (l:List Val) (first:Bool) (hl:l.length≤60000000) (hf:po l first) (k4:Sl.tokK 4 l=none) (r:List Val) (k5:Sl.sign [46] l=some r) :
  fh simE (kw g l) (den K 140 [P0,B first] [rdB l]):=by
 have hr:Tryz.f140.results = #[.cell 4 52]:=rfl
 have t4:=cE l 4 (by omega)
 have t1:=cE l 1 (by omega)
 rw[cU k4] at t4
 have s46:=fD (by omega) k5
 have q0:(([]:List UInt8)==[])=true:=rfl
 have q1:(([46]:List UInt8)==[])=false:=rfl
 have hrl:r.length≤l.length:=by
  obtain ⟨v,e,_⟩:=Sl.dZ k5
  rw[e,List.length_cons];omega
 have hn:=fY r (by omega)
 unfold kw
 rw[k4,k5]
 simp only
 cases hnm:Sl.name r with
 | none =>
  rw[hnm] at hn
  obtain ⟨m,hn⟩:=dH hn
  refine ⟨m,?_⟩
  cases first
  ·simp only[rdB] at t4 s46 hn ⊢
   refine ab rfl rfl Tryz.func140 rfl Tryz.ntmps140 ⟨by simp,by simp[LK]⟩ ?_
   simp only[go_sem,Nat.reduceLT,reduceCtorEq,Nat.reduceEqDiff,Nat.reduceBEq,Nat.reduceAdd,Nat.reduceSub,Nat.reduceLeDiff,Nat.reduceMul,aj ag ao,ae (len:=1) al ar ah ⟨rfl,by decide,by decide⟩,hr,t4,s46,q1,bne,hn]
  ·rcases hf with hf|⟨hf1,hf2⟩
   ·cases hf
   rw[cU hf1] at t1
   have s42:=dG (by omega) hf2
   simp only[rdB] at t1 s42 t4 s46 hn ⊢
   refine ab rfl rfl Tryz.func140 rfl Tryz.ntmps140 ⟨by simp,by simp[LK]⟩ ?_
   simp only[go_sem,Nat.reduceLT,reduceCtorEq,Nat.reduceEqDiff,Nat.reduceBEq,Nat.reduceAdd,Nat.reduceSub,Nat.reduceLeDiff,Nat.reduceMul,aj ag ao,ae (len:=1) al ar ah ⟨rfl,by decide,by decide⟩,hr,t1,s42,q0,q1,bne,t4,s46,hn]
 | some y =>
  obtain ⟨s,m⟩:=y
  rw[hnm] at hn
  have hn:=cS hn
  show den K 140 [P0,B first] [rdB l]=some (.ret (.agg (fL (.mk 4 s [] 0 0 []))) [rdB m])
  cases first
  ·simp only[rdB,bZ] at t4 s46 hn ⊢
   refine ab rfl rfl Tryz.func140 rfl Tryz.ntmps140 ⟨by simp,by simp[LK]⟩ ?_
   simp only[go_sem,Nat.reduceLT,reduceCtorEq,Nat.reduceEqDiff,Nat.reduceBEq,Nat.reduceAdd,Nat.reduceSub,Nat.reduceLeDiff,Nat.reduceMul,aj ag ao,ae (len:=1) al ar ah ⟨rfl,by decide,by decide⟩,hr,t4,s46,q1,bne,hn]
  ·rcases hf with hf|⟨hf1,hf2⟩
   ·cases hf
   rw[cU hf1] at t1
   have s42:=dG (by omega) hf2
   simp only[rdB,bZ] at t1 s42 t4 s46 hn ⊢
   refine ab rfl rfl Tryz.func140 rfl Tryz.ntmps140 ⟨by simp,by simp[LK]⟩ ?_
   simp only[go_sem,Nat.reduceLT,reduceCtorEq,Nat.reduceEqDiff,Nat.reduceBEq,Nat.reduceAdd,Nat.reduceSub,Nat.reduceLeDiff,Nat.reduceMul,aj ag ao,ae (len:=1) al ar ah ⟨rfl,by decide,by decide⟩,hr,t1,s42,q0,q1,bne,t4,s46,hn]
set_option maxHeartbeats 16000000 in
theorem xo (g:List Val→Option (Sim×List Val)) (l:List Val) (first:Bool) (hl:l.length≤60000000) (hf:po l first) (k4:Sl.tokK 4 l=none) (k5:Sl.sign [46] l=none) (r:List Val) (k6:Sl.sign [58] l=some r)
  (hp:fh simE (Sl.colon g r) (den K 171 [P0] [rdB r])) :
  fh simE (kw g l) (den K 140 [P0,B first] [rdB l]):=by
 have hr:Tryz.f140.results = #[.cell 4 52]:=rfl
 have t4:=cE l 4 (by omega)
 have t1:=cE l 1 (by omega)
 rw[cU k4] at t4
 have s46:=dG (by omega) k5
 have s58:=fD (by omega) k6
 have q0:(([]:List UInt8)==[])=true:=rfl
 have q1:(([58]:List UInt8)==[])=false:=rfl
 unfold kw
 rw[k4,k5,k6]
 simp only
 cases hc:Sl.colon g r with
 | none =>
  rw[hc] at hp
  obtain ⟨m,hp⟩:=dH hp
  refine ⟨m,?_⟩
  cases first
  ·simp only[rdB] at t4 s46 s58 hp ⊢
   refine ab rfl rfl Tryz.func140 rfl Tryz.ntmps140 ⟨by simp,by simp[LK]⟩ ?_
   simp only[go_sem,Nat.reduceLT,reduceCtorEq,Nat.reduceEqDiff,Nat.reduceBEq,Nat.reduceAdd,Nat.reduceSub,Nat.reduceLeDiff,Nat.reduceMul,aj ag ao,ae (len:=1) al ar ah ⟨rfl,by decide,by decide⟩,hr,t4,s46,s58,q0,q1,bne,hp]
  ·rcases hf with hf|⟨hf1,hf2⟩
   ·cases hf
   rw[cU hf1] at t1
   have s42:=dG (by omega) hf2
   simp only[rdB] at t1 s42 t4 s46 s58 hp ⊢
   refine ab rfl rfl Tryz.func140 rfl Tryz.ntmps140 ⟨by simp,by simp[LK]⟩ ?_
   simp only[go_sem,Nat.reduceLT,reduceCtorEq,Nat.reduceEqDiff,Nat.reduceBEq,Nat.reduceAdd,Nat.reduceSub,Nat.reduceLeDiff,Nat.reduceMul,aj ag ao,ae (len:=1) al ar ah ⟨rfl,by decide,by decide⟩,hr,t1,s42,t4,s46,s58,q0,q1,bne,hp]
 | some y =>
  obtain ⟨x,m⟩:=y
  rw[hc] at hp
  have hp:=cS hp
  show den K 140 [P0,B first] [rdB l]=some (.ret (.agg (fL x)) [rdB m])
  obtain ⟨k,n,v,a,b,xl⟩:=x
  cases xl
  all_goals
   cases first
   ·simp only[rdB,simE,bZ,dE] at t4 s46 s58 hp ⊢
    refine ab rfl rfl Tryz.func140 rfl Tryz.ntmps140 ⟨by simp,by simp[LK]⟩ ?_
    simp only[go_sem,Nat.reduceLT,reduceCtorEq,Nat.reduceEqDiff,Nat.reduceBEq,Nat.reduceAdd,Nat.reduceSub,Nat.reduceLeDiff,Nat.reduceMul,aj ag ao,ae (len:=1) al ar ah ⟨rfl,by decide,by decide⟩,hr,t4,s46,s58,q0,q1,bne,hp]
   ·rcases hf with hf|⟨hf1,hf2⟩
    ·cases hf
    rw[cU hf1] at t1
    have s42:=dG (by omega) hf2
    simp only[rdB,simE,bZ,dE] at t1 s42 t4 s46 s58 hp ⊢
    refine ab rfl rfl Tryz.func140 rfl Tryz.ntmps140 ⟨by simp,by simp[LK]⟩ ?_
    simp only[go_sem,Nat.reduceLT,reduceCtorEq,Nat.reduceEqDiff,Nat.reduceBEq,Nat.reduceAdd,Nat.reduceSub,Nat.reduceLeDiff,Nat.reduceMul,aj ag ao,ae (len:=1) al ar ah ⟨rfl,by decide,by decide⟩,hr,t1,s42,t4,s46,s58,q0,q1,bne,hp]
set_option maxHeartbeats 16000000 in
theorem yZ (g:List Val→Option (Sim×List Val)) (l:List Val) (first:Bool) (hl:Ne.size l≤60000000) (hf:po l first) (k4:Sl.tokK 4 l=none) (k5:Sl.sign [46] l=none) (k6:Sl.sign [58] l=none) :
  fh simE (kw g l) (den K 140 [P0,B first] [rdB l]):=by
 have hr:Tryz.f140.results = #[.cell 4 52]:=rfl
 have hll:=Ne.cB l
 have t4:=cE l 4 (by omega)
 have t1:=cE l 1 (by omega)
 rw[cU k4] at t4
 have s46:=dG (by omega) k5
 have s58:=dG (by omega) k6
 have hx:=eL l (by omega)
 have q0:(([]:List UInt8)==[])=true:=rfl
 unfold kw
 rw[k4,k5,k6]
 simp only
 cases hv:Sl.ep 3 l with
 | none =>
  obtain ⟨k,x1,x2,x3,x4,ek,en⟩ : ∃ (k:Int) (x1 x2 x3 x4:CV),(k==3)=false∧nxCv l=[.pv (.int .i64 k),x1,x2,x3,x4]:=by
   rcases nF hv with rfl|⟨k,t,c,r,rfl,ek⟩
   ·exact ⟨0,_,_,_,_,rfl,pO⟩
   ·exact ⟨k,_,_,_,_,ek,eo k t c r⟩
  rw[en] at hx
  refine ⟨l,?_⟩
  cases first
  ·simp only[rdB] at t4 s46 s58 hx ⊢
   refine ab rfl rfl Tryz.func140 rfl Tryz.ntmps140 ⟨by simp,by simp[LK]⟩ ?_
   simp only[go_sem,Nat.reduceLT,reduceCtorEq,Nat.reduceEqDiff,Nat.reduceBEq,Nat.reduceAdd,Nat.reduceSub,Nat.reduceLeDiff,Nat.reduceMul,aj ag ao,ae (len:=1) al ar ah ⟨rfl,by decide,by decide⟩,aj d7 ev,hr,t4,s46,s58,q0,bne,hx,ek]
  ·rcases hf with hf|⟨hf1,hf2⟩
   ·cases hf
   rw[cU hf1] at t1
   have s42:=dG (by omega) hf2
   simp only[rdB] at t1 s42 t4 s46 s58 hx ⊢
   refine ab rfl rfl Tryz.func140 rfl Tryz.ntmps140 ⟨by simp,by simp[LK]⟩ ?_
   simp only[go_sem,Nat.reduceLT,reduceCtorEq,Nat.reduceEqDiff,Nat.reduceBEq,Nat.reduceAdd,Nat.reduceSub,Nat.reduceLeDiff,Nat.reduceMul,aj ag ao,ae (len:=1) al ar ah ⟨rfl,by decide,by decide⟩,aj d7 ev,hr,t1,s42,t4,s46,s58,q0,bne,hx,ek]
 | some y =>
  obtain ⟨⟨t,c⟩,r⟩:=y
  have e:=jM hv
  subst e
  have htk:=dT 3 t c r (by rw[List.length_cons] at hll;omega)
  rw[eo] at hx htk
  have ha:=Am c (by rw[Ne.size,Ne.lX] at hl;omega)
  simp only
  cases hm:Sl.attr c with
  | none =>
   rw[hm] at ha
   simp only at ha
   refine ⟨r,?_⟩
   cases first
   ·simp only[rdB] at t4 s46 s58 hx htk ⊢
    refine ab rfl rfl Tryz.func140 rfl Tryz.ntmps140 ⟨by simp,by simp[LK]⟩ ?_
    simp only[go_sem,Nat.reduceLT,reduceCtorEq,Nat.reduceEqDiff,Nat.reduceBEq,Nat.reduceAdd,Nat.reduceSub,Nat.reduceLeDiff,Nat.reduceMul,aj ag ao,ae (len:=1) al ar ah ⟨rfl,by decide,by decide⟩,hr,t4,s46,s58,q0,bne,hx,htk,ha]
   ·rcases hf with hf|⟨hf1,hf2⟩
    ·cases hf
    rw[cU hf1] at t1
    have s42:=dG (by omega) hf2
    simp only[rdB] at t1 s42 t4 s46 s58 hx htk ⊢
    refine ab rfl rfl Tryz.func140 rfl Tryz.ntmps140 ⟨by simp,by simp[LK]⟩ ?_
    simp only[go_sem,Nat.reduceLT,reduceCtorEq,Nat.reduceEqDiff,Nat.reduceBEq,Nat.reduceAdd,Nat.reduceSub,Nat.reduceLeDiff,Nat.reduceMul,aj ag ao,ae (len:=1) al ar ah ⟨rfl,by decide,by decide⟩,hr,t1,s42,t4,s46,s58,q0,bne,hx,htk,ha]
  | some x =>
   rw[hm] at ha
   simp only at ha
   show den K 140 [P0,B first] [rdB (.mk 3 t c::r)]=some (.ret (.agg (fL x)) [rdB r])
   obtain ⟨k,n,v,a,b,xl⟩:=x
   cases xl
   all_goals
    cases first
    ·simp only[rdB,bZ,dE] at t4 s46 s58 hx htk ha ⊢
     refine ab rfl rfl Tryz.func140 rfl Tryz.ntmps140 ⟨by simp,by simp[LK]⟩ ?_
     simp only[go_sem,Nat.reduceLT,reduceCtorEq,Nat.reduceEqDiff,Nat.reduceBEq,Nat.reduceAdd,Nat.reduceSub,Nat.reduceLeDiff,Nat.reduceMul,aj ag ao,ae (len:=1) al ar ah ⟨rfl,by decide,by decide⟩,hr,t4,s46,s58,q0,bne,hx,htk,ha]
    ·rcases hf with hf|⟨hf1,hf2⟩
     ·cases hf
     rw[cU hf1] at t1
     have s42:=dG (by omega) hf2
     simp only[rdB,bZ,dE] at t1 s42 t4 s46 s58 hx htk ha ⊢
     refine ab rfl rfl Tryz.func140 rfl Tryz.ntmps140 ⟨by simp,by simp[LK]⟩ ?_
     simp only[go_sem,Nat.reduceLT,reduceCtorEq,Nat.reduceEqDiff,Nat.reduceBEq,Nat.reduceAdd,Nat.reduceSub,Nat.reduceLeDiff,Nat.reduceMul,aj ag ao,ae (len:=1) al ar ah ⟨rfl,by decide,by decide⟩,hr,t1,s42,t4,s46,s58,q0,bne,hx,htk,ha]
set_option maxHeartbeats 16000000 in
theorem ug (l:List Val) (hl:l.length≤60000000) (hts:TSh l) (t:Tok) (k1:Sl.tokK 1 l=some t) :
  den K 140 [P0,B true] [rdB l]=some (.ret (.agg (fL (.mk 2 (Sl.low t.text) [] 0 0 []))) [rdB l.tail]):=by
 have hr:Tryz.f140.results = #[.cell 4 52]:=rfl
 have t1:=cE l 1 (by omega)
 have hn:=fY l (by omega)
 have en:Sl.name l=some (t.text,l.tail):=by unfold Sl.name;rw[k1];rfl
 rw[en] at hn
 have hn:=cS hn
 obtain ⟨e,c,r,rfl,hk⟩:=gK k1
 rw[e] at t1
 have hlo:=vZ t.text (AX hts)
 simp only[rdB,bZ,List.tail_cons] at t1 hn ⊢
 refine ab rfl rfl Tryz.func140 rfl Tryz.ntmps140 ⟨by simp,by simp[LK]⟩ ?_
 simp only[go_sem,Nat.reduceLT,reduceCtorEq,Nat.reduceEqDiff,Nat.reduceBEq,Nat.reduceAdd,Nat.reduceSub,Nat.reduceLeDiff,Nat.reduceMul,aj ag ao,ae (len:=1) al ar ah ⟨rfl,by decide,by decide⟩,hr,t1,hn,hlo]
set_option maxHeartbeats 16000000 in
theorem uX (l:List Val) (hl:l.length≤60000000) (k1:Sl.tokK 1 l=none) (r:List Val) (k2:Sl.sign [42] l=some r) :
  den K 140 [P0,B true] [rdB l]=some (.ret (.agg (fL (.mk 1 [] [] 0 0 []))) [rdB r]):=by
 have hr:Tryz.f140.results = #[.cell 4 52]:=rfl
 have t1:=cE l 1 (by omega)
 rw[cU k1] at t1
 have s42:=fD (by omega) k2
 have q1:(([42]:List UInt8)==[])=false:=rfl
 simp only[rdB,bZ] at t1 s42 ⊢
 refine ab rfl rfl Tryz.func140 rfl Tryz.ntmps140 ⟨by simp,by simp[LK]⟩ ?_
 simp only[go_sem,Nat.reduceLT,reduceCtorEq,Nat.reduceEqDiff,Nat.reduceBEq,Nat.reduceAdd,Nat.reduceSub,Nat.reduceLeDiff,Nat.reduceMul,aj ag ao,ae (len:=1) al ar ah ⟨rfl,by decide,by decide⟩,hr,t1,s42,q1,bne]
end Go.Abs
