/-
  WHAT THE FUNCTIONS COMPUTE, layer 4, the program's reader of selectors: functions, what stands behind a sign :, a simple selector.
-/
import Derived.Test.YtlomcifkckgneaaGreatDoorRn9
import Derived.Test.YtlomcifkckgneaaGreatDoorRn11
set_option linter.unusedSimpArgs false
set_option linter.unusedVariables false
namespace Go.Abs
open Go Go.Proofs
set_option maxRecDepth 10000
attribute [local go_sem] cX bA ce bJ bL cU ci cg aN bD bt bR cz bE opd avOf cvOf St.degAt St.put okPV dQ okAV dc dh dp cG aD if_true Bool.false_eq_true if_false Option.map_some Option.map_none Option.bind_some Option.bind_none dL dG upd List.toList_toArray bX steal bd mvB dx cE co AV.deg CV.deg AV.gv AV.isIter cv cj bK List.length_nil List.length_cons List.filterMap_cons List.filterMap_nil beq_iff_eq List.getElem?_cons_zero List.getElem?_cons_succ Option.getD_some d8 eS Bool.false_and Bool.and_false Bool.and_self K_P fO bO cd bc lend back idx dedup AV.ren CV.ren TV.ren AV.ptrs CV.ptrs cD AV.flat CV.flat bU bH aR cA cQ dV bM aK bS bh bw bI bg ep CV.pv? content bo ownT aV reps pvs chunks bC leave ee cm c9 bF a8 TV.deg TV.av LK CV.plain CV.noBld cK ei bound List.map_cons List.map_nil List.all_cons List.all_nil List.any_cons List.any_nil List.contains_cons List.contains_nil List.elem_cons List.elem_nil List.cons_append List.nil_append List.append_nil List.flatMap_cons List.flatMap_nil List.zip_cons_cons List.zip_nil_left List.zip_nil_right List.take_succ_cons List.take_zero List.take_nil List.drop_succ_cons List.drop_zero List.drop_nil List.isEmpty_nil List.isEmpty_cons Bool.and_true Bool.true_and Bool.or_true Bool.true_or Bool.or_false Bool.false_or Bool.not_true Bool.not_false Nat.add_zero Nat.zero_add Option.isNone_none Option.isNone_some Option.getD_none true_and and_true not_true_eq_false not_false_eq_true decide_true decide_false Nat.le_refl and_self Bool.not_eq_true Nat.sub_self or_true true_or Option.some.injEq List.length_map List.nil_eq and_false false_and AV.live CV.live CV.liveIn dW aO Option.orElse_some Option.orElse_none head a7 aY Int.lt_irrefl List.length_append ite_self dR bQ cF br Key.clash Key.sees Key.writes Nat.lt_irrefl gt_iff_lt cf dD false_or or_false beq_self_eq_true Bool.true_beq Bool.false_beq wg eN fC ar bz aG c8 aE cy dz dK dS Gc jZ tL fG ck bB jI tX cx pC Fj pS Fm xe pJ E3 pK aL DS C1
abbrev simE (x:Sim):AV := .agg (gz x)
abbrev simZ:List CV:=[.pv (.int .i64 0),.pv (.str []),.pv (.str []),.pv (.int .i64 0),.pv (.int .i64 0),.nils]
theorem AX (x:Sim) (f:Nat→Option Nat):(gz x).map (CV.ren f)=gz x:=by
 obtain ⟨k,n,v,a,b,l⟩:=x
 cases l<;>rfl
theorem qQ (f:Nat→Option Nat):simZ.map (CV.ren f)=simZ:=rfl
theorem Fa {l r:List Val} {x:Sim} (h:den K 140 [P0,B true] [rdB l]=some (.ret (simE x) [rdB r])) :
  den K 225 [P0,P1] [rdB l,simZ]=some (.ret (.tup []) [rdB r,gz x]):=by
 have hr:Tryz.f225.results = #[]:=rfl
 obtain ⟨k,n,v,a,b,xl⟩:=x
 cases xl
 all_goals
  simp only[rdB,simE,b7,d6] at h ⊢
  refine ab rfl rfl Tryz.func225 rfl Tryz.ntmps225 ⟨by simp,by simp[LK]⟩ ?_
  simp only[go_sem,Nat.reduceLT,Nat.reduceEqDiff,Nat.reduceBEq,Nat.reduceAdd,Nat.reduceSub,Nat.reduceLeDiff,hr,h]
theorem Fl {l m:List Val} (h:den K 140 [P0,B true] [rdB l]=some (.pan cZ [rdB m])) :
  den K 225 [P0,P1] [rdB l,simZ]=some (.pan cZ [rdB m,simZ]):=by
 have hr:Tryz.f225.results = #[]:=rfl
 simp only[rdB] at h ⊢
 refine ab rfl rfl Tryz.func225 rfl Tryz.ntmps225 ⟨by simp,by simp[LK]⟩ ?_
 simp only[go_sem,Nat.reduceLT,Nat.reduceEqDiff,Nat.reduceBEq,Nat.reduceAdd,Nat.reduceSub,Nat.reduceLeDiff,hr,h]
def fnG (g:List Val→Option (Sim×List Val)) (t:Tok) (c:List Val):Option Sim :=
 if t.text=Sl.nthT then (Sl.nthM c).map fun x=>Sim.mk 8 [] [] x.1 x.2 [] else if t.text=Sl.notT then notG g c else none
def C2 {α:Type} (enc:α→AV) (o:Option α) (r:Option Res):Prop:=match o with
 | some x=>r=some (.ret (enc x) [])
 | none=>r=some (.pan cZ [])
set_option maxHeartbeats 8000000 in
theorem uv (g:List Val→Option (Sim×List Val)) (t:Tok) (c:List Val) (hc:c.length≤70000000) (hts:TSh c) (hg:t.text=Sl.notT→fQ simE (g (Sl.trim c)) (den K 140 [P0,B true] [rdB (Sl.trim c)])) :
  C2 simE (fnG g t c) (den K 204 [.agg (iT 5 t c)] []):=by
 have hr:Tryz.f204.results = #[.cell 2 52]:=rfl
 have hmy:=dP
 have hmn:=fM
 have hgd:goods.contains 225=true:=by kernel_rfl
 unfold fnG
 by_cases h1:t.text=Sl.nthT
 ·have e1:(t.text==[110,116,104,45,99,104,105,108,100])=true:=by rw[h1];rfl
  have hn:=DN c hc hts
  rw[if_pos h1]
  cases hm:Sl.nthM c with
  | none =>
   rw[hm] at hn
   unfold nthA at hn
   simp only at hn
   show den K 204 [.agg (iT 5 t c)] []=some (.pan cZ [])
   refine ab rfl rfl Tryz.func204 rfl Tryz.ntmps204 ⟨by simp,by simp[LK]⟩ ?_
   simp only[go_sem,Nat.reduceLT,Nat.reduceEqDiff,Nat.reduceBEq,Nat.reduceAdd,Nat.reduceSub,Nat.reduceLeDiff,hr,hn,e1,hmn,TV.flat,Int.reduceBEq]
  | some x =>
   obtain ⟨a,b⟩:=x
   rw[hm] at hn
   unfold nthA at hn
   simp only at hn
   show den K 204 [.agg (iT 5 t c)] []=some (.ret (.agg (gz (.mk 8 [] [] a b []))) [])
   rw[b7]
   refine ab rfl rfl Tryz.func204 rfl Tryz.ntmps204 ⟨by simp,by simp[LK]⟩ ?_
   simp only[go_sem,Nat.reduceLT,Nat.reduceEqDiff,Nat.reduceBEq,Nat.reduceAdd,Nat.reduceSub,Nat.reduceLeDiff,ak ar aF,hr,hn,e1,hmy,TV.flat]
 have e1:(t.text==[110,116,104,45,99,104,105,108,100])=false:=by rw[beq_eq_false_iff_ne];exact h1
 rw[if_neg h1]
 by_cases h2:t.text=Sl.notT
 ·have e2:(t.text==[110,111,116])=true:=by rw[h2];rfl
  have hg:=hg h2
  rw[if_pos h2]
  unfold notG
  cases hx:g (Sl.trim c) with
  | none =>
   rw[hx] at hg
   obtain ⟨m,hg⟩:=dZ hg
   have hw:=rt hgd (by omega) qQ qQ (Fl hg)
   show den K 204 [.agg (iT 5 t c)] []=some (.pan cZ [])
   simp only[simZ] at hw
   refine ab rfl rfl Tryz.func204 rfl Tryz.ntmps204 ⟨by simp,by simp[LK]⟩ ?_
   simp only[go_sem,Nat.reduceLT,Nat.reduceEqDiff,Nat.reduceBEq,Nat.reduceAdd,Nat.reduceSub,Nat.reduceLeDiff,hr,e1,e2,hw,hmn,gy,locs,iz,Int.reduceBEq]
  | some y =>
   obtain ⟨x,m⟩:=y
   rw[hx] at hg
   have hw:=pW hgd (by omega) qQ (AX x) (Fa (de hg))
   cases m with
   | cons z m =>
    show den K 204 [.agg (iT 5 t c)] []=some (.pan cZ [])
    obtain ⟨k,n,v,a,b,xl⟩:=x
    cases xl
    all_goals
     simp only[simZ,b7,d6,List.isEmpty_cons,Bool.false_eq_true,if_false] at hw
     refine ab rfl rfl Tryz.func204 rfl Tryz.ntmps204 ⟨by simp,by simp[LK]⟩ ?_
     simp only[go_sem,Nat.reduceLT,Nat.reduceEqDiff,Nat.reduceBEq,Nat.reduceAdd,Nat.reduceSub,Nat.reduceLeDiff,hr,e1,e2,hw,hmn,gy,locs,iz,Int.reduceBEq]
   | nil =>
    simp only
    by_cases hk:x.kind=11
    ·rw[if_pos hk]
     show den K 204 [.agg (iT 5 t c)] []=some (.pan cZ [])
     obtain ⟨k,n,v,a,b,xl⟩:=x
     have ek:(k==11)=true:=by rw[beq_iff_eq];exact hk
     cases xl
     all_goals
      simp only[simZ,b7,d6,List.isEmpty_nil,if_true] at hw
      refine ab rfl rfl Tryz.func204 rfl Tryz.ntmps204 ⟨by simp,by simp[LK]⟩ ?_
      simp only[go_sem,Nat.reduceLT,Nat.reduceEqDiff,Nat.reduceBEq,Nat.reduceAdd,Nat.reduceSub,Nat.reduceLeDiff,hr,e1,e2,hw,hmn,ek,bne,gy,locs,iz]
    ·rw[if_neg hk]
     show den K 204 [.agg (iT 5 t c)] []=some (.ret (.agg (gz (.mk 11 [] [] 0 0 [x]))) [])
     obtain ⟨k,n,v,a,b,xl⟩:=x
     have ek:(k==11)=false:=by rw[beq_eq_false_iff_ne];exact hk
     rw[d6,DZ]
     cases xl
     all_goals
      simp only[simZ,b7,d6,List.isEmpty_nil,if_true,FZ,EL] at hw ⊢
      refine ab rfl rfl Tryz.func204 rfl Tryz.ntmps204 ⟨by simp,by simp[LK]⟩ ?_
      simp only[go_sem,Nat.reduceLT,Nat.reduceEqDiff,Nat.reduceBEq,Nat.reduceAdd,Nat.reduceSub,Nat.reduceLeDiff,Nat.reduceMul,ak ar aF,af (len:=1) bG eN ar ⟨rfl,by decide,by decide⟩,hr,e1,e2,hw,hmy,ek,bne,gy,locs,iz]
 ·have e2:(t.text==[110,111,116])=false:=by rw[beq_eq_false_iff_ne];exact h2
  rw[if_neg h2]
  show den K 204 [.agg (iT 5 t c)] []=some (.pan cZ [])
  refine ab rfl rfl Tryz.func204 rfl Tryz.ntmps204 ⟨by simp,by simp[LK]⟩ ?_
  simp only[go_sem,Nat.reduceLT,Nat.reduceEqDiff,Nat.reduceBEq,Nat.reduceAdd,Nat.reduceSub,Nat.reduceLeDiff,ak eH eX,hr,e1,e2]
theorem zh:den K 191 [] []=some (.ret (L [[.str [104,111,118,101,114]],[.str [102,111,99,117,115]],[.str [97,99,116,105,118,101]],[.str [99,104,101,99,107,101,100]]]) []):=by
 have hr:Tryz.f191.results = #[.tmp 0]:=rfl
 refine ab rfl rfl Tryz.func191 rfl Tryz.ntmps191 ⟨by simp,by simp[LK]⟩ ?_
 simp only[go_sem,Nat.reduceLT,reduceCtorEq,Nat.reduceBEq,Nat.reduceAdd,Nat.reduceLeDiff,Nat.reduceMul,af (len:=4) ay aE au ⟨rfl,by decide,by decide⟩,hr]
theorem BT (s:List UInt8):den K 106 [L [[.str [104,111,118,101,114]],[.str [102,111,99,117,115]],[.str [97,99,116,105,118,101]],[.str [99,104,101,99,107,101,100]]],T s] []=some (.ret (B (decide (Sl.lB s))) []):=by
 have h:=lm [Sl.ym,Sl.yB,Sl.tC,Sl.q7] s (by simp)
 have e:([Sl.ym,Sl.yB,Sl.tC,Sl.q7].any (s == ·))=decide (Sl.lB s):=by
  rw[Bool.eq_iff_iff,decide_eq_true_eq]
  simp only[List.any_cons,List.any_nil,Bool.or_false,Bool.or_eq_true,beq_iff_eq]
  exact Iff.rfl
 rw[e] at h
 exact h
theorem lv {kind:Int} {l:List Val} {t:Tok} {c r:List Val} (h:Sl.fw kind l=some ((t,c),r)):l = .mk kind t c::r:=Sl.mm h
theorem o0 {kind:Int} {l:List Val} (h:Sl.fw kind l=none):l=[] ∨ ∃ k t c r,l = .mk k t c::r∧(k==kind)=false:=by
 cases l with
 | nil=>exact .inl rfl
 | cons v r =>
  obtain ⟨k,t,c⟩:=v
  refine .inr ⟨k,t,c,r,rfl,?_⟩
  rw[beq_eq_false_iff_ne]
  intro hh
  unfold Sl.fw at h
  simp only at h
  rw[if_pos hh] at h
  cases h
set_option maxHeartbeats 16000000 in
theorem zw (g:List Val→Option (Sim×List Val)) (l:List Val) (hl:l.length≤60000000) (t:Tok) (c r:List Val) (hv:Sl.fw 5 l=some ((t,c),r)) (hf:C2 simE (fnG g t c) (den K 204 [.agg (iT 5 t c)] [])) :
  fQ simE (Sl.colon g l) (den K 171 [P0] [rdB l]):=by
 have hr:Tryz.f171.results = #[.cell 2 52]:=rfl
 rw[GA g hv]
 have e:=lv hv
 subst e
 have hx:=fl (.mk 5 t c::r) (by omega)
 have htk:=ef 5 t c r (by rw[List.length_cons] at hl;omega)
 rw[eL] at hx htk
 have e0:(if t.text=Sl.nthT then (Sl.nthM c).map fun x=>(Sim.mk 8 [] [] x.1 x.2 [],r) else if t.text=Sl.notT then (notG g c).map fun x=>(x,r) else none)=(fnG g t c).map fun x=>(x,r):=by
  unfold fnG
  split
  ·rw[Option.map_map];rfl
  ·split
   ·rfl
   ·rfl
 rw[e0]
 cases hF:fnG g t c with
 | none =>
  rw[hF] at hf
  have hf:den K 204 [.agg (iT 5 t c)] []=some (.pan cZ []):=hf
  refine ⟨r,?_⟩
  simp only[rdB,we] at hx htk hf ⊢
  refine ab rfl rfl Tryz.func171 rfl Tryz.ntmps171 ⟨by simp,by simp[LK]⟩ ?_
  simp only[go_sem,Nat.reduceLT,reduceCtorEq,Nat.reduceEqDiff,Nat.reduceBEq,Nat.reduceAdd,Nat.reduceSub,Nat.reduceLeDiff,hr,hx,htk,hf]
 | some x =>
  rw[hF] at hf
  have hf:den K 204 [.agg (iT 5 t c)] []=some (.ret (simE x) []):=hf
  show den K 171 [P0] [rdB (.mk 5 t c::r)]=some (.ret (simE x) [rdB r])
  obtain ⟨k,n,v,a,b,xl⟩:=x
  cases xl
  all_goals
   simp only[rdB,we,simE,b7,d6] at hx htk hf ⊢
   refine ab rfl rfl Tryz.func171 rfl Tryz.ntmps171 ⟨by simp,by simp[LK]⟩ ?_
   simp only[go_sem,Nat.reduceLT,reduceCtorEq,Nat.reduceEqDiff,Nat.reduceBEq,Nat.reduceAdd,Nat.reduceSub,Nat.reduceLeDiff,hr,hx,htk,hf]
set_option maxHeartbeats 16000000 in
theorem uV (g:List Val→Option (Sim×List Val)) (l:List Val) (hl:l.length≤60000000) (hv:Sl.fw 5 l=none) :
  fQ simE (Sl.colon g l) (den K 171 [P0] [rdB l]):=by
 have hr:Tryz.f171.results = #[.cell 2 52]:=rfl
 rw[G9 g hv]
 have hx:=fl l (by omega)
 have hn:=gK l (by omega)
 have hmy:=dP
 have hmn:=fM
 obtain ⟨k,x1,x2,x3,x4,ek,en⟩ : ∃ (k:Int) (x1 x2 x3 x4:CV),(k==5)=false∧nxCv l=[.pv (.int .i64 k),x1,x2,x3,x4]:=by
  rcases o0 hv with rfl|⟨k,t,c,r,rfl,ek⟩
  ·exact ⟨0,_,_,_,_,rfl,qm⟩
  ·exact ⟨k,_,_,_,_,ek,eL k t c r⟩
 rw[en] at hx
 cases hnm:Sl.name l with
 | none =>
  rw[hnm] at hn
  obtain ⟨m,hn⟩:=dZ hn
  refine ⟨m,?_⟩
  simp only[rdB] at hx hn ⊢
  refine ab rfl rfl Tryz.func171 rfl Tryz.ntmps171 ⟨by simp,by simp[LK]⟩ ?_
  simp only[go_sem,Nat.reduceLT,reduceCtorEq,Nat.reduceEqDiff,Nat.reduceBEq,Nat.reduceAdd,Nat.reduceSub,Nat.reduceLeDiff,hr,hx,ek,hn]
 | some y =>
  obtain ⟨s,r⟩:=y
  rw[hnm] at hn
  have hn:=de hn
  simp only
  have hst:=zh
  have hsh:=BT s
  unfold Sl.jD
  by_cases h4:s=Sl.Dh
  ·subst h4
   show den K 171 [P0] [rdB l]=some (.ret (.agg (gz (.mk 9 [] [] 0 0 []))) [rdB r])
   have q0:(([114,111,111,116]:List UInt8)==[114,111,111,116])=true:=rfl
   simp only[rdB,b7,Sl.Dh] at hx hn ⊢
   refine ab rfl rfl Tryz.func171 rfl Tryz.ntmps171 ⟨by simp,by simp[LK]⟩ ?_
   simp only[go_sem,Nat.reduceLT,reduceCtorEq,Nat.reduceEqDiff,Nat.reduceBEq,Nat.reduceAdd,Nat.reduceSub,Nat.reduceLeDiff,ak ar aF,hr,hx,ek,hn,q0]
  have e4:(s==[114,111,111,116])=false:=by rw[beq_eq_false_iff_ne];exact h4
  by_cases h5:s=Sl.yW
  ·subst h5
   show den K 171 [P0] [rdB l]=some (.ret (.agg (gz (.mk 10 [] [] 0 0 []))) [rdB r])
   have q0:(([101,109,112,116,121]:List UInt8)==[114,111,111,116])=false:=rfl
   have q1:(([101,109,112,116,121]:List UInt8)==[101,109,112,116,121])=true:=rfl
   simp only[rdB,b7,Sl.yW] at hx hn ⊢
   refine ab rfl rfl Tryz.func171 rfl Tryz.ntmps171 ⟨by simp,by simp[LK]⟩ ?_
   simp only[go_sem,Nat.reduceLT,reduceCtorEq,Nat.reduceEqDiff,Nat.reduceBEq,Nat.reduceAdd,Nat.reduceSub,Nat.reduceLeDiff,ak ar aF,hr,hx,ek,hn,q0,q1]
  have e5:(s==[101,109,112,116,121])=false:=by rw[beq_eq_false_iff_ne];exact h5
  by_cases h6:s=Sl.zn
  ·subst h6
   show den K 171 [P0] [rdB l]=some (.ret (.agg (gz (.mk 8 [] [] 0 1 []))) [rdB r])
   have q0:(([102,105,114,115,116,45,99,104,105,108,100]:List UInt8)==[114,111,111,116])=false:=rfl
   have q1:(([102,105,114,115,116,45,99,104,105,108,100]:List UInt8)==[101,109,112,116,121])=false:=rfl
   have q2:(([102,105,114,115,116,45,99,104,105,108,100]:List UInt8)==[102,105,114,115,116,45,99,104,105,108,100])=true:=rfl
   simp only[rdB,b7,Sl.zn] at hx hn ⊢
   refine ab rfl rfl Tryz.func171 rfl Tryz.ntmps171 ⟨by simp,by simp[LK]⟩ ?_
   simp only[go_sem,Nat.reduceLT,reduceCtorEq,Nat.reduceEqDiff,Nat.reduceBEq,Nat.reduceAdd,Nat.reduceSub,Nat.reduceLeDiff,ak ar aF,hr,hx,ek,hn,q0,q1,q2]
  have e6:(s==[102,105,114,115,116,45,99,104,105,108,100])=false:=by rw[beq_eq_false_iff_ne];exact h6
  by_cases h0:Sl.lB s
  ·rw[decide_eq_true h0] at hsh
   rw[if_pos h0]
   show den K 171 [P0] [rdB l]=some (.ret (.agg (gz (.mk 7 s [] 0 0 []))) [rdB r])
   simp only[rdB,b7] at hx hn ⊢
   refine ab rfl rfl Tryz.func171 rfl Tryz.ntmps171 ⟨by simp,by simp[LK]⟩ ?_
   simp only[go_sem,Nat.reduceLT,reduceCtorEq,Nat.reduceEqDiff,Nat.reduceBEq,Nat.reduceAdd,Nat.reduceSub,Nat.reduceLeDiff,ak ar aF,hr,hx,ek,hn,e4,e5,e6,hst,hsh,hmy]
  ·rw[decide_eq_false h0] at hsh
   rw[if_neg h0,if_neg h4,if_neg h5,if_neg h6]
   refine ⟨r,?_⟩
   simp only[rdB] at hx hn ⊢
   refine ab rfl rfl Tryz.func171 rfl Tryz.ntmps171 ⟨by simp,by simp[LK]⟩ ?_
   simp only[go_sem,Nat.reduceLT,reduceCtorEq,Nat.reduceEqDiff,Nat.reduceBEq,Nat.reduceAdd,Nat.reduceSub,Nat.reduceLeDiff,ak ar aF,hr,hx,ek,hn,e4,e5,e6,hst,hsh,hmn]
theorem yz (s:List UInt8) (h:s.length<1000000000):den K 170 [T s] []=some (.ret (T (Sl.low s)) []):=by
 have e:Sl.low s=s.map lowB:=by unfold Sl.low;exact List.map_congr_left fun c _=>(Du c).symm
 rw[e]
 exact eE (F:=mX) rfl (by unfold mX;simp only;rw[if_pos (by unfold aU;omega)])
def qX (l:List Val) (first:Bool):Prop:=first=false∨(Sl.tokK 1 l=none∧Sl.sign [42] l=none)
set_option maxHeartbeats 16000000 in
theorem BQ (g:List Val→Option (Sim×List Val)) (l:List Val) (first:Bool) (hl:l.length≤60000000) (hf:qX l first) (t:Tok) (k4:Sl.tokK 4 l=some t) :
  fQ simE (ln g l) (den K 140 [P0,B first] [rdB l]):=by
 have hr:Tryz.f140.results = #[.cell 4 52]:=rfl
 have t4:=cT l 4 (by omega)
 have t1:=cT l 1 (by omega)
 unfold ln
 obtain ⟨e,c,r,rfl,hk⟩:=iE k4
 rw[e] at t4
 have htk:=ef 1 t c r (by rw[List.length_cons] at hl;omega)
 rw[eL] at htk
 rw[k4]
 show den K 140 [P0,B first] [rdB (.mk 1 t c::r)]=some (.ret (.agg (gz (.mk 3 t.text [] 0 0 []))) [rdB r])
 cases first
 ·simp only[rdB,b7] at t4 htk ⊢
  refine ab rfl rfl Tryz.func140 rfl Tryz.ntmps140 ⟨by simp,by simp[LK]⟩ ?_
  simp only[go_sem,Nat.reduceLT,reduceCtorEq,Nat.reduceEqDiff,Nat.reduceBEq,Nat.reduceAdd,Nat.reduceSub,Nat.reduceLeDiff,Nat.reduceMul,ak ar aF,af (len:=1) ay aE au ⟨rfl,by decide,by decide⟩,hr,t4,htk]
 ·rcases hf with hf|⟨hf1,hf2⟩
  ·cases hf
  rw[dq hf1] at t1
  have s42:=d7 (by omega) hf2
  have q0:(([]:List UInt8)==[])=true:=rfl
  simp only[rdB,b7] at t1 s42 t4 htk ⊢
  refine ab rfl rfl Tryz.func140 rfl Tryz.ntmps140 ⟨by simp,by simp[LK]⟩ ?_
  simp only[go_sem,Nat.reduceLT,reduceCtorEq,Nat.reduceEqDiff,Nat.reduceBEq,Nat.reduceAdd,Nat.reduceSub,Nat.reduceLeDiff,Nat.reduceMul,ak ar aF,af (len:=1) ay aE au ⟨rfl,by decide,by decide⟩,hr,t1,s42,q0,bne,t4,htk]
set_option maxHeartbeats 16000000 in
theorem DY (g:List Val→Option (Sim×List Val)) (l:List Val) (first:Bool) (hl:l.length≤60000000) (hf:qX l first) (k4:Sl.tokK 4 l=none) (r:List Val) (k5:Sl.sign [46] l=some r) :
  fQ simE (ln g l) (den K 140 [P0,B first] [rdB l]):=by
 have hr:Tryz.f140.results = #[.cell 4 52]:=rfl
 have t4:=cT l 4 (by omega)
 have t1:=cT l 1 (by omega)
 rw[dq k4] at t4
 have s46:=gq (by omega) k5
 have q0:(([]:List UInt8)==[])=true:=rfl
 have q1:(([46]:List UInt8)==[])=false:=rfl
 have hrl:r.length≤l.length:=by
  obtain ⟨v,e,_⟩:=Sl.er k5
  rw[e,List.length_cons];omega
 have hn:=gK r (by omega)
 unfold ln
 rw[k4,k5]
 simp only
 cases hnm:Sl.name r with
 | none =>
  rw[hnm] at hn
  obtain ⟨m,hn⟩:=dZ hn
  refine ⟨m,?_⟩
  cases first
  ·simp only[rdB] at t4 s46 hn ⊢
   refine ab rfl rfl Tryz.func140 rfl Tryz.ntmps140 ⟨by simp,by simp[LK]⟩ ?_
   simp only[go_sem,Nat.reduceLT,reduceCtorEq,Nat.reduceEqDiff,Nat.reduceBEq,Nat.reduceAdd,Nat.reduceSub,Nat.reduceLeDiff,Nat.reduceMul,ak ar aF,af (len:=1) ay aE au ⟨rfl,by decide,by decide⟩,hr,t4,s46,q1,bne,hn]
  ·rcases hf with hf|⟨hf1,hf2⟩
   ·cases hf
   rw[dq hf1] at t1
   have s42:=d7 (by omega) hf2
   simp only[rdB] at t1 s42 t4 s46 hn ⊢
   refine ab rfl rfl Tryz.func140 rfl Tryz.ntmps140 ⟨by simp,by simp[LK]⟩ ?_
   simp only[go_sem,Nat.reduceLT,reduceCtorEq,Nat.reduceEqDiff,Nat.reduceBEq,Nat.reduceAdd,Nat.reduceSub,Nat.reduceLeDiff,Nat.reduceMul,ak ar aF,af (len:=1) ay aE au ⟨rfl,by decide,by decide⟩,hr,t1,s42,q0,q1,bne,t4,s46,hn]
 | some y =>
  obtain ⟨s,m⟩:=y
  rw[hnm] at hn
  have hn:=de hn
  show den K 140 [P0,B first] [rdB l]=some (.ret (.agg (gz (.mk 4 s [] 0 0 []))) [rdB m])
  cases first
  ·simp only[rdB,b7] at t4 s46 hn ⊢
   refine ab rfl rfl Tryz.func140 rfl Tryz.ntmps140 ⟨by simp,by simp[LK]⟩ ?_
   simp only[go_sem,Nat.reduceLT,reduceCtorEq,Nat.reduceEqDiff,Nat.reduceBEq,Nat.reduceAdd,Nat.reduceSub,Nat.reduceLeDiff,Nat.reduceMul,ak ar aF,af (len:=1) ay aE au ⟨rfl,by decide,by decide⟩,hr,t4,s46,q1,bne,hn]
  ·rcases hf with hf|⟨hf1,hf2⟩
   ·cases hf
   rw[dq hf1] at t1
   have s42:=d7 (by omega) hf2
   simp only[rdB,b7] at t1 s42 t4 s46 hn ⊢
   refine ab rfl rfl Tryz.func140 rfl Tryz.ntmps140 ⟨by simp,by simp[LK]⟩ ?_
   simp only[go_sem,Nat.reduceLT,reduceCtorEq,Nat.reduceEqDiff,Nat.reduceBEq,Nat.reduceAdd,Nat.reduceSub,Nat.reduceLeDiff,Nat.reduceMul,ak ar aF,af (len:=1) ay aE au ⟨rfl,by decide,by decide⟩,hr,t1,s42,q0,q1,bne,t4,s46,hn]
set_option maxHeartbeats 16000000 in
theorem zj (g:List Val→Option (Sim×List Val)) (l:List Val) (first:Bool) (hl:l.length≤60000000) (hf:qX l first) (k4:Sl.tokK 4 l=none) (k5:Sl.sign [46] l=none) (r:List Val) (k6:Sl.sign [58] l=some r)
  (hp:fQ simE (Sl.colon g r) (den K 171 [P0] [rdB r])) :
  fQ simE (ln g l) (den K 140 [P0,B first] [rdB l]):=by
 have hr:Tryz.f140.results = #[.cell 4 52]:=rfl
 have t4:=cT l 4 (by omega)
 have t1:=cT l 1 (by omega)
 rw[dq k4] at t4
 have s46:=d7 (by omega) k5
 have s58:=gq (by omega) k6
 have q0:(([]:List UInt8)==[])=true:=rfl
 have q1:(([58]:List UInt8)==[])=false:=rfl
 unfold ln
 rw[k4,k5,k6]
 simp only
 cases hc:Sl.colon g r with
 | none =>
  rw[hc] at hp
  obtain ⟨m,hp⟩:=dZ hp
  refine ⟨m,?_⟩
  cases first
  ·simp only[rdB] at t4 s46 s58 hp ⊢
   refine ab rfl rfl Tryz.func140 rfl Tryz.ntmps140 ⟨by simp,by simp[LK]⟩ ?_
   simp only[go_sem,Nat.reduceLT,reduceCtorEq,Nat.reduceEqDiff,Nat.reduceBEq,Nat.reduceAdd,Nat.reduceSub,Nat.reduceLeDiff,Nat.reduceMul,ak ar aF,af (len:=1) ay aE au ⟨rfl,by decide,by decide⟩,hr,t4,s46,s58,q0,q1,bne,hp]
  ·rcases hf with hf|⟨hf1,hf2⟩
   ·cases hf
   rw[dq hf1] at t1
   have s42:=d7 (by omega) hf2
   simp only[rdB] at t1 s42 t4 s46 s58 hp ⊢
   refine ab rfl rfl Tryz.func140 rfl Tryz.ntmps140 ⟨by simp,by simp[LK]⟩ ?_
   simp only[go_sem,Nat.reduceLT,reduceCtorEq,Nat.reduceEqDiff,Nat.reduceBEq,Nat.reduceAdd,Nat.reduceSub,Nat.reduceLeDiff,Nat.reduceMul,ak ar aF,af (len:=1) ay aE au ⟨rfl,by decide,by decide⟩,hr,t1,s42,t4,s46,s58,q0,q1,bne,hp]
 | some y =>
  obtain ⟨x,m⟩:=y
  rw[hc] at hp
  have hp:=de hp
  show den K 140 [P0,B first] [rdB l]=some (.ret (.agg (gz x)) [rdB m])
  obtain ⟨k,n,v,a,b,xl⟩:=x
  cases xl
  all_goals
   cases first
   ·simp only[rdB,simE,b7,d6] at t4 s46 s58 hp ⊢
    refine ab rfl rfl Tryz.func140 rfl Tryz.ntmps140 ⟨by simp,by simp[LK]⟩ ?_
    simp only[go_sem,Nat.reduceLT,reduceCtorEq,Nat.reduceEqDiff,Nat.reduceBEq,Nat.reduceAdd,Nat.reduceSub,Nat.reduceLeDiff,Nat.reduceMul,ak ar aF,af (len:=1) ay aE au ⟨rfl,by decide,by decide⟩,hr,t4,s46,s58,q0,q1,bne,hp]
   ·rcases hf with hf|⟨hf1,hf2⟩
    ·cases hf
    rw[dq hf1] at t1
    have s42:=d7 (by omega) hf2
    simp only[rdB,simE,b7,d6] at t1 s42 t4 s46 s58 hp ⊢
    refine ab rfl rfl Tryz.func140 rfl Tryz.ntmps140 ⟨by simp,by simp[LK]⟩ ?_
    simp only[go_sem,Nat.reduceLT,reduceCtorEq,Nat.reduceEqDiff,Nat.reduceBEq,Nat.reduceAdd,Nat.reduceSub,Nat.reduceLeDiff,Nat.reduceMul,ak ar aF,af (len:=1) ay aE au ⟨rfl,by decide,by decide⟩,hr,t1,s42,t4,s46,s58,q0,q1,bne,hp]
set_option maxHeartbeats 16000000 in
theorem AN (g:List Val→Option (Sim×List Val)) (l:List Val) (first:Bool) (hl:Ne.size l≤60000000) (hf:qX l first) (k4:Sl.tokK 4 l=none) (k5:Sl.sign [46] l=none) (k6:Sl.sign [58] l=none) :
  fQ simE (ln g l) (den K 140 [P0,B first] [rdB l]):=by
 have hr:Tryz.f140.results = #[.cell 4 52]:=rfl
 have hll:=Ne.bW l
 have t4:=cT l 4 (by omega)
 have t1:=cT l 1 (by omega)
 rw[dq k4] at t4
 have s46:=d7 (by omega) k5
 have s58:=d7 (by omega) k6
 have hx:=fl l (by omega)
 have q0:(([]:List UInt8)==[])=true:=rfl
 unfold ln
 rw[k4,k5,k6]
 simp only
 cases hv:Sl.fw 3 l with
 | none =>
  obtain ⟨k,x1,x2,x3,x4,ek,en⟩ : ∃ (k:Int) (x1 x2 x3 x4:CV),(k==3)=false∧nxCv l=[.pv (.int .i64 k),x1,x2,x3,x4]:=by
   rcases o0 hv with rfl|⟨k,t,c,r,rfl,ek⟩
   ·exact ⟨0,_,_,_,_,rfl,qm⟩
   ·exact ⟨k,_,_,_,_,ek,eL k t c r⟩
  rw[en] at hx
  refine ⟨l,?_⟩
  cases first
  ·simp only[rdB] at t4 s46 s58 hx ⊢
   refine ab rfl rfl Tryz.func140 rfl Tryz.ntmps140 ⟨by simp,by simp[LK]⟩ ?_
   simp only[go_sem,Nat.reduceLT,reduceCtorEq,Nat.reduceEqDiff,Nat.reduceBEq,Nat.reduceAdd,Nat.reduceSub,Nat.reduceLeDiff,Nat.reduceMul,ak ar aF,af (len:=1) ay aE au ⟨rfl,by decide,by decide⟩,ak eH eX,hr,t4,s46,s58,q0,bne,hx,ek]
  ·rcases hf with hf|⟨hf1,hf2⟩
   ·cases hf
   rw[dq hf1] at t1
   have s42:=d7 (by omega) hf2
   simp only[rdB] at t1 s42 t4 s46 s58 hx ⊢
   refine ab rfl rfl Tryz.func140 rfl Tryz.ntmps140 ⟨by simp,by simp[LK]⟩ ?_
   simp only[go_sem,Nat.reduceLT,reduceCtorEq,Nat.reduceEqDiff,Nat.reduceBEq,Nat.reduceAdd,Nat.reduceSub,Nat.reduceLeDiff,Nat.reduceMul,ak ar aF,af (len:=1) ay aE au ⟨rfl,by decide,by decide⟩,ak eH eX,hr,t1,s42,t4,s46,s58,q0,bne,hx,ek]
 | some y =>
  obtain ⟨⟨t,c⟩,r⟩:=y
  have e:=lv hv
  subst e
  have htk:=ef 3 t c r (by rw[List.length_cons] at hll;omega)
  rw[eL] at hx htk
  have ha:=A8 c (by rw[Ne.size,Ne.kP] at hl;omega)
  simp only
  cases hm:Sl.attr c with
  | none =>
   rw[hm] at ha
   simp only at ha
   refine ⟨r,?_⟩
   cases first
   ·simp only[rdB] at t4 s46 s58 hx htk ⊢
    refine ab rfl rfl Tryz.func140 rfl Tryz.ntmps140 ⟨by simp,by simp[LK]⟩ ?_
    simp only[go_sem,Nat.reduceLT,reduceCtorEq,Nat.reduceEqDiff,Nat.reduceBEq,Nat.reduceAdd,Nat.reduceSub,Nat.reduceLeDiff,Nat.reduceMul,ak ar aF,af (len:=1) ay aE au ⟨rfl,by decide,by decide⟩,hr,t4,s46,s58,q0,bne,hx,htk,ha]
   ·rcases hf with hf|⟨hf1,hf2⟩
    ·cases hf
    rw[dq hf1] at t1
    have s42:=d7 (by omega) hf2
    simp only[rdB] at t1 s42 t4 s46 s58 hx htk ⊢
    refine ab rfl rfl Tryz.func140 rfl Tryz.ntmps140 ⟨by simp,by simp[LK]⟩ ?_
    simp only[go_sem,Nat.reduceLT,reduceCtorEq,Nat.reduceEqDiff,Nat.reduceBEq,Nat.reduceAdd,Nat.reduceSub,Nat.reduceLeDiff,Nat.reduceMul,ak ar aF,af (len:=1) ay aE au ⟨rfl,by decide,by decide⟩,hr,t1,s42,t4,s46,s58,q0,bne,hx,htk,ha]
  | some x =>
   rw[hm] at ha
   simp only at ha
   show den K 140 [P0,B first] [rdB (.mk 3 t c::r)]=some (.ret (.agg (gz x)) [rdB r])
   obtain ⟨k,n,v,a,b,xl⟩:=x
   cases xl
   all_goals
    cases first
    ·simp only[rdB,b7,d6] at t4 s46 s58 hx htk ha ⊢
     refine ab rfl rfl Tryz.func140 rfl Tryz.ntmps140 ⟨by simp,by simp[LK]⟩ ?_
     simp only[go_sem,Nat.reduceLT,reduceCtorEq,Nat.reduceEqDiff,Nat.reduceBEq,Nat.reduceAdd,Nat.reduceSub,Nat.reduceLeDiff,Nat.reduceMul,ak ar aF,af (len:=1) ay aE au ⟨rfl,by decide,by decide⟩,hr,t4,s46,s58,q0,bne,hx,htk,ha]
    ·rcases hf with hf|⟨hf1,hf2⟩
     ·cases hf
     rw[dq hf1] at t1
     have s42:=d7 (by omega) hf2
     simp only[rdB,b7,d6] at t1 s42 t4 s46 s58 hx htk ha ⊢
     refine ab rfl rfl Tryz.func140 rfl Tryz.ntmps140 ⟨by simp,by simp[LK]⟩ ?_
     simp only[go_sem,Nat.reduceLT,reduceCtorEq,Nat.reduceEqDiff,Nat.reduceBEq,Nat.reduceAdd,Nat.reduceSub,Nat.reduceLeDiff,Nat.reduceMul,ak ar aF,af (len:=1) ay aE au ⟨rfl,by decide,by decide⟩,hr,t1,s42,t4,s46,s58,q0,bne,hx,htk,ha]
set_option maxHeartbeats 16000000 in
theorem xB (l:List Val) (hl:l.length≤60000000) (hts:TSh l) (t:Tok) (k1:Sl.tokK 1 l=some t) :
  den K 140 [P0,B true] [rdB l]=some (.ret (.agg (gz (.mk 2 (Sl.low t.text) [] 0 0 []))) [rdB l.tail]):=by
 have hr:Tryz.f140.results = #[.cell 4 52]:=rfl
 have t1:=cT l 1 (by omega)
 have hn:=gK l (by omega)
 have en:Sl.name l=some (t.text,l.tail):=by unfold Sl.name;rw[k1];rfl
 rw[en] at hn
 have hn:=de hn
 obtain ⟨e,c,r,rfl,hk⟩:=iE k1
 rw[e] at t1
 have hlo:=yz t.text (EV hts)
 simp only[rdB,b7,List.tail_cons] at t1 hn ⊢
 refine ab rfl rfl Tryz.func140 rfl Tryz.ntmps140 ⟨by simp,by simp[LK]⟩ ?_
 simp only[go_sem,Nat.reduceLT,reduceCtorEq,Nat.reduceEqDiff,Nat.reduceBEq,Nat.reduceAdd,Nat.reduceSub,Nat.reduceLeDiff,Nat.reduceMul,ak ar aF,af (len:=1) ay aE au ⟨rfl,by decide,by decide⟩,hr,t1,hn,hlo]
set_option maxHeartbeats 16000000 in
theorem wD (l:List Val) (hl:l.length≤60000000) (k1:Sl.tokK 1 l=none) (r:List Val) (k2:Sl.sign [42] l=some r) :
  den K 140 [P0,B true] [rdB l]=some (.ret (.agg (gz (.mk 1 [] [] 0 0 []))) [rdB r]):=by
 have hr:Tryz.f140.results = #[.cell 4 52]:=rfl
 have t1:=cT l 1 (by omega)
 rw[dq k1] at t1
 have s42:=gq (by omega) k2
 have q1:(([42]:List UInt8)==[])=false:=rfl
 simp only[rdB,b7] at t1 s42 ⊢
 refine ab rfl rfl Tryz.func140 rfl Tryz.ntmps140 ⟨by simp,by simp[LK]⟩ ?_
 simp only[go_sem,Nat.reduceLT,reduceCtorEq,Nat.reduceEqDiff,Nat.reduceBEq,Nat.reduceAdd,Nat.reduceSub,Nat.reduceLeDiff,Nat.reduceMul,ak ar aF,af (len:=1) ay aE au ⟨rfl,by decide,by decide⟩,hr,t1,s42,q1,bne]
end Go.Abs
