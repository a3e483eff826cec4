/-
  WHAT THE FUNCTIONS COMPUTE, layer 4, the program's reader of selectors: functions, what stands behind a sign :, a simple selector.
-/
import Derived.Test.YtlomcifkckgneaaGreatDoorRt14
set_option maxHeartbeats 16000000
open Nat (reduceEqDiff reduceAdd reduceLT reduceLeDiff reduceSub reduceMul)
set_option linter.unusedSimpArgs false
set_option linter.unusedVariables false
namespace Go.Abs
open Go Go.Proofs
set_option maxRecDepth 10000
attribute [local go_sem] c7 bF cD bW bZ db cJ cE a7 ck ce cF c8 bS opd avOf cvOf St.degAt St.put okPV d6 okAV du dv dt cU aM if_true Bool.false_eq_true if_false Option.map_some Option.map_none Option.bind_some Option.bind_none dY dV upd List.toList_toArray cR steal bz mvB dE cV cT AV.deg CV.deg AV.gv AV.isIter cN cI bU List.length_nil List.length_cons List.filterMap_cons List.filterMap_nil beq_iff_eq List.getElem?_cons_zero List.getElem?_cons_succ Option.getD_some d8 eV Bool.false_and Bool.and_false Bool.and_self K_P fq co cO bw lend back idx dedup AV.ren CV.ren TV.ren AV.ptrs CV.ptrs cX AV.flat CV.flat cz cg bc c9 dk eo cj aY cm bt bH cf br eF CV.pv? content bA ownT bd reps pvs chunks cd leave eB cK dr bT bv TV.deg TV.av LK CV.plain CV.noBld c5 eA bound List.map_cons List.map_nil List.all_cons List.all_nil List.any_cons List.any_nil List.contains_cons List.contains_nil List.elem_cons List.elem_nil List.cons_append List.nil_append List.append_nil List.flatMap_cons List.flatMap_nil List.zip_cons_cons List.zip_nil_left List.zip_nil_right List.take_succ_cons List.take_zero List.take_nil List.drop_succ_cons List.drop_zero List.drop_nil List.isEmpty_nil List.isEmpty_cons Bool.and_true Bool.true_and Bool.or_true Bool.true_or Bool.or_false Bool.false_or Bool.not_true Bool.not_false Nat.add_zero Nat.zero_add Option.isNone_none Option.isNone_some Option.getD_none true_and and_true not_true_eq_false not_false_eq_true decide_true decide_false Nat.le_refl and_self Bool.not_eq_true Nat.sub_self or_true true_or Option.some.injEq List.length_map List.nil_eq and_false false_and AV.live CV.live CV.liveIn dU bg Option.orElse_some Option.orElse_none head bm bh Int.lt_irrefl List.length_append ite_self dZ cA dc bC Key.clash Key.sees Key.writes Nat.lt_irrefl gt_iff_lt cH dH false_or or_false beq_self_eq_true Bool.true_beq Bool.false_beq yw dh dL ae cu aZ dz aL bX eK dP ff wy lQ wa c6 cB bG kX wb dp ro IE rv Ah pA rr xx rH bo Ga Gb
abbrev simE (x:Sim):AV:=.agg (eL x)
abbrev simZ:List CV:=[.pv (.int .i64 0),.pv (.str []),.pv (.str []),.pv (.int .i64 0),.pv (.int .i64 0),.nils]
theorem Fm (x:Sim) (f:Nat→Option Nat):(eL x).map (CV.ren f)=eL x:=by
 obtain⟨k,n,v,a,b,l⟩:=x;cases l<;>rfl
theorem sU (f:Nat→Option Nat):simZ.map (CV.ren f)=simZ:=rfl
theorem Ig {l r:List Val} {x:Sim} (h:den K 140 [P0,B true] [rdB l]=some (.ret (simE x) [rdB r])) :
  den K 225 [P0,P1] [rdB l,simZ]=some (.ret (.tup []) [rdB r,eL x]):=by
 have hr:Tryz.f225.results=#[]:=rfl
 obtain⟨k,n,v,a,b,xl⟩:=x;cases xl
 all_goals
  simp only[rdB,simE,aU,dm] at h ⊢;refine ah rfl rfl Tryz.func225 rfl Tryz.ntmps225 ⟨by simp,by simp[LK]⟩ ?_
  simp only[go_sem,reduceLT,reduceEqDiff,Nat.reduceBEq,reduceAdd,reduceSub,reduceLeDiff,hr,h]
theorem HV {l m:List Val} (h:den K 140 [P0,B true] [rdB l]=some (.pan dW [rdB m])) :
  den K 225 [P0,P1] [rdB l,simZ]=some (.pan dW [rdB m,simZ]):=by
 have hr:Tryz.f225.results=#[]:=rfl
 simp only[rdB] at h ⊢;refine ah rfl rfl Tryz.func225 rfl Tryz.ntmps225 ⟨by simp,by simp[LK]⟩ ?_
 simp only[go_sem,reduceLT,reduceEqDiff,Nat.reduceBEq,reduceAdd,reduceSub,reduceLeDiff,hr,h]
def fnG (g:List Val→Option (Sim×List Val)) (t:Tok) (c:List Val):Option Sim :=
 if t.text=Sl.nthT then(Sl.nthM c).map fun x=>Sim.mk 8 [] [] x.1 x.2 [] else if t.text=Sl.notT then notG g c else none
def It {α:Type} (enc:α→AV) (o:Option α) (r:Option Res):Prop:=match o with
 | some x=>r=some (.ret (enc x) [])
 | none=>r=some (.pan dW [])
theorem wu (g:List Val→Option (Sim×List Val)) (t:Tok) (c:List Val) (hc:c.length≤70000000) (hts:TSh c) (hg:t.text=Sl.notT→il simE (g (Sl.trim c)) (den K 140 [P0,B true] [rdB (Sl.trim c)])) :
  It simE (fnG g t c) (den K 204 [.agg (jl 5 t c)] []):=by
 have hr:Tryz.f204.results=#[.cell 2 52]:=rfl
 have hmy:=fe
 have hmn:=gR
 have hgd:goods.contains 225=true:=by kernel_rfl
 unfold fnG;by_cases h1:t.text=Sl.nthT
 ·have e1:(t.text==[110,116,104,45,99,104,105,108,100])=true:=by rw[h1];rfl
  have hn:=xp c hc hts
  rw[if_pos h1];cases hm:Sl.nthM c with
  | none =>
   rw[hm] at hn;unfold nthA at hn;simp only at hn
   show den K 204 [.agg (jl 5 t c)] []=some (.pan dW [])
   refine ah rfl rfl Tryz.func204 rfl Tryz.ntmps204 ⟨by simp,by simp[LK]⟩ ?_
   simp only[go_sem,reduceLT,reduceEqDiff,Nat.reduceBEq,reduceAdd,reduceSub,reduceLeDiff,hr,hn,e1,hmn,TV.flat,Int.reduceBEq]
  | some x =>
   obtain⟨a,b⟩:=x;rw[hm] at hn;unfold nthA at hn;simp only at hn
   show den K 204 [.agg (jl 5 t c)] []=some (.ret (.agg (eL (.mk 8 [] [] a b []))) [])
   rw[aU];refine ah rfl rfl Tryz.func204 rfl Tryz.ntmps204 ⟨by simp,by simp[LK]⟩ ?_
   simp only[go_sem,reduceLT,reduceEqDiff,Nat.reduceBEq,reduceAdd,reduceSub,reduceLeDiff,ab ae aj,hr,hn,e1,hmy,TV.flat]
 have e1:(t.text==[110,116,104,45,99,104,105,108,100])=false:=by rw[beq_eq_false_iff_ne];exact h1
 rw[if_neg h1];by_cases h2:t.text=Sl.notT
 ·have e2:(t.text==[110,111,116])=true:=by rw[h2];rfl
  have hg:=hg h2
  rw[if_pos h2];unfold notG;cases hx:g (Sl.trim c) with
  | none =>
   rw[hx] at hg;obtain⟨m,hg⟩:=fm hg;have hw:=tq hgd (by omega) sU sU (HV hg)
   show den K 204 [.agg (jl 5 t c)] []=some (.pan dW [])
   simp only[simZ] at hw;refine ah rfl rfl Tryz.func204 rfl Tryz.ntmps204 ⟨by simp,by simp[LK]⟩ ?_
   simp only[go_sem,reduceLT,reduceEqDiff,Nat.reduceBEq,reduceAdd,reduceSub,reduceLeDiff,hr,e1,e2,hw,hmn,hZ,locs,jK,Int.reduceBEq]
  | some y =>
   obtain⟨x,m⟩:=y;rw[hx] at hg;have hw:=sH hgd (by omega) sU (Fm x) (Ig (er hg))
   cases m with
   | cons z m =>
    show den K 204 [.agg (jl 5 t c)] []=some (.pan dW [])
    obtain⟨k,n,v,a,b,xl⟩:=x;cases xl
    all_goals
     simp only[simZ,aU,dm,List.isEmpty_cons,Bool.false_eq_true,if_false] at hw;refine ah rfl rfl Tryz.func204 rfl Tryz.ntmps204 ⟨by simp,by simp[LK]⟩ ?_
     simp only[go_sem,reduceLT,reduceEqDiff,Nat.reduceBEq,reduceAdd,reduceSub,reduceLeDiff,hr,e1,e2,hw,hmn,hZ,locs,jK,Int.reduceBEq]
   | nil =>
    simp only;by_cases hk:x.kind=11
    ·rw[if_pos hk]
     show den K 204 [.agg (jl 5 t c)] []=some (.pan dW [])
     obtain⟨k,n,v,a,b,xl⟩:=x;have ek:(k==11)=true:=by rw[beq_iff_eq];exact hk
     cases xl
     all_goals
      simp only[simZ,aU,dm,List.isEmpty_nil,if_true] at hw;refine ah rfl rfl Tryz.func204 rfl Tryz.ntmps204 ⟨by simp,by simp[LK]⟩ ?_
      simp only[go_sem,reduceLT,reduceEqDiff,Nat.reduceBEq,reduceAdd,reduceSub,reduceLeDiff,hr,e1,e2,hw,hmn,ek,bne,hZ,locs,jK]
    ·rw[if_neg hk]
     show den K 204 [.agg (jl 5 t c)] []=some (.ret (.agg (eL (.mk 11 [] [] 0 0 [x]))) [])
     obtain⟨k,n,v,a,b,xl⟩:=x;have ek:(k==11)=false:=by rw[beq_eq_false_iff_ne];exact hk
     rw[dm,mn];cases xl
     all_goals
      simp only[simZ,aU,dm,List.isEmpty_nil,if_true,o7,mu] at hw ⊢;refine ah rfl rfl Tryz.func204 rfl Tryz.ntmps204 ⟨by simp,by simp[LK]⟩ ?_
      simp only[go_sem,reduceLT,reduceEqDiff,Nat.reduceBEq,reduceAdd,reduceSub,reduceLeDiff,reduceMul,ab ae aj,ao (len:=1) aa dh ae ⟨rfl,by decide,by decide⟩,hr,e1,e2,hw,hmy,ek,bne,hZ,locs,jK]
 ·have e2:(t.text==[110,111,116])=false:=by rw[beq_eq_false_iff_ne];exact h2
  rw[if_neg h2]
  show den K 204 [.agg (jl 5 t c)] []=some (.pan dW [])
  refine ah rfl rfl Tryz.func204 rfl Tryz.ntmps204 ⟨by simp,by simp[LK]⟩ ?_
  simp only[go_sem,reduceLT,reduceEqDiff,Nat.reduceBEq,reduceAdd,reduceSub,reduceLeDiff,ab fM f9,hr,e1,e2]
theorem sZ:den K 191 [] []=some (.ret (L [[.str [104,111,118,101,114]],[.str [102,111,99,117,115]],[.str [97,99,116,105,118,101]],[.str [99,104,101,99,107,101,100]]]) []):=by
 have hr:Tryz.f191.results=#[.tmp 0]:=rfl
 refine ah rfl rfl Tryz.func191 rfl Tryz.ntmps191 ⟨by simp,by simp[LK]⟩ ?_
 simp only[go_sem,reduceLT,reduceCtorEq,Nat.reduceBEq,reduceAdd,reduceLeDiff,reduceMul,ao (len:=4) aK aL aH ⟨rfl,by decide,by decide⟩,hr]
theorem uQ (s:List UInt8):den K 106 [L [[.str [104,111,118,101,114]],[.str [102,111,99,117,115]],[.str [97,99,116,105,118,101]],[.str [99,104,101,99,107,101,100]]],T s] []=some (.ret (B (decide (Sl.eW s))) []):=by
 have h:=jX [Sl.mM,Sl.mW,Sl.kJ,Sl.jn] s (by simp)
 have e:([Sl.mM,Sl.mW,Sl.kJ,Sl.jn].any (s == ·))=decide (Sl.eW s):=by
  rw[Bool.eq_iff_iff,decide_eq_true_eq];simp only[List.any_cons,List.any_nil,Bool.or_false,Bool.or_eq_true,beq_iff_eq];exact Iff.rfl
 rw[e] at h;exact h
theorem mN {kind:Int} {l:List Val} {t:Tok} {c r:List Val} (h:Sl.eP kind l=some ((t,c),r)):l=.mk kind t c::r:=Sl.lF h
theorem qq {kind:Int} {l:List Val} (h:Sl.eP kind l=none):l=[]∨∃ k t c r,l=.mk k t c::r∧(k==kind)=false:=by
 cases l with
 | nil=>exact .inl rfl
 | cons v r =>
  obtain⟨k,t,c⟩:=v;refine .inr ⟨k,t,c,r,rfl,?_⟩
  rw[beq_eq_false_iff_ne];intro hh;unfold Sl.eP at h;simp only at h;rw[if_pos hh] at h;cases h
theorem AK (g:List Val→Option (Sim×List Val)) (l:List Val) (hl:l.length≤60000000) (t:Tok) (c r:List Val) (hv:Sl.eP 5 l=some ((t,c),r)) (hf:It simE (fnG g t c) (den K 204 [.agg (jl 5 t c)] [])) :
  il simE (Sl.colon g l) (den K 171 [P0] [rdB l]):=by
 have hr:Tryz.f171.results=#[.cell 2 52]:=rfl
 rw[C9 g hv];have e:=mN hv
 subst e;have hx:=gF (.mk 5 t c::r) (by omega)
 have htk:=fA 5 t c r (by rw[List.length_cons] at hl;omega)
 rw[fY] at hx htk;have e0:(if t.text=Sl.nthT then(Sl.nthM c).map fun x=>(Sim.mk 8 [] [] x.1 x.2 [],r) else if t.text=Sl.notT then(notG g c).map fun x=>(x,r) else none)=(fnG g t c).map fun x=>(x,r):=by
  unfold fnG;split
  ·rw[Option.map_map];rfl
  ·split
   ·rfl
   ·rfl
 rw[e0];cases hF:fnG g t c with
 | none =>
  rw[hF] at hf;have hf:den K 204 [.agg (jl 5 t c)] []=some (.pan dW []):=hf
  refine⟨r,?_⟩
  simp only[rdB,pp] at hx htk hf ⊢;refine ah rfl rfl Tryz.func171 rfl Tryz.ntmps171 ⟨by simp,by simp[LK]⟩ ?_
  simp only[go_sem,reduceLT,reduceCtorEq,reduceEqDiff,Nat.reduceBEq,reduceAdd,reduceSub,reduceLeDiff,hr,hx,htk,hf]
 | some x =>
  rw[hF] at hf;have hf:den K 204 [.agg (jl 5 t c)] []=some (.ret (simE x) []):=hf
  show den K 171 [P0] [rdB (.mk 5 t c::r)]=some (.ret (simE x) [rdB r])
  obtain⟨k,n,v,a,b,xl⟩:=x;cases xl
  all_goals
   simp only[rdB,pp,simE,aU,dm] at hx htk hf ⊢;refine ah rfl rfl Tryz.func171 rfl Tryz.ntmps171 ⟨by simp,by simp[LK]⟩ ?_
   simp only[go_sem,reduceLT,reduceCtorEq,reduceEqDiff,Nat.reduceBEq,reduceAdd,reduceSub,reduceLeDiff,hr,hx,htk,hf]
theorem xR (g:List Val→Option (Sim×List Val)) (l:List Val) (hl:l.length≤60000000) (hv:Sl.eP 5 l=none) :
  il simE (Sl.colon g l) (den K 171 [P0] [rdB l]):=by
 have hr:Tryz.f171.results=#[.cell 2 52]:=rfl
 rw[Cj g hv];have hx:=gF l (by omega)
 have hn:=iU l (by omega)
 have hmy:=fe
 have hmn:=gR
 obtain⟨k,x1,x2,x3,x4,ek,en⟩:∃ (k:Int) (x1 x2 x3 x4:CV),(k==5)=false∧nxCv l=[.pv (.int .i64 k),x1,x2,x3,x4]:=by
  rcases qq hv with rfl|⟨k,t,c,r,rfl,ek⟩
  ·exact⟨0,_,_,_,_,rfl,rS⟩
  ·exact⟨k,_,_,_,_,ek,fY k t c r⟩
 rw[en] at hx;cases hnm:Sl.name l with
 | none =>
  rw[hnm] at hn;obtain⟨m,hn⟩:=fm hn;refine⟨m,?_⟩
  simp only[rdB] at hx hn ⊢;refine ah rfl rfl Tryz.func171 rfl Tryz.ntmps171 ⟨by simp,by simp[LK]⟩ ?_
  simp only[go_sem,reduceLT,reduceCtorEq,reduceEqDiff,Nat.reduceBEq,reduceAdd,reduceSub,reduceLeDiff,hr,hx,ek,hn]
 | some y =>
  obtain⟨s,r⟩:=y;rw[hnm] at hn;have hn:=er hn
  simp only;have hst:=sZ
  have hsh:=uQ s
  unfold Sl.gL;by_cases h4:s=Sl.zR
  ·subst h4
   show den K 171 [P0] [rdB l]=some (.ret (.agg (eL (.mk 9 [] [] 0 0 []))) [rdB r])
   have q0:(([114,111,111,116]:List UInt8)==[114,111,111,116])=true:=rfl
   simp only[rdB,aU,Sl.zR] at hx hn ⊢;refine ah rfl rfl Tryz.func171 rfl Tryz.ntmps171 ⟨by simp,by simp[LK]⟩ ?_
   simp only[go_sem,reduceLT,reduceCtorEq,reduceEqDiff,Nat.reduceBEq,reduceAdd,reduceSub,reduceLeDiff,ab ae aj,hr,hx,ek,hn,q0]
  have e4:(s==[114,111,111,116])=false:=by rw[beq_eq_false_iff_ne];exact h4
  by_cases h5:s=Sl.ta
  ·subst h5
   show den K 171 [P0] [rdB l]=some (.ret (.agg (eL (.mk 10 [] [] 0 0 []))) [rdB r])
   have q0:(([101,109,112,116,121]:List UInt8)==[114,111,111,116])=false:=rfl
   have q1:(([101,109,112,116,121]:List UInt8)==[101,109,112,116,121])=true:=rfl
   simp only[rdB,aU,Sl.ta] at hx hn ⊢;refine ah rfl rfl Tryz.func171 rfl Tryz.ntmps171 ⟨by simp,by simp[LK]⟩ ?_
   simp only[go_sem,reduceLT,reduceCtorEq,reduceEqDiff,Nat.reduceBEq,reduceAdd,reduceSub,reduceLeDiff,ab ae aj,hr,hx,ek,hn,q0,q1]
  have e5:(s==[101,109,112,116,121])=false:=by rw[beq_eq_false_iff_ne];exact h5
  by_cases h6:s=Sl.tP
  ·subst h6
   show den K 171 [P0] [rdB l]=some (.ret (.agg (eL (.mk 8 [] [] 0 1 []))) [rdB r])
   have q0:(([102,105,114,115,116,45,99,104,105,108,100]:List UInt8)==[114,111,111,116])=false:=rfl
   have q1:(([102,105,114,115,116,45,99,104,105,108,100]:List UInt8)==[101,109,112,116,121])=false:=rfl
   have q2:(([102,105,114,115,116,45,99,104,105,108,100]:List UInt8)==[102,105,114,115,116,45,99,104,105,108,100])=true:=rfl
   simp only[rdB,aU,Sl.tP] at hx hn ⊢;refine ah rfl rfl Tryz.func171 rfl Tryz.ntmps171 ⟨by simp,by simp[LK]⟩ ?_
   simp only[go_sem,reduceLT,reduceCtorEq,reduceEqDiff,Nat.reduceBEq,reduceAdd,reduceSub,reduceLeDiff,ab ae aj,hr,hx,ek,hn,q0,q1,q2]
  have e6:(s==[102,105,114,115,116,45,99,104,105,108,100])=false:=by rw[beq_eq_false_iff_ne];exact h6
  by_cases h0:Sl.eW s
  ·rw[decide_eq_true h0] at hsh;rw[if_pos h0]
   show den K 171 [P0] [rdB l]=some (.ret (.agg (eL (.mk 7 s [] 0 0 []))) [rdB r])
   simp only[rdB,aU] at hx hn ⊢;refine ah rfl rfl Tryz.func171 rfl Tryz.ntmps171 ⟨by simp,by simp[LK]⟩ ?_
   simp only[go_sem,reduceLT,reduceCtorEq,reduceEqDiff,Nat.reduceBEq,reduceAdd,reduceSub,reduceLeDiff,ab ae aj,hr,hx,ek,hn,e4,e5,e6,hst,hsh,hmy]
  ·rw[decide_eq_false h0] at hsh;rw[if_neg h0,if_neg h4,if_neg h5,if_neg h6];refine⟨r,?_⟩
   simp only[rdB] at hx hn ⊢;refine ah rfl rfl Tryz.func171 rfl Tryz.ntmps171 ⟨by simp,by simp[LK]⟩ ?_
   simp only[go_sem,reduceLT,reduceCtorEq,reduceEqDiff,Nat.reduceBEq,reduceAdd,reduceSub,reduceLeDiff,ab ae aj,hr,hx,ek,hn,e4,e5,e6,hst,hsh,hmn]
theorem rU (s:List UInt8) (h:s.length<1000000000):den K 170 [T s] []=some (.ret (T (Sl.low s)) []):=by
 have e:Sl.low s=s.map lowB:=by unfold Sl.low;exact List.map_congr_left fun c _=>(x7 c).symm
 rw[e];exact fB (F:=pw) rfl (by unfold pw;simp only;rw[if_pos (by unfold ci;omega)])
def rN (l:List Val) (first:Bool):Prop:=first=false∨(Sl.tokK 1 l=none∧Sl.sign [42] l=none)
theorem D8 (g:List Val→Option (Sim×List Val)) (l:List Val) (first:Bool) (hl:l.length≤60000000) (hf:rN l first) (t:Tok) (k4:Sl.tokK 4 l=some t) :
  il simE (hU g l) (den K 140 [P0,B first] [rdB l]):=by
 have hr:Tryz.f140.results=#[.cell 4 52]:=rfl
 have t4:=dM l 4 (by omega)
 have t1:=dM l 1 (by omega)
 unfold hU;obtain⟨e,c,r,rfl,hk⟩:=jL k4;rw[e] at t4
 have htk:=fA 1 t c r (by rw[List.length_cons] at hl;omega)
 rw[fY] at htk;rw[k4]
 show den K 140 [P0,B first] [rdB (.mk 1 t c::r)]=some (.ret (.agg (eL (.mk 3 t.text [] 0 0 []))) [rdB r])
 cases first
 ·simp only[rdB,aU] at t4 htk ⊢
  refine ah rfl rfl Tryz.func140 rfl Tryz.ntmps140 ⟨by simp,by simp[LK]⟩ ?_
  simp only[go_sem,reduceLT,reduceCtorEq,reduceEqDiff,Nat.reduceBEq,reduceAdd,reduceSub,reduceLeDiff,reduceMul,ab ae aj,ao (len:=1) aK aL aH ⟨rfl,by decide,by decide⟩,hr,t4,htk]
 ·rcases hf with hf|⟨hf1,hf2⟩
  ·cases hf
  rw[ey hf1] at t1
  have s42:=fp (by omega) hf2
  have q0:(([]:List UInt8)==[])=true:=rfl
  simp only[rdB,aU] at t1 s42 t4 htk ⊢
  refine ah rfl rfl Tryz.func140 rfl Tryz.ntmps140 ⟨by simp,by simp[LK]⟩ ?_
  simp only[go_sem,reduceLT,reduceCtorEq,reduceEqDiff,Nat.reduceBEq,reduceAdd,reduceSub,reduceLeDiff,reduceMul,ab ae aj,ao (len:=1) aK aL aH ⟨rfl,by decide,by decide⟩,hr,t1,s42,q0,bne,t4,htk]
theorem F2 (g:List Val→Option (Sim×List Val)) (l:List Val) (first:Bool) (hl:l.length≤60000000) (hf:rN l first) (k4:Sl.tokK 4 l=none) (r:List Val) (k5:Sl.sign [46] l=some r) :
  il simE (hU g l) (den K 140 [P0,B first] [rdB l]):=by
 have hr:Tryz.f140.results=#[.cell 4 52]:=rfl
 have t4:=dM l 4 (by omega)
 have t1:=dM l 1 (by omega)
 rw[ey k4] at t4
 have s46:=iH (by omega) k5
 have q0:(([]:List UInt8)==[])=true:=rfl
 have q1:(([46]:List UInt8)==[])=false:=rfl
 have hrl:r.length≤l.length:=by
  obtain⟨v,e,_⟩:=Sl.fN k5;rw[e,List.length_cons];omega
 have hn:=iU r (by omega)
 unfold hU;rw[k4,k5];simp only;cases hnm:Sl.name r with
 | none =>
  rw[hnm] at hn;obtain⟨m,hn⟩:=fm hn;refine⟨m,?_⟩
  cases first
  ·simp only[rdB] at t4 s46 hn ⊢
   refine ah rfl rfl Tryz.func140 rfl Tryz.ntmps140 ⟨by simp,by simp[LK]⟩ ?_
   simp only[go_sem,reduceLT,reduceCtorEq,reduceEqDiff,Nat.reduceBEq,reduceAdd,reduceSub,reduceLeDiff,reduceMul,ab ae aj,ao (len:=1) aK aL aH ⟨rfl,by decide,by decide⟩,hr,t4,s46,q1,bne,hn]
  ·rcases hf with hf|⟨hf1,hf2⟩
   ·cases hf
   rw[ey hf1] at t1
   have s42:=fp (by omega) hf2
   simp only[rdB] at t1 s42 t4 s46 hn ⊢
   refine ah rfl rfl Tryz.func140 rfl Tryz.ntmps140 ⟨by simp,by simp[LK]⟩ ?_
   simp only[go_sem,reduceLT,reduceCtorEq,reduceEqDiff,Nat.reduceBEq,reduceAdd,reduceSub,reduceLeDiff,reduceMul,ab ae aj,ao (len:=1) aK aL aH ⟨rfl,by decide,by decide⟩,hr,t1,s42,q0,q1,bne,t4,s46,hn]
 | some y =>
  obtain⟨s,m⟩:=y;rw[hnm] at hn;have hn:=er hn
  show den K 140 [P0,B first] [rdB l]=some (.ret (.agg (eL (.mk 4 s [] 0 0 []))) [rdB m])
  cases first
  ·simp only[rdB,aU] at t4 s46 hn ⊢
   refine ah rfl rfl Tryz.func140 rfl Tryz.ntmps140 ⟨by simp,by simp[LK]⟩ ?_
   simp only[go_sem,reduceLT,reduceCtorEq,reduceEqDiff,Nat.reduceBEq,reduceAdd,reduceSub,reduceLeDiff,reduceMul,ab ae aj,ao (len:=1) aK aL aH ⟨rfl,by decide,by decide⟩,hr,t4,s46,q1,bne,hn]
  ·rcases hf with hf|⟨hf1,hf2⟩
   ·cases hf
   rw[ey hf1] at t1
   have s42:=fp (by omega) hf2
   simp only[rdB,aU] at t1 s42 t4 s46 hn ⊢
   refine ah rfl rfl Tryz.func140 rfl Tryz.ntmps140 ⟨by simp,by simp[LK]⟩ ?_
   simp only[go_sem,reduceLT,reduceCtorEq,reduceEqDiff,Nat.reduceBEq,reduceAdd,reduceSub,reduceLeDiff,reduceMul,ab ae aj,ao (len:=1) aK aL aH ⟨rfl,by decide,by decide⟩,hr,t1,s42,q0,q1,bne,t4,s46,hn]
theorem BA (g:List Val→Option (Sim×List Val)) (l:List Val) (first:Bool) (hl:l.length≤60000000) (hf:rN l first) (k4:Sl.tokK 4 l=none) (k5:Sl.sign [46] l=none) (r:List Val) (k6:Sl.sign [58] l=some r)
  (hp:il simE (Sl.colon g r) (den K 171 [P0] [rdB r])) :
  il simE (hU g l) (den K 140 [P0,B first] [rdB l]):=by
 have hr:Tryz.f140.results=#[.cell 4 52]:=rfl
 have t4:=dM l 4 (by omega)
 have t1:=dM l 1 (by omega)
 rw[ey k4] at t4
 have s46:=fp (by omega) k5
 have s58:=iH (by omega) k6
 have q0:(([]:List UInt8)==[])=true:=rfl
 have q1:(([58]:List UInt8)==[])=false:=rfl
 unfold hU;rw[k4,k5,k6];simp only;cases hc:Sl.colon g r with
 | none =>
  rw[hc] at hp;obtain⟨m,hp⟩:=fm hp;refine⟨m,?_⟩
  cases first
  ·simp only[rdB] at t4 s46 s58 hp ⊢
   refine ah rfl rfl Tryz.func140 rfl Tryz.ntmps140 ⟨by simp,by simp[LK]⟩ ?_
   simp only[go_sem,reduceLT,reduceCtorEq,reduceEqDiff,Nat.reduceBEq,reduceAdd,reduceSub,reduceLeDiff,reduceMul,ab ae aj,ao (len:=1) aK aL aH ⟨rfl,by decide,by decide⟩,hr,t4,s46,s58,q0,q1,bne,hp]
  ·rcases hf with hf|⟨hf1,hf2⟩
   ·cases hf
   rw[ey hf1] at t1
   have s42:=fp (by omega) hf2
   simp only[rdB] at t1 s42 t4 s46 s58 hp ⊢
   refine ah rfl rfl Tryz.func140 rfl Tryz.ntmps140 ⟨by simp,by simp[LK]⟩ ?_
   simp only[go_sem,reduceLT,reduceCtorEq,reduceEqDiff,Nat.reduceBEq,reduceAdd,reduceSub,reduceLeDiff,reduceMul,ab ae aj,ao (len:=1) aK aL aH ⟨rfl,by decide,by decide⟩,hr,t1,s42,t4,s46,s58,q0,q1,bne,hp]
 | some y =>
  obtain⟨x,m⟩:=y;rw[hc] at hp;have hp:=er hp
  show den K 140 [P0,B first] [rdB l]=some (.ret (.agg (eL x)) [rdB m])
  obtain⟨k,n,v,a,b,xl⟩:=x;cases xl
  all_goals
   cases first
   ·simp only[rdB,simE,aU,dm] at t4 s46 s58 hp ⊢
    refine ah rfl rfl Tryz.func140 rfl Tryz.ntmps140 ⟨by simp,by simp[LK]⟩ ?_
    simp only[go_sem,reduceLT,reduceCtorEq,reduceEqDiff,Nat.reduceBEq,reduceAdd,reduceSub,reduceLeDiff,reduceMul,ab ae aj,ao (len:=1) aK aL aH ⟨rfl,by decide,by decide⟩,hr,t4,s46,s58,q0,q1,bne,hp]
   ·rcases hf with hf|⟨hf1,hf2⟩
    ·cases hf
    rw[ey hf1] at t1
    have s42:=fp (by omega) hf2
    simp only[rdB,simE,aU,dm] at t1 s42 t4 s46 s58 hp ⊢
    refine ah rfl rfl Tryz.func140 rfl Tryz.ntmps140 ⟨by simp,by simp[LK]⟩ ?_
    simp only[go_sem,reduceLT,reduceCtorEq,reduceEqDiff,Nat.reduceBEq,reduceAdd,reduceSub,reduceLeDiff,reduceMul,ab ae aj,ao (len:=1) aK aL aH ⟨rfl,by decide,by decide⟩,hr,t1,s42,t4,s46,s58,q0,q1,bne,hp]
theorem EX (g:List Val→Option (Sim×List Val)) (l:List Val) (first:Bool) (hl:Ne.size l≤60000000) (hf:rN l first) (k4:Sl.tokK 4 l=none) (k5:Sl.sign [46] l=none) (k6:Sl.sign [58] l=none) :
  il simE (hU g l) (den K 140 [P0,B first] [rdB l]):=by
 have hr:Tryz.f140.results=#[.cell 4 52]:=rfl
 have hll:=Ne.bM l
 have t4:=dM l 4 (by omega)
 have t1:=dM l 1 (by omega)
 rw[ey k4] at t4
 have s46:=fp (by omega) k5
 have s58:=fp (by omega) k6
 have hx:=gF l (by omega)
 have q0:(([]:List UInt8)==[])=true:=rfl
 unfold hU;rw[k4,k5,k6];simp only;cases hv:Sl.eP 3 l with
 | none =>
  obtain⟨k,x1,x2,x3,x4,ek,en⟩:∃ (k:Int) (x1 x2 x3 x4:CV),(k==3)=false∧nxCv l=[.pv (.int .i64 k),x1,x2,x3,x4]:=by
   rcases qq hv with rfl|⟨k,t,c,r,rfl,ek⟩
   ·exact⟨0,_,_,_,_,rfl,rS⟩
   ·exact⟨k,_,_,_,_,ek,fY k t c r⟩
  rw[en] at hx;refine⟨l,?_⟩
  cases first
  ·simp only[rdB] at t4 s46 s58 hx ⊢
   refine ah rfl rfl Tryz.func140 rfl Tryz.ntmps140 ⟨by simp,by simp[LK]⟩ ?_
   simp only[go_sem,reduceLT,reduceCtorEq,reduceEqDiff,Nat.reduceBEq,reduceAdd,reduceSub,reduceLeDiff,reduceMul,ab ae aj,ao (len:=1) aK aL aH ⟨rfl,by decide,by decide⟩,ab fM f9,hr,t4,s46,s58,q0,bne,hx,ek]
  ·rcases hf with hf|⟨hf1,hf2⟩
   ·cases hf
   rw[ey hf1] at t1
   have s42:=fp (by omega) hf2
   simp only[rdB] at t1 s42 t4 s46 s58 hx ⊢
   refine ah rfl rfl Tryz.func140 rfl Tryz.ntmps140 ⟨by simp,by simp[LK]⟩ ?_
   simp only[go_sem,reduceLT,reduceCtorEq,reduceEqDiff,Nat.reduceBEq,reduceAdd,reduceSub,reduceLeDiff,reduceMul,ab ae aj,ao (len:=1) aK aL aH ⟨rfl,by decide,by decide⟩,ab fM f9,hr,t1,s42,t4,s46,s58,q0,bne,hx,ek]
 | some y =>
  obtain⟨⟨t,c⟩,r⟩:=y;have e:=mN hv
  subst e;have htk:=fA 3 t c r (by rw[List.length_cons] at hll;omega)
  rw[fY] at hx htk;have ha:=FB c (by rw[Ne.size,Ne.oQ] at hl;omega)
  simp only;cases hm:Sl.attr c with
  | none =>
   rw[hm] at ha;simp only at ha;refine⟨r,?_⟩
   cases first
   ·simp only[rdB] at t4 s46 s58 hx htk ⊢
    refine ah rfl rfl Tryz.func140 rfl Tryz.ntmps140 ⟨by simp,by simp[LK]⟩ ?_
    simp only[go_sem,reduceLT,reduceCtorEq,reduceEqDiff,Nat.reduceBEq,reduceAdd,reduceSub,reduceLeDiff,reduceMul,ab ae aj,ao (len:=1) aK aL aH ⟨rfl,by decide,by decide⟩,hr,t4,s46,s58,q0,bne,hx,htk,ha]
   ·rcases hf with hf|⟨hf1,hf2⟩
    ·cases hf
    rw[ey hf1] at t1
    have s42:=fp (by omega) hf2
    simp only[rdB] at t1 s42 t4 s46 s58 hx htk ⊢
    refine ah rfl rfl Tryz.func140 rfl Tryz.ntmps140 ⟨by simp,by simp[LK]⟩ ?_
    simp only[go_sem,reduceLT,reduceCtorEq,reduceEqDiff,Nat.reduceBEq,reduceAdd,reduceSub,reduceLeDiff,reduceMul,ab ae aj,ao (len:=1) aK aL aH ⟨rfl,by decide,by decide⟩,hr,t1,s42,t4,s46,s58,q0,bne,hx,htk,ha]
  | some x =>
   rw[hm] at ha;simp only at ha
   show den K 140 [P0,B first] [rdB (.mk 3 t c::r)]=some (.ret (.agg (eL x)) [rdB r])
   obtain⟨k,n,v,a,b,xl⟩:=x;cases xl
   all_goals
    cases first
    ·simp only[rdB,aU,dm] at t4 s46 s58 hx htk ha ⊢
     refine ah rfl rfl Tryz.func140 rfl Tryz.ntmps140 ⟨by simp,by simp[LK]⟩ ?_
     simp only[go_sem,reduceLT,reduceCtorEq,reduceEqDiff,Nat.reduceBEq,reduceAdd,reduceSub,reduceLeDiff,reduceMul,ab ae aj,ao (len:=1) aK aL aH ⟨rfl,by decide,by decide⟩,hr,t4,s46,s58,q0,bne,hx,htk,ha]
    ·rcases hf with hf|⟨hf1,hf2⟩
     ·cases hf
     rw[ey hf1] at t1
     have s42:=fp (by omega) hf2
     simp only[rdB,aU,dm] at t1 s42 t4 s46 s58 hx htk ha ⊢
     refine ah rfl rfl Tryz.func140 rfl Tryz.ntmps140 ⟨by simp,by simp[LK]⟩ ?_
     simp only[go_sem,reduceLT,reduceCtorEq,reduceEqDiff,Nat.reduceBEq,reduceAdd,reduceSub,reduceLeDiff,reduceMul,ab ae aj,ao (len:=1) aK aL aH ⟨rfl,by decide,by decide⟩,hr,t1,s42,t4,s46,s58,q0,bne,hx,htk,ha]
theorem zx (l:List Val) (hl:l.length≤60000000) (hts:TSh l) (t:Tok) (k1:Sl.tokK 1 l=some t) :
  den K 140 [P0,B true] [rdB l]=some (.ret (.agg (eL (.mk 2 (Sl.low t.text) [] 0 0 []))) [rdB l.tail]):=by
 have hr:Tryz.f140.results=#[.cell 4 52]:=rfl
 have t1:=dM l 1 (by omega)
 have hn:=iU l (by omega)
 have en:Sl.name l=some (t.text,l.tail):=by unfold Sl.name;rw[k1];rfl
 rw[en] at hn;have hn:=er hn
 obtain⟨e,c,r,rfl,hk⟩:=jL k1;rw[e] at t1
 have hlo:=rU t.text (Bw hts)
 simp only[rdB,aU,List.tail_cons] at t1 hn ⊢
 refine ah rfl rfl Tryz.func140 rfl Tryz.ntmps140 ⟨by simp,by simp[LK]⟩ ?_
 simp only[go_sem,reduceLT,reduceCtorEq,reduceEqDiff,Nat.reduceBEq,reduceAdd,reduceSub,reduceLeDiff,reduceMul,ab ae aj,ao (len:=1) aK aL aH ⟨rfl,by decide,by decide⟩,hr,t1,hn,hlo]
theorem Aj (l:List Val) (hl:l.length≤60000000) (k1:Sl.tokK 1 l=none) (r:List Val) (k2:Sl.sign [42] l=some r) :
  den K 140 [P0,B true] [rdB l]=some (.ret (.agg (eL (.mk 1 [] [] 0 0 []))) [rdB r]):=by
 have hr:Tryz.f140.results=#[.cell 4 52]:=rfl
 have t1:=dM l 1 (by omega)
 rw[ey k1] at t1
 have s42:=iH (by omega) k2
 have q1:(([42]:List UInt8)==[])=false:=rfl
 simp only[rdB,aU] at t1 s42 ⊢
 refine ah rfl rfl Tryz.func140 rfl Tryz.ntmps140 ⟨by simp,by simp[LK]⟩ ?_
 simp only[go_sem,reduceLT,reduceCtorEq,reduceEqDiff,Nat.reduceBEq,reduceAdd,reduceSub,reduceLeDiff,reduceMul,ab ae aj,ao (len:=1) aK aL aH ⟨rfl,by decide,by decide⟩,hr,t1,s42,q1,bne]
end Go.Abs
