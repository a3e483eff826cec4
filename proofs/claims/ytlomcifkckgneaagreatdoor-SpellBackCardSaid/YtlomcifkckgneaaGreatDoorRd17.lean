/-
  WHAT THE FUNCTIONS COMPUTE, layer 4, the program's reader of selectors: a simple selector, whole; pseudo-elements, ends, combinators.
  (And 6 texts more.)
-/
import Derived.Test.YtlomcifkckgneaaGreatDoorRd15
import Derived.Test.YtlomcifkckgneaaGreatDoorRd16
set_option maxHeartbeats 8000000
open Nat (reduceEqDiff reduceAdd reduceLT reduceLeDiff reduceSub reduceMul)
set_option linter.unusedSimpArgs false
set_option linter.unusedVariables false
namespace Go.Abs
open Go Go.Proofs
set_option maxRecDepth 10000
attribute [local go_sem] dP bZ de cB cK dL dh du bo ck ce cE dr ci opd avOf cvOf St.degAt St.put okPV fE okAV eL eP eV dM aP if_true Bool.false_eq_true if_false Option.map_some Option.map_none Option.bind_some Option.bind_none fo fw upd List.toList_toArray cM steal bI mvB fj dK db AV.deg CV.deg AV.gv AV.isIter dG dw cJ List.length_nil List.length_cons List.filterMap_cons List.filterMap_nil beq_iff_eq List.getElem?_cons_zero List.getElem?_cons_succ Option.getD_some fM gJ Bool.false_and Bool.and_false Bool.and_self K_P iJ cI dc bL lend back idx dedup AV.ren CV.ren TV.ren AV.ptrs CV.ptrs dE AV.flat CV.flat cQ cz br dD dY gi cL bf cS bV cu cH bU gS CV.pv? content bT ownT bv reps pvs chunks co leave gj cZ eD cm bB TV.deg TV.av LK CV.plain CV.noBld dR gD bound List.map_cons List.map_nil List.all_cons List.all_nil List.any_cons List.any_nil List.contains_cons List.contains_nil List.elem_cons List.elem_nil List.cons_append List.nil_append List.append_nil List.flatMap_cons List.flatMap_nil List.zip_cons_cons List.zip_nil_left List.zip_nil_right List.take_succ_cons List.take_zero List.take_nil List.drop_succ_cons List.drop_zero List.drop_nil List.isEmpty_nil List.isEmpty_cons Bool.and_true Bool.true_and Bool.or_true Bool.true_or Bool.or_false Bool.false_or Bool.not_true Bool.not_false Nat.add_zero Nat.zero_add Option.isNone_none Option.isNone_some Option.getD_none true_and and_true not_true_eq_false not_false_eq_true decide_true decide_false Nat.le_refl and_self Bool.not_eq_true Nat.sub_self or_true true_or Option.some.injEq List.length_map List.nil_eq and_false false_and AV.live CV.live CV.liveIn gk bu Option.orElse_some Option.orElse_none head bJ bG Int.lt_irrefl List.length_append ite_self fx cF dC cf Key.clash Key.sees Key.writes Nat.lt_irrefl gt_iff_lt dt fB false_or or_false beq_self_eq_true Bool.true_beq Bool.false_beq ko ee fK vb vt pL Qx
theorem JA {l:List Val}{t:Tok}{c:List Val}(h:TSh l)(hm:Val.mk 5 t c∈l):TSh c:=by
 obtain⟨j,hj⟩:=List.getElem?_of_mem hm
 exact Uc h hj
theorem yE (g:List Val→Option (Sim×List Val))(l:List Val)(first:Bool)(hl:Ne.size l≤60000000)(hts:TSh l)(hf:wI l first)
  (hg:∀ t c,Val.mk 5 t c∈l→jw simE (g (Sl.trim c)) (den K 140 [P0,B true] [rdB (Sl.trim c)])) :
  jw simE (jp g l) (den K 140 [P0,B first] [rdB l]):=by
 have hll:=Ne.bD l
 cases k4:Sl.tokK 4 l with
 | some t=>exact JS g l first (by omega) hf t k4
 | none =>
 cases k5:Sl.sign [46] l with
 | some r=>exact OZ g l first (by omega) hf k4 r k5
 | none =>
 cases k6:Sl.sign [58] l with
 | none=>exact Kr g l first hl hf k4 k5 k6
 | some r =>
  obtain⟨v,hv,_⟩:=Sl.gK k6;refine Ib g l first (by omega) hf k4 k5 r k6 ?_
  have hrl0:r.length<l.length:=by rw[hv,List.length_cons];omega
  have hrl:r.length≤60000000:=by omega
  cases h5:Sl.eM 5 r with
  | none=>exact Et g r hrl h5
  | some y =>
   obtain⟨⟨t,c⟩,m⟩:=y;have e:=pz h5
   have hm:Val.mk 5 t c∈l:=by rw[hv,e];simp
   have hsz:Ne.size c<Ne.size l:=nj hm
   exact GF g r hrl t c m h5 (Bf g t c (Nat.le_trans (Ne.bD c) (by omega)) (JA hts hm) fun _=>hg t c hm)
theorem ol (g:List Val→Option (Sim×List Val))(l:List Val)(first:Bool)(hl:Ne.size l≤60000000)(hts:TSh l)
  (hg:∀ t c,Val.mk 5 t c∈l→jw simE (g (Sl.trim c)) (den K 140 [P0,B true] [rdB (Sl.trim c)])) :
  jw simE (iw g first l) (den K 140 [P0,B first] [rdB l]):=by
 have hll:=Ne.bD l
 cases first with
 | false =>
  rw[rN];exact yE g l false hl hts (.inl rfl) hg
 | true =>
  cases h1:Sl.tokK 1 l with
  | some t =>
   have e:iw g true l=some (.mk 2 (Sl.low t.text) [] 0 0 [],l.tail):=by
    unfold iw;simp only[h1,if_true]
   rw[e];exact Ft l (by omega) hts t h1
  | none =>
   cases h2:Sl.sign [42] l with
   | some r =>
    have e:iw g true l=some (.mk 1 [] [] 0 0 [],r):=by
     unfold iw;simp only[h1,h2,if_true]
    rw[e];exact CF l (by omega) h1 r h2
   | none =>
    rw[uC g _ h1 h2];exact yE g l true hl hts (.inr ⟨h1,h2⟩) hg
theorem ui:∀ (f:Nat) (l:List Val) (first:Bool),Ne.size l≤60000000→TSh l→(∀ t c,Val.mk 5 t c∈l→Ne.size c<f+1) →
  jw simE (Sl.simple (f+1) first l) (den K 140 [P0,B first] [rdB l])
 | 0,l,first,hsz,hts,hc=>by
  rw[rm];refine ol _ l first hsz hts fun t c hm => ?_
  have h0:=hc t c hm
  have hl0:=Ne.bD c
  have:c=[]:=List.eq_nil_of_length_eq_zero (by omega)
  subst this;exact ol (fun _=>none) [] true (by rw[Ne.size];omega) (fun t ht=>by rw[Sl.dl] at ht;cases ht) (fun t c hm=>by cases hm)
 | f+1,l,first,hsz,hts,hc=>by
  rw[rm];refine ol _ l first hsz hts fun t c hm => ?_
  have h1:Ne.size c<Ne.size l:=nj hm
  have h2:=jF c
  have h3:=hc t c hm
  exact ui f (Sl.trim c) true (by omega) (mq (JA hts hm)) fun t' c' hm'=>by
   have:Ne.size c'<Ne.size (Sl.trim c):=nj hm'
   omega
theorem Bh (l:List Val)(first:Bool)(hsz:Ne.size l≤60000000)(hts:TSh l)(hne:l≠[]):jw simE (Sl.simple (Ne.size l) first l) (den K 140 [P0,B first] [rdB l]):=by
 have hp:1≤Ne.size l:=by
  have:=Ne.bD l
  cases l with
  | nil=>exact absurd rfl hne
  | cons v r=>rw[List.length_cons] at this;omega
 obtain⟨f,hf⟩:∃ f,Ne.size l=f+1:=⟨Ne.size l - 1,by omega⟩
 rw[hf];exact ui f l first hsz hts fun t c hm=>by
  have:Ne.size c<Ne.size l:=nj hm
  omega
theorem uJ (l:List Val):Sl.double l=match Sl.sign [58] l with
  | some r=>(Sl.sign [58] r).isSome
  | none=>false:=by
 match l with
 | []=>rfl
 | [v] =>
  unfold Sl.sign;simp only;cases Sl.aI [58] v<;>rfl
 | v::w::r =>
  unfold Sl.sign Sl.double;simp only;cases h:Sl.aI [58] v
  ·rfl
  ·simp only[if_true,Bool.true_and];cases Sl.aI [58] w<;>rfl
theorem Aj {s:List UInt8}{l r:List Val}(h:Sl.sign s l=some r):l.drop 1=r:=by
 obtain⟨v,e,_⟩:=Sl.gK h;rw[e];rfl
theorem AZ (l:List Val)(hl:l.length≤60000000)(hd:Sl.double l=false):den K 139 [P0] [rdB l]=some (.ret (T []) [rdB l]):=by
 have hr:Tryz.f139.results=#[.tmp 2]:=rfl
 have q0:(([]:List UInt8)==[])=true:=rfl
 have q1:(([58]:List UInt8)==[])=false:=rfl
 rw[uJ] at hd;cases k1:Sl.sign [58] l with
 | none =>
  have s1:=fZ (by omega) k1
  simp only[rdB] at s1 ⊢
  refine ai rfl rfl Tryz.func139 rfl Tryz.ntmps139 ⟨by simp,by simp[LK]⟩ ?_
  simp only[go_sem,reduceLT,reduceCtorEq,reduceEqDiff,Nat.reduceBEq,reduceAdd,reduceSub,reduceLeDiff,reduceMul,aa bt bF,ao (len:=1) aK aN aH ⟨rfl,by decide,by decide⟩,hr,s1,q0]
 | some r =>
  rw[k1] at hd;have k2:Sl.sign [58] r=none:=by
   cases h:Sl.sign [58] r with
   | none=>rfl
   | some _=>simp only[h] at hd;cases hd
  have hrl:r.length≤l.length:=by
   obtain⟨v,e,_⟩:=Sl.gK k1;rw[e,List.length_cons];omega
  have s1:=jU (by omega) k1
  have s2:=fZ (by omega) k2
  simp only[rdB] at s1 s2 ⊢
  refine ai rfl rfl Tryz.func139 rfl Tryz.ntmps139 ⟨by simp,by simp[LK]⟩ ?_
  simp only[go_sem,reduceLT,reduceCtorEq,reduceEqDiff,Nat.reduceBEq,reduceAdd,reduceSub,reduceLeDiff,reduceMul,aa bt bF,ao (len:=1) aK aN aH ⟨rfl,by decide,by decide⟩,hr,s1,s2,q0,q1]
theorem QV (l:List Val)(hl:l.length≤60000000)(hd:Sl.double l=true):match Sl.pB l with
  | some (s,r)=>den K 139 [P0] [rdB l]=some (.ret (T s) [rdB r])
  | none=>den K 139 [P0] [rdB l]=some (.pan ey [rdB l]):=by
 have hr:Tryz.f139.results=#[.tmp 2]:=rfl
 have q1:(([58]:List UInt8)==[])=false:=rfl
 have hmy:=fF
 have hmn:=jk
 rw[uJ] at hd;cases k1:Sl.sign [58] l with
 | none=>rw[k1] at hd;cases hd
 | some r =>
  rw[k1] at hd;cases k2:Sl.sign [58] r with
  | none=>simp only[k2] at hd;cases hd
  | some r2 =>
   have hrl:r.length≤l.length:=by
    obtain⟨v,e,_⟩:=Sl.gK k1;rw[e,List.length_cons];omega
   have hrl2:r2.length≤r.length:=by
    obtain⟨v,e,_⟩:=Sl.gK k2;rw[e,List.length_cons];omega
   have s1:=jU (by omega) k1
   have s2:=jU (by omega) k2
   have e2:l.drop 2=r2:=by
    rw[show 2=1+1 from rfl,←List.drop_drop,Aj k1,Aj k2]
   have hn:=kz r2 (by omega)
   unfold Sl.pB;rw[e2];cases hnm:Sl.name r2 with
   | none =>
    rw[hnm] at hn;obtain⟨m,hn⟩:=gh hn;simp only[rdB] at s1 s2 hn ⊢
    refine ai rfl rfl Tryz.func139 rfl Tryz.ntmps139 ⟨by simp,by simp[LK]⟩ ?_
    simp only[go_sem,reduceLT,reduceCtorEq,reduceEqDiff,Nat.reduceBEq,reduceAdd,reduceSub,reduceLeDiff,reduceMul,aa bt bF,ao (len:=1) aK aN aH ⟨rfl,by decide,by decide⟩,hr,s1,s2,q1,hn]
   | some y =>
    obtain⟨s,m⟩:=y;rw[hnm] at hn;have hn:=eO hn
    simp only;by_cases hb:s=Sl.eH
    ·have e3:(s==[98,101,102,111,114,101])=true:=by rw[hb];rfl
     rw[if_pos (.inl hb)];simp only[rdB] at s1 s2 hn ⊢
     refine ai rfl rfl Tryz.func139 rfl Tryz.ntmps139 ⟨by simp,by simp[LK]⟩ ?_
     simp only[go_sem,reduceLT,reduceCtorEq,reduceEqDiff,Nat.reduceBEq,reduceAdd,reduceSub,reduceLeDiff,reduceMul,aa bt bF,ao (len:=1) aK aN aH ⟨rfl,by decide,by decide⟩,hr,s1,s2,q1,hn,e3,hmy]
    ·have e3:(s==[98,101,102,111,114,101])=false:=by rw[beq_eq_false_iff_ne];exact hb
     by_cases ha:s=Sl.fJ
     ·have e4:(s==[97,102,116,101,114])=true:=by rw[ha];rfl
      rw[if_pos (.inr ha)];simp only[rdB] at s1 s2 hn ⊢
      refine ai rfl rfl Tryz.func139 rfl Tryz.ntmps139 ⟨by simp,by simp[LK]⟩ ?_
      simp only[go_sem,reduceLT,reduceCtorEq,reduceEqDiff,Nat.reduceBEq,reduceAdd,reduceSub,reduceLeDiff,reduceMul,aa bt bF,ao (len:=1) aK aN aH ⟨rfl,by decide,by decide⟩,hr,s1,s2,q1,hn,e3,e4,hmy]
     ·have e4:(s==[97,102,116,101,114])=false:=by rw[beq_eq_false_iff_ne];exact ha
      rw[if_neg (by rintro (h|h)<;>contradiction)]
      simp only[rdB] at s1 s2 hn ⊢
      refine ai rfl rfl Tryz.func139 rfl Tryz.ntmps139 ⟨by simp,by simp[LK]⟩ ?_
      simp only[go_sem,reduceLT,reduceCtorEq,reduceEqDiff,Nat.reduceBEq,reduceAdd,reduceSub,reduceLeDiff,reduceMul,aa bt bF,ao (len:=1) aK aN aH ⟨rfl,by decide,by decide⟩,hr,s1,s2,q1,hn,e3,e4,hmn]
theorem Cz (ss:List (List UInt8))(v:Val)(r:List Val):match qD ss (v::r) with
  | some (s,m)=>s∈ss∧m=r∧Sl.aI s v=true
  | none=>∀ s∈ss,Sl.aI s v=false:=by
 obtain⟨k,t,c⟩:=v;have hs:∀ s,Sl.aI s (.mk k t c)=true↔k=1∧t=⟨7,s,0⟩:=fun s=>by
  show ((k==1)&&decide (t=⟨7,s,0⟩))=true↔_
  simp
 have e0:qD ss (.mk k t c::r)=if k=1∧t.kind=7∧t.n=0∧ss.any (t.text == ·)=true then some (t.text,r) else none:=rfl
 rw[e0];by_cases h:k=1∧t.kind=7∧t.n=0∧ss.any (t.text == ·)=true
 ·rw[if_pos h];simp only;obtain⟨h1,h2,h3,h4⟩:=h;rw[List.any_eq_true] at h4;obtain⟨x,hx,he⟩:=h4;have:t.text=x:=by simpa using he
  refine⟨by rw[this];exact hx,(by first|rfl|trivial),(hs _).2 ⟨h1,?_⟩⟩
  cases t;simp_all
 ·rw[if_neg h];simp only;intro s hs2;cases he:Sl.aI s (.mk k t c) with
  | false=>rfl
  | true =>
   obtain⟨h1,h2⟩:=(hs s).1 he;subst h2;exact absurd (show k=1∧(7:Int)=7∧(0:Int)=0∧ss.any (s == ·)=true from⟨h1,rfl,rfl,List.any_eq_true.2 ⟨s,hs2,by simp⟩⟩) h
theorem nu (l:List Val)(hl:l.length≤60000000):den K 138 [P0] [rdB l]=some (.ret (B (Sl.rJ l)) [rdB l]):=by
 have hr:Tryz.f138.results=#[.tmp 2]:=rfl
 cases l with
 | nil =>
  have q1:(((0:Nat):Int)==0)=true:=rfl
  show _=(some (.ret (B true) [rdB []]):Option Res)
  simp only[rdB];refine ai rfl rfl Tryz.func138 rfl Tryz.ntmps138 ⟨by simp,by simp[LK]⟩ ?_
  simp only[go_sem,reduceLT,reduceCtorEq,reduceEqDiff,Nat.reduceBEq,reduceAdd,reduceSub,reduceLeDiff,aa bt bF,af ak,hr,aA,q1]
 | cons v r =>
  have q1:(((r.length+1:Nat):Int)==0)=false:=by rw[beq_eq_false_iff_ne];omega
  have hb:=oA (v::r) (by omega)
  show _=(some (.ret (B (Sl.ar v||(Sl.aI [44] v||(Sl.aI [62] v||(Sl.aI [43] v||Sl.aI [126] v))))) [rdB (v::r)]):Option Res)
  cases hv:Sl.ar v with
  | true =>
   have hlen:=(List.dropWhile_sublist Sl.ar (l:=r)).length_le
   have e:decide (((v::r).dropWhile Sl.ar).length<(v::r).length)=true:=by
    rw[List.dropWhile_cons,if_pos hv];exact decide_eq_true (by rw[List.length_cons];omega)
   rw[e] at hb;rw[Bool.true_or];simp only[rdB] at hb ⊢;refine ai rfl rfl Tryz.func138 rfl Tryz.ntmps138 ⟨by simp,by simp[LK]⟩ ?_
   simp only[go_sem,reduceLT,reduceCtorEq,reduceEqDiff,Nat.reduceBEq,reduceAdd,reduceSub,reduceLeDiff,aa bt bF,af ak,hr,aA,q1,hb]
  | false =>
   have e1:(v::r).dropWhile Sl.ar=v::r:=by rw[List.dropWhile_cons,if_neg (by rw[hv];simp)]
   have e:decide (((v::r).dropWhile Sl.ar).length<(v::r).length)=false:=by rw[e1];exact decide_eq_false (by omega)
   rw[e,e1] at hb;rw[Bool.false_or];have hs:=oh (v::r) [[44],[62],[43],[126]] (by omega) (by simp)
   have hi:=Cz [[44],[62],[43],[126]] v r
   have e3:encT [[44],[62],[43],[126]]=[[.str [44]],[.str [62]],[.str [43]],[.str [126]]]:=rfl
   rw[e3] at hs;unfold zg at hs;cases hp:qD [[44],[62],[43],[126]] (v::r) with
   | none =>
    rw[hp] at hs hi;simp only[List.mem_cons,List.not_mem_nil,or_false,forall_eq_or_imp,forall_eq] at hi;obtain⟨i1,i2,i3,i4⟩:=hi;rw[i1,i2,i3,i4];simp only at hs;have q0:(([]:List UInt8)==[])=true:=rfl
    simp only[rdB] at hb hs ⊢;refine ai rfl rfl Tryz.func138 rfl Tryz.ntmps138 ⟨by simp,by simp[LK]⟩ ?_
    simp only[go_sem,reduceLT,reduceCtorEq,reduceEqDiff,Nat.reduceBEq,reduceAdd,reduceSub,reduceLeDiff,reduceMul,aa bt bF,af ak,ao (len:=4) aK aN aH ⟨rfl,by decide,by decide⟩,hr,aA,q1,hb,hs,q0,bne]
   | some y =>
    obtain⟨s,m⟩:=y;rw[hp] at hs hi;simp only at hs hi;obtain⟨i1,rfl,i3⟩:=hi;have q0:(s==[])=false:=by
     simp only[List.mem_cons,List.not_mem_nil,or_false] at i1
     rcases i1 with rfl|rfl|rfl|rfl<;>rfl
    have e4:(Sl.aI [44] v||(Sl.aI [62] v||(Sl.aI [43] v||Sl.aI [126] v)))=true:=by
     simp only[List.mem_cons,List.not_mem_nil,or_false] at i1
     rcases i1 with rfl|rfl|rfl|rfl<;>simp[i3]
    rw[e4];simp only[rdB] at hb hs ⊢;refine ai rfl rfl Tryz.func138 rfl Tryz.ntmps138 ⟨by simp,by simp[LK]⟩ ?_
    simp only[go_sem,reduceLT,reduceCtorEq,reduceEqDiff,Nat.reduceBEq,reduceAdd,reduceSub,reduceLeDiff,reduceMul,aa bt bF,af ak,ao (len:=4) aK aN aH ⟨rfl,by decide,by decide⟩,hr,aA,q1,hb,hs,q0,bne]
theorem oZ {s t:List UInt8}{v:Val}(h:Sl.aI s v=true)(ht:Sl.aI t v=true):s=t:=by
 obtain⟨k,u,c⟩:=v;have h1:((k==1)&&decide (u=⟨7,s,0⟩))=true:=h
 have h2:((k==1)&&decide (u=⟨7,t,0⟩))=true:=ht
 simp only[Bool.and_eq_true,decide_eq_true_eq] at h1 h2;have:=h1.2.symm.trans h2.2
 injection this
theorem Mi (l:List Val)(hl:l.length≤60000000):den K 92 [P0] [rdB l]=some (.ret (I (Sl.mB l).1) [rdB (Sl.mB l).2]):=by
 have hr:Tryz.f92.results=#[.tmp 2]:=rfl
 have hb:=oA l (by omega)
 have hlen:=(List.dropWhile_sublist Sl.ar (l:=l)).length_le
 unfold Sl.mB;simp only;generalize l.dropWhile Sl.ar=m at *
 have hs:=oh m [[62],[43],[126]] (by omega) (by simp)
 have e3:encT [[62],[43],[126]]=[[.str [62]],[.str [43]],[.str [126]]]:=rfl
 rw[e3] at hs;unfold zg at hs;have q0:(([]:List UInt8)==[62])=false:=rfl
 have q1:(([]:List UInt8)==[43])=false:=rfl
 have q2:(([]:List UInt8)==[126])=false:=rfl
 have none_case:qD [[62],[43],[126]] m=none→den K 92 [P0] [rdB l]=some (.ret (I (if m.length<l.length∧m≠[] then((1:Int),m) else(0,m)).1) [rdB (if m.length<l.length∧m≠[] then((1:Int),m) else(0,m)).2]):=by
  intro hp;rw[hp] at hs;simp only at hs;by_cases hlt:m.length<l.length
  ·rw[decide_eq_true hlt] at hb;cases m with
   | nil =>
    rw[if_neg (by simp)]
    have q3:decide ((0:Int)<((0:Nat):Int))=false:=rfl
    simp only[rdB] at hb hs ⊢;refine ai rfl rfl Tryz.func92 rfl Tryz.ntmps92 ⟨by simp,by simp[LK]⟩ ?_
    simp only[go_sem,reduceLT,reduceCtorEq,reduceEqDiff,Nat.reduceBEq,reduceAdd,reduceLeDiff,reduceMul,ao (len:=3) aK aN aH ⟨rfl,by decide,by decide⟩,af ak,hr,aA,hb,hs,q0,q1,q2,q3]
   | cons v r =>
    rw[if_pos ⟨hlt,by simp⟩]
    have q3:decide ((0:Int)<(((r.length+1:Nat)):Int))=true:=decide_eq_true (by omega)
    simp only[rdB] at hb hs ⊢;refine ai rfl rfl Tryz.func92 rfl Tryz.ntmps92 ⟨by simp,by simp[LK]⟩ ?_
    simp only[go_sem,reduceLT,reduceCtorEq,reduceEqDiff,Nat.reduceBEq,reduceAdd,reduceLeDiff,reduceMul,ao (len:=3) aK aN aH ⟨rfl,by decide,by decide⟩,af ak,hr,aA,hb,hs,q0,q1,q2,q3]
  ·rw[decide_eq_false hlt] at hb;rw[if_neg fun h=>hlt h.1]
   simp only[rdB] at hb hs ⊢;refine ai rfl rfl Tryz.func92 rfl Tryz.ntmps92 ⟨by simp,by simp[LK]⟩ ?_
   simp only[go_sem,reduceLT,reduceCtorEq,reduceEqDiff,Nat.reduceBEq,reduceAdd,reduceLeDiff,reduceMul,ao (len:=3) aK aN aH ⟨rfl,by decide,by decide⟩,hr,hb,hs,q0,q1,q2]
 cases m with
 | nil=>exact none_case rfl
 | cons v r =>
  have hi:=Cz [[62],[43],[126]] v r
  cases hp:qD [[62],[43],[126]] (v::r) with
  | none =>
   rw[hp] at hi;simp only[List.mem_cons,List.not_mem_nil,or_false,forall_eq_or_imp,forall_eq] at hi;obtain⟨i1,i2,i3⟩:=hi;have h1:Sl.sign [62] (v::r)=none:=by unfold Sl.sign;simp only;rw[i1];rfl
   have h2:Sl.sign [43] (v::r)=none:=by unfold Sl.sign;simp only;rw[i2];rfl
   have h3:Sl.sign [126] (v::r)=none:=by unfold Sl.sign;simp only;rw[i3];rfl
   rw[h1,h2,h3];exact none_case hp
  | some y =>
   obtain⟨s,m'⟩:=y;rw[hp] at hs hi;simp only at hs hi;obtain⟨i1,rfl,i3⟩:=hi;have hb2:=oA m' (by rw[List.length_cons] at hlen;omega)
   generalize decide ((v::m').length<l.length)=bl at hb;simp only[List.mem_cons,List.not_mem_nil,or_false] at i1
   rcases i1 with rfl|rfl|rfl
   ·have h1:Sl.sign [62] (v::m')=some m':=by unfold Sl.sign;simp only;rw[i3];rfl
    rw[h1];have p0:(([62]:List UInt8)==[62])=true:=rfl
    simp only[rdB] at hb hs hb2 ⊢;refine ai rfl rfl Tryz.func92 rfl Tryz.ntmps92 ⟨by simp,by simp[LK]⟩ ?_
    simp only[go_sem,reduceLT,reduceCtorEq,reduceEqDiff,Nat.reduceBEq,reduceAdd,reduceLeDiff,reduceMul,ao (len:=3) aK aN aH ⟨rfl,by decide,by decide⟩,hr,hb,hs,hb2,p0]
   ·have n1:Sl.aI [62] v=false:=by
     cases h:Sl.aI [62] v with
     | false=>rfl
     | true=>exact absurd (oZ h i3) (by decide)
    have h1:Sl.sign [62] (v::m')=none:=by unfold Sl.sign;simp only;rw[n1];rfl
    have h2:Sl.sign [43] (v::m')=some m':=by unfold Sl.sign;simp only;rw[i3];rfl
    rw[h1,h2];have p0:(([43]:List UInt8)==[62])=false:=rfl
    have p1:(([43]:List UInt8)==[43])=true:=rfl
    simp only[rdB] at hb hs hb2 ⊢;refine ai rfl rfl Tryz.func92 rfl Tryz.ntmps92 ⟨by simp,by simp[LK]⟩ ?_
    simp only[go_sem,reduceLT,reduceCtorEq,reduceEqDiff,Nat.reduceBEq,reduceAdd,reduceLeDiff,reduceMul,ao (len:=3) aK aN aH ⟨rfl,by decide,by decide⟩,hr,hb,hs,hb2,p0,p1]
   ·have n1:Sl.aI [62] v=false:=by
     cases h:Sl.aI [62] v with
     | false=>rfl
     | true=>exact absurd (oZ h i3) (by decide)
    have n2:Sl.aI [43] v=false:=by
     cases h:Sl.aI [43] v with
     | false=>rfl
     | true=>exact absurd (oZ h i3) (by decide)
    have h1:Sl.sign [62] (v::m')=none:=by unfold Sl.sign;simp only;rw[n1];rfl
    have h2:Sl.sign [43] (v::m')=none:=by unfold Sl.sign;simp only;rw[n2];rfl
    have h3:Sl.sign [126] (v::m')=some m':=by unfold Sl.sign;simp only;rw[i3];rfl
    rw[h1,h2,h3];have p0:(([126]:List UInt8)==[62])=false:=rfl
    have p1:(([126]:List UInt8)==[43])=false:=rfl
    have p2:(([126]:List UInt8)==[126])=true:=rfl
    simp only[rdB] at hb hs hb2 ⊢;refine ai rfl rfl Tryz.func92 rfl Tryz.ntmps92 ⟨by simp,by simp[LK]⟩ ?_
    simp only[go_sem,reduceLT,reduceCtorEq,reduceEqDiff,Nat.reduceBEq,reduceAdd,reduceLeDiff,reduceMul,ao (len:=3) aK aN aH ⟨rfl,by decide,by decide⟩,hr,hb,hs,hb2,p0,p1,p2]
attribute [local go_sem] Qh Mz Pp Ex
theorem AX (l:List Val)(first:Bool)(hsz:Ne.size l≤100000000)(hts:TSh l)(hne:l≠[]){x:Sim}{r:List Val}(h:Sl.simple (Ne.size l) first l=some (x,r)):r.length<l.length∧∃ p,l=p++r :=
 Sl.xP _ _ _ _ _ h
abbrev cmH (l:List Val)(e:Nat)(acc:List Sim):St :=
  { sl:=upd (upd bot 4 (.c (.own e (Sim.encL acc)))) 0 P0,bx:=upd nobox 100000 (some (rdB l)),nt:=32 }
noncomputable def cmlp:Code:=.loop (ap Tryz.f91 2)
theorem Vs (l:List Val)(e:Nat)(acc:List Sim)(hl:l.length≤60000000)(h:Sl.rJ l=true) :
  Ends (exL K 91 cmlp (cmH l e acc)) fun o S=>o=.exit 0∧S.nt=32∧S.sl 0=P0∧S.sl 4=.c (.own e (Sim.encL acc))∧S.bx 100000=some (rdB l):=by
 have he:=nu l hl
 rw[h] at he;simp only[rdB] at he;unfold cmlp
 conv in ap _ _=>whnf
 rw[aq];simp only[go_sem,reduceLT,reduceCtorEq,reduceEqDiff,Nat.reduceBEq,reduceAdd,he,aw]
theorem Ru (l:List Val)(e:Nat)(acc:List Sim)(hl:l.length≤60000000)(h:Sl.rJ l=false)(hd:Sl.double l=true):match Sl.pB l with
  | some (s,r)=>Ends (exL K 91 cmlp (cmH l e acc)) fun o S=>o=.ret∧S.nt=32∧S.sl 2=L (Sim.encL acc)∧S.sl 3=T s∧S.bx 100000=some (rdB r)
  | none=>Ends (exL K 91 cmlp (cmH l e acc)) fun o S=>o=.pan ey∧S.bx 100000=some (rdB l):=by
 have he:=nu l hl
 rw[h] at he;have hx:=QV l hl hd
 cases hm:Sl.pB l with
 | none =>
  rw[hm] at hx;dsimp only;simp only[rdB] at he hx;unfold cmlp
  conv in ap _ _=>whnf
  rw[aq];simp only[go_sem,reduceLT,reduceCtorEq,reduceEqDiff,Nat.reduceBEq,reduceAdd,he,hx,aw]
 | some y =>
  obtain⟨s,r⟩:=y;rw[hm] at hx;have hs:(s==[])=false:=by
   unfold Sl.pB at hm;split at hm
   ·split at hm
    ·rename_i hh;cases hm;rcases hh with rfl|rfl<;>rfl
    ·cases hm
   ·cases hm
  dsimp only;simp only[rdB] at he hx;unfold cmlp
  conv in ap _ _=>whnf
  rw[aq];simp only[go_sem,reduceLT,reduceCtorEq,reduceEqDiff,Nat.reduceBEq,reduceAdd,he,hx,hs,bne,aw]
theorem RK (l:List Val)(e:Nat)(acc:List Sim)(hl:l.length≤60000000)(h:Sl.rJ l=false)(hd:Sl.double l=false)(h8:¬ acc.length<8) :
  Ends (exL K 91 cmlp (cmH l e acc)) fun o S=>o=.pan ey∧S.bx 100000=some (rdB l):=by
 have he:=nu l hl
 rw[h] at he;have hx:=AZ l hl hd
 have q0:(([]:List UInt8)==[])=true:=rfl
 have e8:decide ((acc.length:Int)<8)=false:=decide_eq_false (by omega)
 have hmn:=jk
 simp only[rdB] at he hx;unfold cmlp
 conv in ap _ _=>whnf
 rw[aq];simp only[go_sem,reduceLT,reduceCtorEq,reduceEqDiff,Nat.reduceBEq,reduceAdd,af ae,he,hx,q0,bne,gL,e8,hmn,aw]
theorem UP (l m:List Val)(e:Nat)(acc:List Sim)(hl:l.length≤60000000)(h:Sl.rJ l=false)(hd:Sl.double l=false)(h8:acc.length<8)
  (hs:den K 140 [P0,B acc.isEmpty] [rdB l]=some (.pan ey [rdB m])) :
  Ends (exL K 91 cmlp (cmH l e acc)) fun o S=>o=.pan ey∧S.bx 100000=some (rdB m):=by
 have he:=nu l hl
 rw[h] at he;have hx:=AZ l hl hd
 have q0:(([]:List UInt8)==[])=true:=rfl
 have e8:decide ((acc.length:Int)<8)=true:=decide_eq_true (by omega)
 have hmy:=fF
 simp only[rdB] at he hx hs;unfold cmlp
 conv in ap _ _=>whnf
 rw[aq];simp only[go_sem,reduceLT,reduceCtorEq,reduceEqDiff,Nat.reduceBEq,reduceAdd,af ae,he,hx,q0,bne,gL,e8,mo,hmy,hs,aw]
theorem TM (l r:List Val)(e:Nat)(acc:List Sim)(x:Sim)(hl:l.length≤60000000)(h:Sl.rJ l=false)(hd:Sl.double l=false)(h8:acc.length<8)(he:e=52∨acc=[])
  (hs:den K 140 [P0,B acc.isEmpty] [rdB l]=some (.ret (simE x) [rdB r])) :
  exL K 91 cmlp (cmH l e acc)=exL K 91 cmlp (cmH r 52 (acc++[x])):=by
 have hn:=nu l hl
 rw[h] at hn;have hx:=AZ l hl hd
 have q0:(([]:List UInt8)==[])=true:=rfl
 have e8:decide ((acc.length:Int)<8)=true:=decide_eq_true (by omega)
 have hmy:=fF
 have hown:e=52∨(Sim.encL acc).isEmpty=true:=by
  rcases he with rfl|rfl
  ·exact .inl rfl
  ·exact .inr rfl
 have hlim:acc.length+1<bS:=by unfold bS;omega
 have hlv:=yN acc
 obtain⟨k,n,v,a,b,xl⟩:=x;unfold cmlp
 conv in ap _ _=>whnf
 conv in ap _ _=>whnf
 cases xl
 all_goals
  simp only[rdB,simE,aQ,cO] at hn hx hs
  conv in exL _ _ _ (cmH l e acc)=>rw[aq]
  simp only[go_sem,reduceLT,reduceCtorEq,reduceEqDiff,Nat.reduceBEq,reduceAdd,reduceMul,af ae,ao (len:=1) ae dZ ab ⟨rfl,by decide,by decide⟩,bq qE,aU ae,hn,hx,q0,bne,gL,e8,mo,hmy,hs,hown,hlim,hlv,CL,Ju,IA]
  rw[au];simp only[go_sem,reduceCtorEq,reduceEqDiff]
theorem IX:∀ (f:Nat) (l:List Val) (e:Nat) (acc:List Sim),l.length<f→Ne.size l≤60000000→TSh l→(e=52∨acc=[]) →
  Ends (exL K 91 cmlp (cmH l e acc)) fun o S=>match Sl.pJ f acc l with
   | none=>(∃ m,o=.pan ey∧S.bx 100000=some (rdB m))∨(∃ m e',o=.exit 0∧S.nt=32∧S.sl 0=P0∧S.sl 4=.c (.own e' (Sim.encL []))∧S.bx 100000=some (rdB m))
   | some ((ps,s),r)=>(s≠[]∧o=.ret∧S.nt=32∧S.sl 2=L (Sim.encL ps)∧S.sl 3=T s∧S.bx 100000=some (rdB r)) ∨
    (s=[]∧ps≠[]∧∃ e',o=.exit 0∧S.nt=32∧S.sl 0=P0∧S.sl 4=.c (.own e' (Sim.encL ps))∧S.bx 100000=some (rdB r))
 | 0,_,_,_,h,_,_,_=>absurd h (Nat.not_lt_zero _)
 | f+1,l,e,acc,hf,hsz,hts,he=>by
  have hl:l.length≤60000000:=Nat.le_trans (Ne.bD l) hsz
  rw[Sl.pJ];cases h:Sl.rJ l with
  | true =>
   simp only[if_true];refine aW (Vs l e acc hl h) fun o S q => ?_
   obtain⟨q1,q2,q3,q4,q5⟩:=q;cases acc with
   | nil=>exact .inr ⟨l,e,q1,q2,q3,q4,q5⟩
   | cons x acc=>exact .inr ⟨rfl,by simp,e,q1,q2,q3,q4,q5⟩
  | false =>
   simp only[Bool.false_eq_true,if_false];cases hd:Sl.double l with
   | true =>
    simp only[if_true];have hx:=Ru l e acc hl h hd
    cases hm:Sl.pB l with
    | none =>
     rw[hm] at hx;exact aW hx fun o S q=>.inl ⟨l,q⟩
    | some y =>
     obtain⟨s,r⟩:=y;rw[hm] at hx;refine aW hx fun o S q=>.inl ⟨?_,q⟩
     unfold Sl.pB at hm;split at hm
     ·split at hm
      ·rename_i hh;cases hm;rcases hh with rfl|rfl
       ·show Sl.eH≠[];decide
       ·show Sl.fJ≠[];decide
      ·cases hm
     ·cases hm
   | false =>
    simp only[Bool.false_eq_true,if_false];by_cases h8:acc.length<8
    ·rw[if_pos h8];have hne:l≠[]:=by rintro rfl;cases h
     have hs:=Bh l acc.isEmpty hsz hts hne
     cases hx:Sl.simple (Ne.size l) acc.isEmpty l with
     | none =>
      rw[hx] at hs;obtain⟨m,hs⟩:=gh hs;exact aW (UP l m e acc hl h hd h8 hs) fun o S q=>.inl ⟨m,q⟩
     | some y =>
      obtain⟨x,r⟩:=y;rw[hx] at hs;obtain⟨g1,p,g2⟩:=AX l acc.isEmpty (by omega) hts hne hx
      rw[TM l r e acc x hl h hd h8 he (eO hs)];simp only;have hsr:Ne.size r≤Ne.size l:=by rw[g2,nw];omega
      exact IX f r 52 (acc++[x]) (by omega) (by omega) (sU hts fun v hv=>by rw[g2];simp[hv]) (.inl rfl)
    ·rw[if_neg h8];exact aW (RK l e acc hl h hd h8) fun o S q=>.inl ⟨l,q⟩
abbrev uy (x:List Sim×List UInt8):AV:=.tup [.c (.pv (.sl (Sim.encL x.1))),.c (.pv (.str x.2))]
theorem Kl (l:List Val)(hsz:Ne.size l≤60000000)(hts:TSh l):jw uy (Sl.pJ (l.length+1) [] l) (den K 91 [P0] [rdB l]):=by
 have hr:Tryz.f91.results=#[.tmp 2,.tmp 3]:=rfl
 have h:=IX (l.length+1) l 0 [] (by omega) hsz hts (.inr rfl)
 have hmy:=fF
 have hmn:=jk
 unfold cmlp at h
 conv at h in ap _ _=>whnf
 obtain⟨o,S,w,hq⟩:=h;have e0:Sim.encL []=[]:=rfl
 simp only[cmH,rdB,e0] at w
 cases hc:Sl.pJ (l.length+1) [] l with
 | none =>
  rw[hc] at hq;rcases hq with⟨m,rfl,q1⟩|⟨m,e',rfl,q1,q2,q3,q4⟩
  ·refine⟨m,?_⟩
   simp only[rdB] at q1 ⊢
   refine ai rfl rfl Tryz.func91 rfl Tryz.ntmps91 ⟨by simp,by simp[LK]⟩ ?_
   simp only[go_sem,reduceLT,Nat.reduceBEq,reduceAdd];rw[au];simp only[go_sem,reduceCtorEq,reduceEqDiff];erw [w];simp only[go_sem,hr,q1]
  ·refine⟨m,?_⟩
   have d0:decide ((0:Int)<((0:Nat):Int))=false:=rfl
   simp only[rdB,e0] at q3 q4 ⊢
   refine ai rfl rfl Tryz.func91 rfl Tryz.ntmps91 ⟨by simp,by simp[LK]⟩ ?_
   simp only[go_sem,reduceLT,Nat.reduceBEq,reduceAdd];rw[au];simp only[go_sem,reduceCtorEq,reduceEqDiff];erw [w];simp only[go_sem,reduceLT,reduceEqDiff,Nat.reduceBEq,af ae,hr,q1,q3,q4,d0,hmn]
 | some y =>
  obtain⟨⟨ps,s⟩,r⟩:=y;rw[hc] at hq
  show den K 91 [P0] [rdB l]=some (.ret (uy (ps,s)) [rdB r])
  rcases hq with⟨_,rfl,q0,q1,q2,q3⟩|⟨rfl,hne,e',rfl,q1,q2,q3,q4⟩
  ·simp only[rdB] at q3 ⊢
   refine ai rfl rfl Tryz.func91 rfl Tryz.ntmps91 ⟨by simp,by simp[LK]⟩ ?_
   simp only[go_sem,reduceLT,Nat.reduceBEq,reduceAdd];rw[au];simp only[go_sem,reduceCtorEq,reduceEqDiff];erw [w];simp only[go_sem,hr,q1,q2,q3]
  ·have d0:decide ((0:Int)<(ps.length:Int))=true:=decide_eq_true (by
    have:ps.length≠0:=fun h=>hne (List.eq_nil_of_length_eq_zero h)
    omega)
   simp only[rdB] at q4 ⊢
   refine ai rfl rfl Tryz.func91 rfl Tryz.ntmps91 ⟨by simp,by simp[LK]⟩ ?_
   simp only[go_sem,reduceLT,Nat.reduceBEq,reduceAdd];rw[au];simp only[go_sem,reduceCtorEq,reduceEqDiff];erw [w];simp only[go_sem,reduceLT,reduceEqDiff,Nat.reduceBEq,reduceAdd,af ae,hr,q1,q3,q4,gL,d0,hmy]
attribute [local go_sem] aZ fy yY kh
theorem zu {l:List Val}{j:Nat}(h:Sl.double (l.drop j)=true):j<l.length:=by
 rcases Nat.lt_or_ge j l.length with h'|h'
 ·exact h'
 ·rw[List.drop_eq_nil_iff.2 h'] at h;cases h
theorem EK (l:List Val)(hsz:Ne.size l≤100000000)(hts:TSh l):∀ (n:Nat) (i:Nat) (cb:Int) (e:Nat) (ps:List Prt),ps.length+n=16→i≤l.length→(e=50∨ps=[]) →
  Ends (exL K 48 cxlp (cx4H l i cb e ps)) fun o S=>match Sl.cpx n cb (l.drop i) with
   | some c=>CYes (ps++c.parts) c.pseudo o S
   | none=>CNo o S∨(o=.exit 0∧S.nt=141∧S.sl 2=.c (.loc 2 0)∧S.bx 2=some zcpx)
 | 0,i,cb,e,ps,h,hi,he=>by
  refine aW (PM l i cb e ps (by omega)) fun o S q=>.inr q
 | n+1,i,cb,e,ps,h,hi,he=>by
  have hl:l.length≤100000000:=Nat.le_trans (Ne.bD l) hsz
  have hp:=zI l cb e (encQ ps) hsz hts ((l.drop i).length+1) i 0 [] true (by omega) hi rfl (Nat.zero_le _) (.inr rfl)
  obtain⟨o,S,w,rfl,hk,hend⟩:=hp;rw[Sl.cpx];unfold PEnd at hend;cases hpt:Sl.part ((l.drop i).length+1) true (l.drop i) with
  | none =>
   rw[hpt] at hend;obtain⟨j,e7,acc,gb10,gb7,_,_⟩:=hend;exact aW (Sq l i cb e ps hl (by omega) he S w hk j e7 acc gb10 gb7) fun o S q=>.inl q
  | some y =>
   obtain⟨acc,r⟩:=y;rw[hpt] at hend;obtain⟨j,e7,j1,j2,j3,hod,gb10,gb7,he7⟩:=hend;rw[List.nil_append] at gb7 he7
   subst j1;simp only;cases hd:Sl.double (l.drop j) with
   | true =>
    rw[if_pos rfl,List.drop_drop];cases hn:Sl.name (l.drop (j+2)) with
    | none =>
     simp only;exact aW (Lf l i cb e ps hl (by omega) he S w hk j e7 acc (zu hd) hd hn gb10 gb7) fun o S q=>.inl q
    | some z =>
     obtain⟨s,r⟩:=z;have hh:=HR l i cb e ps hl (by omega) he S w hk j e7 acc (zu hd) hd s r hn gb10 gb7
     cases r with
     | nil =>
      simp only;by_cases hc:(s=Sl.eH∨s=Sl.fJ)∧acc.length≤8
      ·rw[if_pos hc];rw[if_pos ⟨rfl,hc⟩] at hh;exact hh
      ·rw[if_neg hc];rw[if_neg (fun h=>hc h.2)] at hh
       exact aW hh fun o S q=>.inl q
     | cons v r =>
      simp only;rw[if_neg (fun h=>by cases h.1)] at hh
      exact aW hh fun o S q=>.inl q
   | false =>
    rw[if_neg (by simp)]
    by_cases hw:8<acc.length∨acc=[]
    ·rw[if_pos hw];exact aW (Lp l i cb e ps hl (by omega) he S w hk j e7 acc j3 hd hw gb10 gb7) fun o S q=>.inl q
    ·rw[if_neg hw];have h8:acc.length≤8:=by
      rcases Nat.lt_or_ge 8 acc.length with h|h
      ·exact absurd (.inl h) hw
      ·exact h
     have hne:acc≠[]:=fun h=>hw (.inr h)
     by_cases hjl:j<l.length
     ·have hem:(l.drop j).isEmpty=false:=by
       cases hx:l.drop j with
       | nil=>have:=List.drop_eq_nil_iff.1 hx;omega
       | cons _ _=>rfl
      rw[hem,if_neg (by simp)]
      obtain⟨m,m1,m2,m3,hc⟩:=LO l j false hl j3;rw[Qg l i cb e ps hl (by omega) he S w hk j e7 acc hjl hd h8 hne gb10 gb7 _ m hc,←m1]
      have ih:=EK l hsz hts n m (Sl.comb (l.drop j)).1 50 (ps++[⟨cb,acc⟩]) (by rw[List.length_append,List.length_singleton];omega) m3 (.inl rfl)
      refine aW ih fun o S q => ?_
      cases hcx:Sl.cpx n (Sl.comb (l.drop j)).1 (l.drop m) with
      | none=>rw[hcx] at q;exact q
      | some c =>
       rw[hcx] at q
       simp only[Option.map_some];simp only at q
       rw[List.append_assoc,List.singleton_append] at q
       exact q
     ·have hje:j=l.length:=by omega
      subst hje;rw[List.drop_length,List.isEmpty_nil,if_pos rfl];exact Ow l i cb e ps hl (by omega) he S w hk e7 acc hd h8 hne gb10 gb7
def cpxA (x:Option Cpx):AV:=match x with
 | some c=>.tup [.agg [.pv (.sl (encQ c.parts)),.pv (.str c.pseudo)],.c (.pv (.bool true))]
 | none=>.tup [.agg [.nils,.pv (.str [])],.c (.pv (.bool false))]
theorem rD (l:List Val)(hsz:Ne.size l≤100000000)(hts:TSh l):den K 48 [L (encL l)] []=some (.ret (cpxA (Sl.cpx 16 0 l)) []):=by
 have hr:Tryz.f48.results=#[.cell 2 47,.tmp 3]:=rfl
 have z0:((0:Nat):Int)=0:=rfl
 have h:=EK l hsz hts 16 0 0 0 [] rfl (Nat.zero_le _) (.inr rfl)
 rw[List.drop_zero] at h;obtain⟨o,S,w,h⟩:=h;unfold cxlp at w
 conv at w in ap _ _=>whnf
 simp only[cx4H,rb0,z0] at w
 unfold cpxA;cases hx:Sl.cpx 16 0 l with
 | some c =>
  rw[hx] at h;obtain⟨rfl,s2,s3,b2⟩:=h;rw[List.nil_append] at b2
  refine ai rfl rfl Tryz.func48 rfl Tryz.ntmps48 ⟨by simp,by simp[LK]⟩ ?_
  simp only[go_sem,reduceLT,reduceCtorEq,reduceEqDiff,Nat.reduceBEq,reduceAdd,reduceSub,reduceLeDiff,aa aJ aM,aa aZ cg];rw[au];simp only[go_sem,reduceEqDiff,Nat.reduceBEq,reduceSub,reduceLeDiff];erw [w];simp only[go_sem,reduceAdd,hr,s2,s3,b2]
 | none =>
  rw[hx] at h;rcases h with⟨rfl,s2,s3,b2⟩|⟨rfl,hn,s2,b2⟩
  ·refine ai rfl rfl Tryz.func48 rfl Tryz.ntmps48 ⟨by simp,by simp[LK]⟩ ?_
   simp only[go_sem,reduceLT,reduceCtorEq,reduceEqDiff,Nat.reduceBEq,reduceAdd,reduceSub,reduceLeDiff,aa aJ aM,aa aZ cg];rw[au];simp only[go_sem,reduceEqDiff,Nat.reduceBEq,reduceSub,reduceLeDiff];erw [w];simp only[go_sem,reduceAdd,hr,s2,s3,b2]
  ·refine ai rfl rfl Tryz.func48 rfl Tryz.ntmps48 ⟨by simp,by simp[LK]⟩ ?_
   simp only[go_sem,reduceLT,reduceCtorEq,reduceEqDiff,Nat.reduceBEq,reduceAdd,reduceSub,reduceLeDiff,aa aJ aM,aa aZ cg];rw[au];simp only[go_sem,reduceEqDiff,Nat.reduceBEq,reduceSub,reduceLeDiff];erw [w];simp only[go_sem,reduceLT,reduceEqDiff,Nat.reduceBEq,reduceAdd,aa aZ cg,hr,hn,s2,b2]
attribute [local go_sem] LB RR ag bc cV cy bK bg OC Tp
abbrev OH (s:List UInt8)(i:Nat)(ys:List Tok):St := { sl:=upd (upd (upd bot 4 (I i)) 3 (.c (.own 91 (ys.map Tok.enc)))) 0 (T s),bx:=nobox,nt:=27 }
theorem Ss {t:Tok}(h:Tk.Good t):(t.kind != 0)=true:=by
 rw[bne_iff_ne];cases h<;>simp
theorem KI (s:List UInt8)(hs:s.length<4000000000):∀ (l:List UInt8) (i:Nat) (ys:List Tok),s.drop i=l→i≤s.length→ys.length+l.length<4000000000 →
  Ends (exL K 33 (.loop (ap Tryz.f33 3)) (OH s i ys)) fun o S=>o=.exit 0∧S.nt=27∧S.sl 3=.c (.own 91 ((ys++Tk.all l).map Tok.enc)):=by
 refine Tk.rM (Q:=fun l=>∀ (i:Nat) (ys:List Tok),s.drop i=l→i≤s.length→ys.length+l.length<4000000000 →
  Ends (exL K 33 (.loop (ap Tryz.f33 3)) (OH s i ys)) fun o S=>o=.exit 0∧S.nt=27∧S.sl 3=.c (.own 91 ((ys++Tk.all l).map Tok.enc))) ?_ ?_
 ·intro i ys hd hi _;have hin:i=s.length:=by
   have:=List.drop_eq_nil_iff.1 hd
   omega
  subst hin;rw[Tk.all_nil,List.append_nil]
  conv in ap _ _=>whnf
  rw[aq];simp only[go_sem,reduceLT,reduceCtorEq,reduceEqDiff,Nat.reduceBEq,reduceAdd,aE am,aw]
 ·intro c r ih i ys hd hi hl;obtain⟨g1,g2,g3⟩:=bH hd;have hp:=Tk.mY c r
  have hle:=Tk.BT c r
  have hn:=Kt s i c r hs hd
  have hlt:decide ((i:Int)<(s.length:Int))=true:=decide_eq_true (by omega)
  have hlen:(c::r).length=s.length - i:=by rw[←hd,List.length_drop]
  have hdd:s.drop (i+(Tk.step c r).2)=(c::r).drop (Tk.step c r).2:=by rw[←List.drop_drop,hd]
  have hall:=Tk.all_cons c r
  have ih':=ih (i+(Tk.step c r).2)
  simp only[eZ,Tok.cells] at hn;cases hst:(Tk.step c r).1 with
  | none =>
   rw[hst] at hn hall;simp only[io,Option.getD_none] at hn;simp only[Option.toList_none,List.nil_append] at hall;have e0:((0:Int) != 0)=false:=by decide
   have ih2:=ih' ys hdd (by omega) (by rw[List.length_drop];omega)
   rw[←hall] at ih2
   conv at ih2 in ap _ _=>whnf
   conv in ap _ _=>whnf
   rw[aq];simp only[go_sem,reduceLT,reduceCtorEq,reduceEqDiff,Nat.reduceBEq,reduceAdd,reduceMul,aE am,ao (len:=1) aG bc ag ⟨rfl,by decide,by decide⟩,bq mQ,aU aG,hlt,hn,e0,TV.flat]
   rw[au];simp only[go_sem,reduceCtorEq,reduceEqDiff];exact ih2
  | some t =>
   rw[hst] at hn hall;simp only[io,Option.getD_some] at hn;simp only[Option.toList_some,List.cons_append,List.nil_append] at hall;have e0:=Ss (Tk.zK hst)
   have hla:ys.length+1<bS:=by simp[bS];simp only[List.length_cons] at hl;omega
   have ih2:=ih' (ys++[t]) hdd (by omega) (by rw[List.length_append,List.length_drop];simp only[List.length_cons,List.length_nil] at *;omega)
   rw[List.append_assoc,List.cons_append,List.nil_append,←hall] at ih2;have hys:(ys++[t]).map Tok.enc=ys.map Tok.enc++[[.int .i64 t.kind,.str t.text,.int .i64 t.n]]:=by simp[Tok.enc]
   simp only[OH,hys] at ih2
   conv at ih2 in ap _ _=>whnf
   conv in ap _ _=>whnf
   rw[aq];simp only[go_sem,reduceLT,reduceCtorEq,reduceEqDiff,Nat.reduceBEq,reduceAdd,reduceMul,aE am,ao (len:=1) aG bc ag ⟨rfl,by decide,by decide⟩,bq mQ,aU aG,hlt,hn,e0,TV.flat,hla,lG,DS]
   rw[au];simp only[go_sem,reduceCtorEq,reduceEqDiff];exact ih2
theorem Cp (s:List UInt8)(hs:s.length<4000000000):den K 33 [T s] []=some (.ret (L ((Tk.all s).map Tok.enc)) []):=by
 refine ai rfl rfl Tryz.func33 rfl Tryz.ntmps33 ⟨by simp,by simp[LK]⟩ ?_
 have hr:Tryz.f33.results=#[.tmp 2]:=rfl
 have hl:=KI s hs s 0 [] rfl (Nat.zero_le _) (by simp;omega)
 conv at hl in ap _ _=>whnf
 obtain⟨o,S',e2,rfl,hn,h3⟩:=hl;simp only[List.nil_append] at h3;simp only[go_sem,reduceLT,reduceEqDiff,Nat.reduceBEq,reduceAdd,ao (len:=0) aG bc ag ⟨rfl,by decide,by decide⟩]
 rw[au];simp only[go_sem,reduceCtorEq,reduceEqDiff];erw [e2];simp only[go_sem,reduceLT,reduceEqDiff,Nat.reduceBEq,reduceAdd,hr,hn,h3]
theorem NK (t:Tok)(hn:I64 t.n)(hl:t.text.length<1000000000):den K 153 [.agg t.cells] []=some (.ret (B (Tk.may t)) []):=by
 have h1:=Nw t hn (by omega)
 have hlen:=RL t hn
 have h2:=Cp (oneS t) (by omega)
 have hal:=Tk.Il (oneS t)
 unfold Tk.may;generalize Tk.all (oneS t)=a at h2 hal;simp only[Tok.cells] at h1 ⊢;refine ai rfl rfl Tryz.func153 rfl Tryz.ntmps153 ⟨by simp,by simp[LK]⟩ ?_
 have hr:Tryz.f153.results=#[.tmp 2]:=rfl
 match a with
 | [] =>
  have e:((0:Int)==1)=false:=by decide
  have e2:decide (([]:List Tok)=[t])=false:=by simp
  rw[e2];simp[go_sem,reduceLT,reduceEqDiff,Nat.reduceBEq,reduceAdd,af aG,h1,h2]
 | [y] =>
  have heq:=qI y.kind t.kind y.n t.n y.text t.text
  rw[rA] at heq;have e2:decide ([y]=[t])=decide (y=t):=by simp
  rw[e2];simp only[List.map_cons,List.map_nil,Tok.enc] at h2;have g0:([[PV.int .i64 y.kind,.str y.text,.int .i64 y.n]]:List (List PV))[(0:Int).toNat]? = some [.int .i64 y.kind,.str y.text,.int .i64 y.n]:=rfl
  have e1:(((0+1:Nat):Int)==1)=true:=by decide
  have e1':(((1:Nat):Int)==1)=true:=by decide
  cases hyt:decide (y=t)<;>rw[hyt] at heq<;>simp only[go_sem,reduceLT,reduceEqDiff,Nat.reduceBEq,reduceAdd,reduceSub,reduceLeDiff,af aG,aj aG,hr,h1,h2,g0,heq,Int.le_refl,e1]
 | y::z::l =>
  have e:(((y::z::l).length:Int)==1)=false:=by rw[beq_eq_false_iff_ne];simp only[List.length_cons];omega
  have e2:decide (y::z::l=[t])=false:=by simp
  rw[e2];generalize y::z::l=b at h2 e;simp only[go_sem,reduceLT,reduceEqDiff,Nat.reduceBEq,reduceAdd,reduceSub,reduceLeDiff,af aG,hr,h1,h2,e]
attribute [local go_sem] Jg jo uA mv lH lk mu
theorem RH (l:List Tok)(hl:l.length≤100000000):∀ (m:Nat) (i:Nat),l.length - i≤m→i≤l.length→∀ (kind:Int) (left:Nat),left<1000→∀ (e:Nat) (acc:List Val),acc.length≤i→(e=93∨acc=[]) →
  Ends (exL K 64 ulp2 (u2H l kind left i e acc)) (ULoop2 l kind left i acc):=by
 intro m
 induction m with
 | zero =>
  intro i hm hi kind left hleft e acc hacc he;obtain rfl:i=l.length:=by omega
  refine aW (NJ l kind left e acc) fun o S q => ?_
  unfold ULoop2;rw[List.drop_length,Ne.kB];refine⟨l.length,List.drop_length,Nat.le_refl _,Nat.le_refl _,.inr ?_⟩
  rw[List.append_nil];exact⟨q.1,q.2.1,q.2.2.1,q.2.2.2.1,q.2.2.2.2.1,e,q.2.2.2.2.2⟩
 | succ m ih =>
  intro i hm hi kind left hleft e acc hacc he;by_cases hil:i=l.length
  ·subst hil;refine aW (NJ l kind left e acc) fun o S q => ?_
   unfold ULoop2;rw[List.drop_length,Ne.kB];refine⟨l.length,List.drop_length,Nat.le_refl _,Nat.le_refl _,.inr ?_⟩
   rw[List.append_nil];exact⟨q.1,q.2.1,q.2.2.1,q.2.2.2.1,q.2.2.2.2.1,e,q.2.2.2.2.2⟩
  ·have hlt:i<l.length:=by omega
   have hd:l.drop i=l[i]::l.drop (i+1):=List.drop_eq_getElem_cons hlt
   have hg:l[i]? = some l[i]:=List.getElem?_eq_getElem hlt
   generalize l[i]=t at hd hg;have hu:=Ne.ig kind left t (l.drop (i+1))
   rw[←hd] at hu;cases hb:Ne.cY kind t with
   | true =>
    refine aW (Rp l kind left i e acc t hg hl hb) fun o S q => ?_
    rw[hb,if_pos rfl] at hu;unfold ULoop2;rw[hu];exact⟨i+1,rfl,hlt,by omega,.inl (by rw[List.append_nil];exact q)⟩
   | false =>
    rw[hb,if_neg (by simp)] at hu
    by_cases h0:Ne.opens t=0
    ·rw[if_pos h0] at hu;have hs:=Vq l kind left i e acc t hg hl hb he (by omega) h0
     rw[hs];have hacc2:(acc++[Val.mk 1 t []]).length≤i+1:=by rw[List.length_append,List.length_singleton];omega
     have hmm:l.length - (i+1)≤m:=by omega
     have hi:=ih (i+1) hmm hlt kind left hleft 93 (acc++[.mk 1 t []]) hacc2 (Or.inl rfl)
     refine aW hi fun o S q => ?_
     unfold ULoop2 at q ⊢
     rw[hu];cases hv:Ne.dT kind left (l.drop (i+1)) with
     | none=>rw[hv] at q;exact q
     | some x =>
      rw[hv] at q
      obtain⟨j,q1,q2,q3,q4⟩:=q;have ha:acc++Val.mk 1 t []::x.1=acc++[Val.mk 1 t []]++x.1:=by simp
      refine⟨j,q1,q2,by omega,?_⟩
      show Ret2 (encL (acc++Val.mk 1 t []::x.1)) _ _ _ _∨_
      rw[ha];exact q4
    ·rw[if_neg h0] at hu;cases left with
     | zero =>
      refine aW (Tg l kind i e acc t hg hl hb h0) fun o S q => ?_
      unfold ULoop2;rw[hu];exact q
     | succ n =>
      have hn:n<1000:=by omega
      have hmm:l.length - (i+1)≤m:=by omega
      have hin:=Qc (ih (i+1) hmm hlt (Ne.opens t) n hn 0 [] (Nat.zero_le _) (Or.inr rfl))
      unfold UDen2 at hin;simp only at hu;cases hv:Ne.dT (Ne.opens t) n (l.drop (i+1)) with
      | none =>
       rw[hv] at hin hu;obtain⟨a,b,hin⟩:=hin;refine aW (Un l kind n i e acc t hg hl hn hb h0 a b hin) fun o S q => ?_
       unfold ULoop2;rw[hu];exact q
      | some x =>
       obtain⟨vs,rest⟩:=x;rw[hv] at hin hu;obtain⟨j,q1,q2,q3,hin⟩:=hin;have hs:=VE l kind n i j e acc t vs hg hl hn hb he (by omega) h0 hin
       rw[hs];have hacc2:(acc++[Val.mk (Ne.opens t) (if Ne.opens t=5 then t else Ne.tok0) vs]).length≤j:=by rw[List.length_append,List.length_singleton];omega
       have hmm2:l.length - j≤m:=by omega
       have hi:=ih j hmm2 q2 kind (n+1) hleft 93 (acc++[.mk (Ne.opens t) (if Ne.opens t=5 then t else Ne.tok0) vs]) hacc2 (Or.inl rfl)
       refine aW hi fun o S q => ?_
       unfold ULoop2 at q ⊢
       rw[q1] at q
       simp only at hu;rw[hu];cases hv2:Ne.dT kind (n+1) rest with
       | none=>rw[hv2] at q;exact q
       | some y =>
        rw[hv2] at q
        obtain⟨j',r1,r2,r3,r4⟩:=q;have ha:acc++Val.mk (Ne.opens t) (if Ne.opens t=5 then t else Ne.tok0) vs::y.1=acc++[Val.mk (Ne.opens t) (if Ne.opens t=5 then t else Ne.tok0) vs]++y.1:=by simp
        refine⟨j',r1,r2,by omega,?_⟩
        show Ret2 (encL (acc++Val.mk (Ne.opens t) (if Ne.opens t=5 then t else Ne.tok0) vs::y.1)) _ _ _ _∨_
        rw[ha];exact r4
theorem HF (l:List Tok)(hl:l.length≤100000000)(left:Nat)(hleft:left<1000):UDen2 l 0 left 0 :=
 Qc (RH l hl l.length 0 (by omega) (Nat.zero_le _) 0 left hleft 0 [] (Nat.zero_le _) (Or.inr rfl))
def vx (deep:Int)(l:List Tok):AV :=
 if deep<1∨60<deep then .tup [.c .nils,.c (.pv (.int .i64 1))]
 else match Ne.dT 0 deep.toNat l with
  | some x=>.tup [.c (.pv (.sl (encL x.1))),.c (.pv (.int .i64 0))]
  | none=>.tup [.c .nils,.c (.pv (.int .i64 20))]
theorem FV (l:List Tok)(hl:l.length≤100000000)(deep:Int):den K 32 [L (l.map Tok.enc),I deep] []=some (.ret (vx deep l) []):=by
 refine ai rfl rfl Tryz.func32 rfl Tryz.ntmps32 ⟨by simp,by simp[LK]⟩ ?_
 have hr:Tryz.f32.results=#[.tmp 4,.tmp 5]:=rfl
 unfold vx;by_cases h1:deep<1
 ·have e1:decide (deep<1)=true:=decide_eq_true h1
  rw[if_pos (.inl h1)];simp only[go_sem,reduceLT,reduceEqDiff,Nat.reduceBEq,reduceAdd,hr,e1]
 ·have e1:decide (deep<1)=false:=decide_eq_false h1
  by_cases h2:60<deep
  ·have e2:decide (60<deep)=true:=decide_eq_true h2
   rw[if_pos (.inr h2)];simp only[go_sem,reduceLT,reduceEqDiff,Nat.reduceBEq,reduceAdd,hr,e1,e2]
  ·have e2:decide (60<deep)=false:=decide_eq_false h2
   rw[if_neg (by omega)]
   obtain⟨d,rfl⟩:∃ d:Nat,deep=d:=⟨deep.toNat,by omega⟩
   rw[Int.toNat_natCast];have hu:=HF l hl d (by omega)
   unfold UDen2 at hu;rw[List.drop_zero] at hu;have z0:((0:Nat):Int)=0:=rfl
   rw[z0] at hu;cases hv:Ne.dT 0 d l with
   | some x =>
    rw[hv] at hu;obtain⟨j,_,_,_,hu⟩:=hu;simp only[go_sem,reduceLT,reduceCtorEq,reduceEqDiff,Nat.reduceBEq,reduceAdd,reduceSub,reduceLeDiff,hr,e1,e2,hu]
   | none =>
    rw[hv] at hu;obtain⟨a,b,hu⟩:=hu;simp only[go_sem,reduceLT,reduceCtorEq,reduceEqDiff,Nat.reduceBEq,reduceAdd,reduceSub,reduceLeDiff,hr,e1,e2,hu]
theorem KZ (l:List Tok)(hl:l.length≤1000000)(deep:Int):den K 98 [L (l.map Tok.enc),I deep] []=some (.ret (nZ deep l) []):=by
 refine eX (F:=xn) rfl ?_
 unfold xn;simp only[IV];rw[if_pos hl]
attribute [local go_sem] JZ BE Sj Sy SC SI TW
abbrev encC (l:List Cpx):List (List PV):=l.map Cpx.enc
theorem yR (l:List Cpx):lens 2 (encC l)=true:=by
 simp only[lens,List.all_map,List.all_eq_true];intro x _;rfl
theorem Fe (l:List Cpx)(c:Cpx):encC l++[[.sl (encQ c.parts),.str c.pseudo]]=encC (l++[c]):=by
 show _=(l++[c]).map Cpx.enc
 rw[List.map_append];rfl
theorem lL (l:List (List Val)):(encP l).length=l.length:=List.length_map ..
abbrev psH (parts:List (List Val))(i e:Nat)(out:List Cpx):St :=
  { sl:=upd (upd (upd bot 6 (I i)) 5 (L (encP parts))) 4 (.c (.own e (encC out))),bx:=nobox,nt:=38 }
noncomputable def pslp:Code:=.loop (ap Tryz.f18 4)
theorem MG (parts:List (List Val))(e:Nat)(out:List Cpx) :
  Ends (exL K 18 pslp (psH parts parts.length e out)) fun o S=>o=.exit 0∧S.nt=38∧S.sl 4=.c (.own e (encC out)):=by
 have hlt:decide ((parts.length:Int)<(parts.length:Int))=false:=decide_eq_false (by omega)
 unfold pslp
 conv in ap _ _=>whnf
 rw[aq];simp only[go_sem,reduceLT,reduceEqDiff,Nat.reduceBEq,reduceAdd,af cv,lL,aw]
theorem zH (parts:List (List Val))(i e:Nat)(out:List Cpx)(p:List Val)(hi:parts[i]? = some p)(hpl:parts.length≤200000000)(hsz:Ne.size p≤100000000)(hts:TSh p)
  (h:Sl.cpx 16 0 (Sl.trim p)=none∨32≤i) :
  Ends (exL K 18 pslp (psH parts i e out)) fun o S=>o=.ret∧S.sl 2=.c .nils∧S.sl 3=I 40:=by
 have hil:i<parts.length:=(List.getElem?_eq_some_iff.1 hi).1
 have hlt:decide ((i:Int)<(parts.length:Int))=true:=decide_eq_true (by omega)
 have hget:(encP parts)[(i:Int).toNat]? = some [.sl (encL p)]:=by simp[hi]
 have ht:=pC p (Nat.le_trans (Ne.bD p) hsz)
 have hc:=rD (Sl.trim p) (Nat.le_trans (jF p) hsz) (mq hts)
 unfold pslp
 conv in ap _ _=>whnf
 rw[aq];cases hx:Sl.cpx 16 0 (Sl.trim p) with
 | none =>
  rw[hx] at hc;unfold cpxA at hc;simp only at hc;simp only[go_sem,reduceLT,reduceEqDiff,Nat.reduceBEq,reduceAdd,af cv,aj cv,lL,hlt,hget,Int.natCast_nonneg,ht,hc,TV.flat,aw]
 | some c =>
  rw[hx] at hc h;unfold cpxA at hc;simp only at hc;have h32:32≤i:=by
   rcases h with h|h
   ·cases h
   ·exact h
  have e32:decide ((32:Int)≤(i:Int))=true:=decide_eq_true (by omega)
  simp only[go_sem,reduceLT,reduceEqDiff,Nat.reduceBEq,reduceAdd,af cv,aj cv,lL,hlt,hget,Int.natCast_nonneg,ht,hc,e32,TV.flat,aw]
theorem GO (parts:List (List Val))(i e:Nat)(out:List Cpx)(p:List Val)(hi:parts[i]? = some p)(hpl:parts.length≤200000000)(hsz:Ne.size p≤100000000)(hts:TSh p)(ho:out.length≤100)(he:e=47∨out=[])
  (c:Cpx) (hx:Sl.cpx 16 0 (Sl.trim p)=some c) (h32:i<32) :
  exL K 18 pslp (psH parts i e out)=exL K 18 pslp (psH parts (i+1) 47 (out++[c])):=by
 have hil:i<parts.length:=(List.getElem?_eq_some_iff.1 hi).1
 have hlt:decide ((i:Int)<(parts.length:Int))=true:=decide_eq_true (by omega)
 have hget:(encP parts)[(i:Int).toNat]? = some [.sl (encL p)]:=by simp[hi]
 have ht:=pC p (Nat.le_trans (Ne.bD p) hsz)
 have hc:=rD (Sl.trim p) (Nat.le_trans (jF p) hsz) (mq hts)
 rw[hx] at hc;unfold cpxA at hc;simp only at hc;have e32:decide ((32:Int)≤(i:Int))=false:=decide_eq_false (by omega)
 have hw:IntKind.i64.wrap ((i:Int)+1)=((i+1:Nat):Int):=aX i (by omega)
 have hown:e=47∨(encC out).isEmpty=true:=by
  rcases he with rfl|rfl
  ·exact .inl rfl
  ·exact .inr rfl
 have hlim:out.length+1<bS:=by unfold bS;omega
 have hlv:=yR out
 unfold pslp
 conv in ap _ _=>whnf
 conv in ap _ _=>whnf
 conv in exL _ _ _ (psH parts i e out)=>rw[aq]
 simp only[go_sem,reduceLT,reduceCtorEq,reduceEqDiff,Nat.reduceBEq,reduceAdd,reduceMul,af cv,aj cv,ao (len:=1) aL fy aZ ⟨rfl,by decide,by decide⟩,bq mO,aU aL,lL,hlt,hget,Int.natCast_nonneg,ht,hc,e32,hw,hown,hlim,hlv,fm,Fe,TV.flat]
 rw[au];simp only[go_sem,reduceEqDiff]
theorem yd (parts:List (List Val))(hpl:parts.length≤200000000)(hp:∀ p∈parts,Ne.size p≤100000000∧TSh p):∀ (rest:List (List Val)) (i e:Nat) (out:List Cpx),parts.drop i=rest→i≤parts.length→i≤32→out.length=i→(e=47∨out=[]) →
  Ends (exL K 18 pslp (psH parts i e out)) fun o S=>match (if parts.length≤32 then Sl.all_ rest else none) with
   | some cs=>o=.exit 0∧S.nt=38∧∃ e',S.sl 4=.c (.own e' (encC (out++cs)))
   | none=>o=.ret∧S.sl 2=.c .nils∧S.sl 3=I 40
 | [],i,e,out,hd,hi,h32,hol,he=>by
  have hin:i=parts.length:=by
   have:=List.drop_eq_nil_iff.1 hd
   omega
  have h3:parts.length≤32:=by omega
  have hall:Sl.all_ []=some []:=rfl
  rw[if_pos h3,hall];subst hin;refine aW (MG parts e out) fun o S q=>⟨q.1,q.2.1,e,?_⟩
  rw[List.append_nil];exact q.2.2
 | p::rest,i,e,out,hd,hi,h32,hol,he=>by
  obtain⟨g1,g2,g3⟩:=bH hd;have hpm:=hp p (List.mem_of_getElem? g1)
  cases hx:Sl.cpx 16 0 (Sl.trim p) with
  | none =>
   have hall:(if parts.length≤32 then Sl.all_ (p::rest) else none)=none:=by
    split
    ·rw[Sl.all_,hx]
    ·rfl
   rw[hall];exact zH parts i e out p g1 hpl hpm.1 hpm.2 (.inl hx)
  | some c =>
   by_cases hi32:32≤i
   ·have h3:¬ parts.length≤32:=by omega
    rw[if_neg h3];exact zH parts i e out p g1 hpl hpm.1 hpm.2 (.inr hi32)
   ·rw[GO parts i e out p g1 hpl hpm.1 hpm.2 (by omega) he c hx (by omega)]
    refine aW (yd parts hpl hp rest (i+1) 47 (out++[c]) g2 (by omega) (by omega) (by rw[List.length_append,List.length_singleton];omega) (.inl rfl)) fun o S q => ?_
    by_cases h3:parts.length≤32
    ·rw[if_pos h3] at q ⊢
     rw[Sl.all_,hx];cases ha:Sl.all_ rest with
     | none=>rw[ha] at q;exact q
     | some cs =>
      rw[ha] at q
      simp only at q ⊢
      rw[List.append_assoc,List.singleton_append] at q
      exact q
    ·rw[if_neg h3] at q ⊢
     exact q
def ky (x:Option (List Cpx)):AV:=match x with
 | some cs=>.tup [.c (.pv (.sl (encC cs))),.c (.pv (.int .i64 0))]
 | none=>.tup [.c .nils,.c (.pv (.int .i64 40))]
theorem Jj (s:List UInt8):∀ (l:List Val),(Sl.at_ s l).length≤l.length+1∧∀ p∈Sl.at_ s l,Ne.size p≤Ne.size l
 | []=>by
  refine⟨Nat.le_refl _,fun p hp => ?_⟩
  obtain rfl:p=[]:=by simpa[Sl.at_] using hp
  exact Nat.le_refl _
 | v::l=>by
  obtain⟨h1,h2⟩:=Jj s l;rw[Sl.at_,Ne.size];split
  ·refine⟨by rw[List.length_cons,List.length_cons];omega,fun p hp => ?_⟩
   rcases List.mem_cons.1 hp with rfl|hp
   ·rw[Ne.size];omega
   ·have:=h2 p hp;omega
  ·split
   ·refine⟨by rw[List.length_singleton,List.length_cons];omega,fun p hp => ?_⟩
    obtain rfl:p=[v]:=by simpa using hp
    rw[Ne.size,Ne.size];omega
   ·rename_i q qs e;rw[e] at h1 h2;refine⟨by rw[List.length_cons] at h1 ⊢;rw[List.length_cons];omega,fun p hp => ?_⟩
    rcases List.mem_cons.1 hp with rfl|hp
    ·rw[Ne.size];have:=h2 q (by simp)
     omega
    ·have:=h2 p (by simp[hp]);omega
theorem HV (l:List Val)(hsz:Ne.size l≤100000000)(hts:TSh l):den K 18 [L (encL l)] []=some (.ret (ky (Sl.parse l)) []):=by
 have hr:Tryz.f18.results=#[.tmp 2,.tmp 3]:=rfl
 have hl:l.length≤100000000:=Nat.le_trans (Ne.bD l) hsz
 have hat:=Ux l [44] hl
 obtain⟨a1,a2⟩:=Jj [44] l;have a3:=Sl.OG [44] l
 unfold Sl.parse ky;generalize Sl.at_ [44] l=parts at hat a1 a2 a3;have z0:((0:Nat):Int)=0:=rfl
 have h:=yd parts (by omega) (fun p hp=>⟨Nat.le_trans (a2 p hp) hsz,sU hts (a3 p hp)⟩) parts 0 47 [] rfl (Nat.zero_le _) (by omega) rfl (.inl rfl)
 obtain⟨o,S,w,h⟩:=h;unfold pslp at w
 conv at w in ap _ _=>whnf
 have en:encC []=[]:=rfl
 simp only[psH,z0,en] at w
 cases hx:(if parts.length≤32 then Sl.all_ parts else none) with
 | some cs =>
  rw[hx] at h;obtain⟨rfl,hn,e',s4⟩:=h;rw[List.nil_append] at s4
  refine ai rfl rfl Tryz.func18 rfl Tryz.ntmps18 ⟨by simp,by simp[LK]⟩ ?_
  simp only[go_sem,reduceLT,reduceCtorEq,reduceEqDiff,Nat.reduceBEq,reduceAdd,ao (len:=0) aL fy aZ ⟨rfl,by decide,by decide⟩,hat]
  rw[au];simp only[go_sem,reduceEqDiff];erw [w];simp only[go_sem,reduceLT,reduceEqDiff,Nat.reduceBEq,reduceAdd,hr,hn,s4]
 | none =>
  rw[hx] at h;obtain⟨rfl,s2,s3⟩:=h;refine ai rfl rfl Tryz.func18 rfl Tryz.ntmps18 ⟨by simp,by simp[LK]⟩ ?_
  simp only[go_sem,reduceLT,reduceCtorEq,reduceEqDiff,Nat.reduceBEq,reduceAdd,ao (len:=0) aL fy aZ ⟨rfl,by decide,by decide⟩,hat]
  rw[au];simp only[go_sem,reduceEqDiff];erw [w];simp only[go_sem,hr,s2,s3]
def wb (x:Option (List Val)):AV:=match x with
 | some v=>.tup [.c (.pv (.sl (encL v))),.c (.pv (.int .i64 0))]
 | none=>.tup [.c .nils,.c (.pv (.int .i64 20))]
theorem parse60 (l:List Tok):vx 60 l=wb (Ne.parse 60 l):=by
 unfold vx wb;rw[if_neg (by omega)]
 unfold Ne.parse
 show (match Ne.dT 0 60 l with|some x=>_|none=>_)=_
 cases Ne.dT 0 60 l<;>rfl
theorem tg (s:List UInt8):(Tk.all s).length≤s.length:=Tk.Il s
theorem JX (s:List UInt8)(hs:s.length≤100000000):den K 11 [T s] []=some (.ret (wb ((Ne.parse 60 (Tk.all s)).map Sl.trim)) []):=by
 have hr:Tryz.f11.results=#[.tmp 2,.tmp 3]:=rfl
 have h1:=Cp s (by omega)
 have hc:=tg s
 have h2:=FV (Tk.all s) (by omega) 60
 rw[parse60] at h2;cases hx:Ne.parse 60 (Tk.all s) with
 | none =>
  rw[hx] at h2;unfold wb at h2 ⊢;simp only[Option.map_none] at h2 ⊢;refine ai rfl rfl Tryz.func11 rfl Tryz.ntmps11 ⟨by simp,by simp[LK]⟩ ?_
  simp only[go_sem,reduceLT,reduceCtorEq,reduceEqDiff,Nat.reduceBEq,reduceAdd,hr,h1,h2,TV.flat,Int.reduceBNe]
 | some v =>
  have hv:=(Ne.lS hx).2.2.1
  have h3:=pC v (Nat.le_trans (Ne.bD v) (by omega))
  rw[hx] at h2;unfold wb at h2 ⊢;simp only[Option.map_some] at h2 ⊢;refine ai rfl rfl Tryz.func11 rfl Tryz.ntmps11 ⟨by simp,by simp[LK]⟩ ?_
  simp only[go_sem,reduceLT,reduceCtorEq,reduceEqDiff,Nat.reduceBEq,reduceAdd,hr,h1,h2,h3,TV.flat,Int.reduceBNe]
theorem Jh {l:List Tok}{v:List Val}{n:Nat}(h:Ne.parse 60 l=some v)(hl:∀ t∈l,t.text.length≤n)(hn:n<1000000000):TSh v:=fun t ht=>by
 obtain⟨_,_,_,c,hc⟩:=Ne.lS h;rw[hc] at ht;rcases List.mem_append.1 ht with ht|ht
 ·have:=hl t ht;omega
 ·obtain⟨k,_,rfl⟩:=List.mem_map.1 ht;unfold Ne.gB;simp
theorem Ki (s:List UInt8)(hs:s.length≤100000000):den K 20 [T s] []=some (.ret (ky (Sl.read s)) []):=by
 have hr:Tryz.f20.results=#[.tmp 2,.tmp 3]:=rfl
 have h1:=JX s hs
 unfold Sl.read;cases hx:Ne.parse 60 (Tk.all s) with
 | none =>
  rw[hx] at h1;unfold wb at h1;unfold ky;simp only[Option.map_none,Option.bind_none] at h1 ⊢;refine ai rfl rfl Tryz.func20 rfl Tryz.ntmps20 ⟨by simp,by simp[LK]⟩ ?_
  simp only[go_sem,reduceLT,reduceCtorEq,reduceEqDiff,Nat.reduceBEq,reduceAdd,hr,h1,TV.flat,Int.reduceBNe]
 | some v =>
  have hv:=(Ne.lS hx).2.2.1
  have hc:=tg s
  have hts:=Jh hx (Tk.CA s) (by omega)
  have h2:=HV (Sl.trim v) (Nat.le_trans (jF v) (by omega)) (mq hts)
  rw[hx] at h1;unfold wb at h1;simp only[Option.map_some,Option.bind_some] at h1 ⊢;unfold ky at h2 ⊢;cases hy:Sl.parse (Sl.trim v) with
  | none =>
   rw[hy] at h2;simp only at h2 ⊢;refine ai rfl rfl Tryz.func20 rfl Tryz.ntmps20 ⟨by simp,by simp[LK]⟩ ?_
   simp only[go_sem,reduceLT,reduceCtorEq,reduceEqDiff,Nat.reduceBEq,reduceAdd,hr,h1,h2,TV.flat,Int.reduceBNe]
  | some cs =>
   rw[hy] at h2;simp only at h2 ⊢;refine ai rfl rfl Tryz.func20 rfl Tryz.ntmps20 ⟨by simp,by simp[LK]⟩ ?_
   simp only[go_sem,reduceLT,reduceCtorEq,reduceEqDiff,Nat.reduceBEq,reduceAdd,hr,h1,h2,TV.flat,Int.reduceBNe]
attribute [local go_sem] qC jd dz fc aN cj eF fQ fS uk
theorem iG (k k' a a' b b':Int)(n n' v v':List UInt8):eA Tryz.prog 146 [.int .i64 k,.str n,.str v,.int .i64 a,.int .i64 b] [.int .i64 k',.str n',.str v',.int .i64 a',.int .i64 b']=some ((k==k')&&((n==n')&&((v==v')&&((a==a')&&((b==b')&&true))))):=by kernel_rfl
theorem aD (k a b:Int)(n v:List UInt8)(l:List (List PV)):den K 103 [.agg [.pv (.int .i64 k),.pv (.str n),.pv (.str v),.pv (.int .i64 a),.pv (.int .i64 b),.pv (.sl l)]] []=some (.ret (.agg [.pv (.int .i64 k),.pv (.str n),.pv (.str v),.pv (.int .i64 a),.pv (.int .i64 b)]) []):=by
 have hr:Tryz.f103.results=#[.cell 2 146]:=rfl
 refine ai rfl rfl Tryz.func103 rfl Tryz.ntmps103 ⟨by simp,by simp[LK]⟩ ?_
 simp only[go_sem,reduceLT,reduceEqDiff,Nat.reduceBEq,reduceAdd,reduceSub,reduceLeDiff,aa jd oC,hr]
noncomputable def si4lp:Code:=.loop (ap Tryz.f52 4)
inductive Fin4:Sim→Prop
 | mk {k:Int} {n v:List UInt8} {a b:Int} {l:List Sim} (hll:l.length≤100000000) (hl:∀ x∈l,Fin4 x):Fin4 (Sim.mk k n v a b l)
noncomputable def sa4lp:Code:=.loop (ap Tryz.f22 9)
noncomputable def sa4op:Code:=.loop (ap Tryz.f22 4)
end Go.Abs
