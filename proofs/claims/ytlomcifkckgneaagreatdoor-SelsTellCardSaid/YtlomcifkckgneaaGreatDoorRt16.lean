/-
  WHAT THE FUNCTIONS COMPUTE, layer 4, the program's reader of selectors: a simple selector, whole; pseudo-elements, ends, combinators.
-/
import Derived.Test.YtlomcifkckgneaaGreatDoorRt15
set_option maxHeartbeats 8000000
open Nat (reduceEqDiff reduceAdd reduceLT reduceLeDiff reduceSub reduceMul)
set_option linter.unusedSimpArgs false
set_option linter.unusedVariables false
namespace Go.Abs
open Go Go.Proofs
set_option maxRecDepth 10000
attribute [local go_sem] c7 bF cD bW bZ db cJ cE a7 ck ce cF c8 bS opd avOf cvOf St.degAt St.put okPV d6 okAV du dv dt cU aM if_true Bool.false_eq_true if_false Option.map_some Option.map_none Option.bind_some Option.bind_none dY dV upd List.toList_toArray cR steal bz mvB dE cV cT AV.deg CV.deg AV.gv AV.isIter cN cI bU List.length_nil List.length_cons List.filterMap_cons List.filterMap_nil beq_iff_eq List.getElem?_cons_zero List.getElem?_cons_succ Option.getD_some d8 eV Bool.false_and Bool.and_false Bool.and_self K_P fq co cO bw lend back idx dedup AV.ren CV.ren TV.ren AV.ptrs CV.ptrs cX AV.flat CV.flat cz cg bc c9 dk eo cj aY cm bt bH cf br eF CV.pv? content bA ownT bd reps pvs chunks cd leave eB cK dr bT bv TV.deg TV.av LK CV.plain CV.noBld c5 eA bound List.map_cons List.map_nil List.all_cons List.all_nil List.any_cons List.any_nil List.contains_cons List.contains_nil List.elem_cons List.elem_nil List.cons_append List.nil_append List.append_nil List.flatMap_cons List.flatMap_nil List.zip_cons_cons List.zip_nil_left List.zip_nil_right List.take_succ_cons List.take_zero List.take_nil List.drop_succ_cons List.drop_zero List.drop_nil List.isEmpty_nil List.isEmpty_cons Bool.and_true Bool.true_and Bool.or_true Bool.true_or Bool.or_false Bool.false_or Bool.not_true Bool.not_false Nat.add_zero Nat.zero_add Option.isNone_none Option.isNone_some Option.getD_none true_and and_true not_true_eq_false not_false_eq_true decide_true decide_false Nat.le_refl and_self Bool.not_eq_true Nat.sub_self or_true true_or Option.some.injEq List.length_map List.nil_eq and_false false_and AV.live CV.live CV.liveIn dU bg Option.orElse_some Option.orElse_none head bm bh Int.lt_irrefl List.length_append ite_self dZ cA dc bC Key.clash Key.sees Key.writes Nat.lt_irrefl gt_iff_lt cH dH false_or or_false beq_self_eq_true Bool.true_beq Bool.false_beq iL dP ff rH rv lQ IG
theorem Cb {l:List Val} {t:Tok} {c:List Val} (h:TSh l) (hm:Val.mk 5 t c∈l):TSh c:=by
 obtain⟨j,hj⟩:=List.getElem?_of_mem hm
 exact KT h hj
theorem vo (g:List Val→Option (Sim×List Val)) (l:List Val) (first:Bool) (hl:Ne.size l≤60000000) (hts:TSh l) (hf:rN l first)
  (hg:∀ t c,Val.mk 5 t c∈l→il simE (g (Sl.trim c)) (den K 140 [P0,B true] [rdB (Sl.trim c)])) :
  il simE (hU g l) (den K 140 [P0,B first] [rdB l]):=by
 have hll:=Ne.bM l
 cases k4:Sl.tokK 4 l with
 | some t=>exact D8 g l first (by omega) hf t k4
 | none =>
 cases k5:Sl.sign [46] l with
 | some r=>exact F2 g l first (by omega) hf k4 r k5
 | none =>
 cases k6:Sl.sign [58] l with
 | none=>exact EX g l first hl hf k4 k5 k6
 | some r =>
  obtain⟨v,hv,_⟩:=Sl.fN k6;refine BA g l first (by omega) hf k4 k5 r k6 ?_
  have hrl0:r.length<l.length:=by rw[hv,List.length_cons];omega
  have hrl:r.length≤60000000:=by omega
  cases h5:Sl.eP 5 r with
  | none=>exact xR g r hrl h5
  | some y =>
   obtain⟨⟨t,c⟩,m⟩:=y;have e:=mN h5
   have hm:Val.mk 5 t c∈l:=by rw[hv,e];simp
   have hsz:Ne.size c<Ne.size l:=js hm
   exact AK g r hrl t c m h5 (wu g t c (Nat.le_trans (Ne.bM c) (by omega)) (Cb hts hm) fun _=>hg t c hm)
theorem lH (g:List Val→Option (Sim×List Val)) (l:List Val) (first:Bool) (hl:Ne.size l≤60000000) (hts:TSh l)
  (hg:∀ t c,Val.mk 5 t c∈l→il simE (g (Sl.trim c)) (den K 140 [P0,B true] [rdB (Sl.trim c)])) :
  il simE (gm g first l) (den K 140 [P0,B first] [rdB l]):=by
 have hll:=Ne.bM l
 cases first with
 | false =>
  rw[pi];exact vo g l false hl hts (.inl rfl) hg
 | true =>
  cases h1:Sl.tokK 1 l with
  | some t =>
   have e:gm g true l=some (.mk 2 (Sl.low t.text) [] 0 0 [],l.tail):=by
    unfold gm;simp only[h1,if_true]
   rw[e];exact zx l (by omega) hts t h1
  | none =>
   cases h2:Sl.sign [42] l with
   | some r =>
    have e:gm g true l=some (.mk 1 [] [] 0 0 [],r):=by
     unfold gm;simp only[h1,h2,if_true]
    rw[e];exact Aj l (by omega) h1 r h2
   | none =>
    rw[qw g _ h1 h2];exact vo g l true hl hts (.inr ⟨h1,h2⟩) hg
theorem qI:∀ (f:Nat) (l:List Val) (first:Bool),Ne.size l≤60000000→TSh l→(∀ t c,Val.mk 5 t c∈l→Ne.size c<f+1) →
  il simE (Sl.simple (f+1) first l) (den K 140 [P0,B first] [rdB l])
 | 0,l,first,hsz,hts,hc=>by
  rw[oh];refine lH _ l first hsz hts fun t c hm => ?_
  have h0:=hc t c hm
  have hl0:=Ne.bM c
  have:c=[]:=List.eq_nil_of_length_eq_zero (by omega)
  subst this;exact lH (fun _=>none) [] true (by rw[Ne.size];omega) (fun t ht=>by rw[Sl.th] at ht;cases ht) (fun t c hm=>by cases hm)
 | f+1,l,first,hsz,hts,hc=>by
  rw[oh];refine lH _ l first hsz hts fun t c hm => ?_
  have h1:Ne.size c<Ne.size l:=js hm
  have h2:=iw c
  have h3:=hc t c hm
  exact qI f (Sl.trim c) true (by omega) (kF (Cb hts hm)) fun t' c' hm'=>by
   have:Ne.size c'<Ne.size (Sl.trim c):=js hm'
   omega
theorem xg (l:List Val) (first:Bool) (hsz:Ne.size l≤60000000) (hts:TSh l) (hne:l≠[]):il simE (Sl.simple (Ne.size l) first l) (den K 140 [P0,B first] [rdB l]):=by
 have hp:1≤Ne.size l:=by
  have:=Ne.bM l
  cases l with
  | nil=>exact absurd rfl hne
  | cons v r=>rw[List.length_cons] at this;omega
 obtain⟨f,hf⟩:∃ f,Ne.size l=f+1:=⟨Ne.size l - 1,by omega⟩
 rw[hf];exact qI f l first hsz hts fun t c hm=>by
  have:Ne.size c<Ne.size l:=js hm
  omega
theorem qp (l:List Val):Sl.double l=match Sl.sign [58] l with
  | some r=>(Sl.sign [58] r).isSome
  | none=>false:=by
 match l with
 | []=>rfl
 | [v] =>
  unfold Sl.sign;simp only;cases Sl.aW [58] v<;>rfl
 | v::w::r =>
  unfold Sl.sign Sl.double;simp only;cases h:Sl.aW [58] v
  ·rfl
  ·simp only[if_true,Bool.true_and];cases Sl.aW [58] w<;>rfl
theorem vt {s:List UInt8} {l r:List Val} (h:Sl.sign s l=some r):l.drop 1=r:=by
 obtain⟨v,e,_⟩:=Sl.fN h;rw[e];rfl
theorem wE (l:List Val) (hl:l.length≤60000000) (hd:Sl.double l=false):den K 139 [P0] [rdB l]=some (.ret (T []) [rdB l]):=by
 have hr:Tryz.f139.results=#[.tmp 2]:=rfl
 have q0:(([]:List UInt8)==[])=true:=rfl
 have q1:(([58]:List UInt8)==[])=false:=rfl
 rw[qp] at hd;cases k1:Sl.sign [58] l with
 | none =>
  have s1:=fp (by omega) k1
  simp only[rdB] at s1 ⊢
  refine ah rfl rfl Tryz.func139 rfl Tryz.ntmps139 ⟨by simp,by simp[LK]⟩ ?_
  simp only[go_sem,reduceLT,reduceCtorEq,reduceEqDiff,Nat.reduceBEq,reduceAdd,reduceSub,reduceLeDiff,reduceMul,ab bD bR,ao (len:=1) aK aL aH ⟨rfl,by decide,by decide⟩,hr,s1,q0]
 | some r =>
  rw[k1] at hd;have k2:Sl.sign [58] r=none:=by
   cases h:Sl.sign [58] r with
   | none=>rfl
   | some _=>simp only[h] at hd;cases hd
  have hrl:r.length≤l.length:=by
   obtain⟨v,e,_⟩:=Sl.fN k1;rw[e,List.length_cons];omega
  have s1:=iH (by omega) k1
  have s2:=fp (by omega) k2
  simp only[rdB] at s1 s2 ⊢
  refine ah rfl rfl Tryz.func139 rfl Tryz.ntmps139 ⟨by simp,by simp[LK]⟩ ?_
  simp only[go_sem,reduceLT,reduceCtorEq,reduceEqDiff,Nat.reduceBEq,reduceAdd,reduceSub,reduceLeDiff,reduceMul,ab bD bR,ao (len:=1) aK aL aH ⟨rfl,by decide,by decide⟩,hr,s1,s2,q0,q1]
theorem Gs (l:List Val) (hl:l.length≤60000000) (hd:Sl.double l=true):match Sl.mw l with
  | some (s,r)=>den K 139 [P0] [rdB l]=some (.ret (T s) [rdB r])
  | none=>den K 139 [P0] [rdB l]=some (.pan dW [rdB l]):=by
 have hr:Tryz.f139.results=#[.tmp 2]:=rfl
 have q1:(([58]:List UInt8)==[])=false:=rfl
 have hmy:=fe
 have hmn:=gR
 rw[qp] at hd;cases k1:Sl.sign [58] l with
 | none=>rw[k1] at hd;cases hd
 | some r =>
  rw[k1] at hd;cases k2:Sl.sign [58] r with
  | none=>simp only[k2] at hd;cases hd
  | some r2 =>
   have hrl:r.length≤l.length:=by
    obtain⟨v,e,_⟩:=Sl.fN k1;rw[e,List.length_cons];omega
   have hrl2:r2.length≤r.length:=by
    obtain⟨v,e,_⟩:=Sl.fN k2;rw[e,List.length_cons];omega
   have s1:=iH (by omega) k1
   have s2:=iH (by omega) k2
   have e2:l.drop 2=r2:=by
    rw[show 2=1+1 from rfl,←List.drop_drop,vt k1,vt k2]
   have hn:=iU r2 (by omega)
   unfold Sl.mw;rw[e2];cases hnm:Sl.name r2 with
   | none =>
    rw[hnm] at hn;obtain⟨m,hn⟩:=fm hn;simp only[rdB] at s1 s2 hn ⊢
    refine ah rfl rfl Tryz.func139 rfl Tryz.ntmps139 ⟨by simp,by simp[LK]⟩ ?_
    simp only[go_sem,reduceLT,reduceCtorEq,reduceEqDiff,Nat.reduceBEq,reduceAdd,reduceSub,reduceLeDiff,reduceMul,ab bD bR,ao (len:=1) aK aL aH ⟨rfl,by decide,by decide⟩,hr,s1,s2,q1,hn]
   | some y =>
    obtain⟨s,m⟩:=y;rw[hnm] at hn;have hn:=er hn
    simp only;by_cases hb:s=Sl.fg
    ·have e3:(s==[98,101,102,111,114,101])=true:=by rw[hb];rfl
     rw[if_pos (.inl hb)];simp only[rdB] at s1 s2 hn ⊢
     refine ah rfl rfl Tryz.func139 rfl Tryz.ntmps139 ⟨by simp,by simp[LK]⟩ ?_
     simp only[go_sem,reduceLT,reduceCtorEq,reduceEqDiff,Nat.reduceBEq,reduceAdd,reduceSub,reduceLeDiff,reduceMul,ab bD bR,ao (len:=1) aK aL aH ⟨rfl,by decide,by decide⟩,hr,s1,s2,q1,hn,e3,hmy]
    ·have e3:(s==[98,101,102,111,114,101])=false:=by rw[beq_eq_false_iff_ne];exact hb
     by_cases ha:s=Sl.fZ
     ·have e4:(s==[97,102,116,101,114])=true:=by rw[ha];rfl
      rw[if_pos (.inr ha)];simp only[rdB] at s1 s2 hn ⊢
      refine ah rfl rfl Tryz.func139 rfl Tryz.ntmps139 ⟨by simp,by simp[LK]⟩ ?_
      simp only[go_sem,reduceLT,reduceCtorEq,reduceEqDiff,Nat.reduceBEq,reduceAdd,reduceSub,reduceLeDiff,reduceMul,ab bD bR,ao (len:=1) aK aL aH ⟨rfl,by decide,by decide⟩,hr,s1,s2,q1,hn,e3,e4,hmy]
     ·have e4:(s==[97,102,116,101,114])=false:=by rw[beq_eq_false_iff_ne];exact ha
      rw[if_neg (by rintro (h|h)<;>contradiction)]
      simp only[rdB] at s1 s2 hn ⊢
      refine ah rfl rfl Tryz.func139 rfl Tryz.ntmps139 ⟨by simp,by simp[LK]⟩ ?_
      simp only[go_sem,reduceLT,reduceCtorEq,reduceEqDiff,Nat.reduceBEq,reduceAdd,reduceSub,reduceLeDiff,reduceMul,ab bD bR,ao (len:=1) aK aL aH ⟨rfl,by decide,by decide⟩,hr,s1,s2,q1,hn,e3,e4,hmn]
theorem xK (ss:List (List UInt8)) (v:Val) (r:List Val):match nS ss (v::r) with
  | some (s,m)=>s∈ss∧m=r∧Sl.aW s v=true
  | none=>∀ s∈ss,Sl.aW s v=false:=by
 obtain⟨k,t,c⟩:=v;have hs:∀ s,Sl.aW s (.mk k t c)=true↔k=1∧t=⟨7,s,0⟩:=fun s=>by
  show ((k==1)&&decide (t=⟨7,s,0⟩))=true↔_
  simp
 have e0:nS ss (.mk k t c::r)=if k=1∧t.kind=7∧t.n=0∧ss.any (t.text == ·)=true then some (t.text,r) else none:=rfl
 rw[e0];by_cases h:k=1∧t.kind=7∧t.n=0∧ss.any (t.text == ·)=true
 ·rw[if_pos h];simp only;obtain⟨h1,h2,h3,h4⟩:=h;rw[List.any_eq_true] at h4;obtain⟨x,hx,he⟩:=h4;have:t.text=x:=by simpa using he
  refine⟨by rw[this];exact hx,(by first|rfl|trivial),(hs _).2 ⟨h1,?_⟩⟩
  cases t;simp_all
 ·rw[if_neg h];simp only;intro s hs2;cases he:Sl.aW s (.mk k t c) with
  | false=>rfl
  | true =>
   obtain⟨h1,h2⟩:=(hs s).1 he;subst h2;exact absurd (show k=1∧(7:Int)=7∧(0:Int)=0∧ss.any (s == ·)=true from⟨h1,rfl,rfl,List.any_eq_true.2 ⟨s,hs2,by simp⟩⟩) h
theorem k9 (l:List Val) (hl:l.length≤60000000):den K 138 [P0] [rdB l]=some (.ret (B (Sl.ol l)) [rdB l]):=by
 have hr:Tryz.f138.results=#[.tmp 2]:=rfl
 cases l with
 | nil =>
  have q1:(((0:Nat):Int)==0)=true:=rfl
  show _=(some (.ret (B true) [rdB []]):Option Res)
  simp only[rdB];refine ah rfl rfl Tryz.func138 rfl Tryz.ntmps138 ⟨by simp,by simp[LK]⟩ ?_
  simp only[go_sem,reduceLT,reduceCtorEq,reduceEqDiff,Nat.reduceBEq,reduceAdd,reduceSub,reduceLeDiff,ab bD bR,af ak,hr,az,q1]
 | cons v r =>
  have q1:(((r.length+1:Nat):Int)==0)=false:=by rw[beq_eq_false_iff_ne];omega
  have hb:=lp (v::r) (by omega)
  show _=(some (.ret (B (Sl.ay v||(Sl.aW [44] v||(Sl.aW [62] v||(Sl.aW [43] v||Sl.aW [126] v))))) [rdB (v::r)]):Option Res)
  cases hv:Sl.ay v with
  | true =>
   have hlen:=(List.dropWhile_sublist Sl.ay (l:=r)).length_le
   have e:decide (((v::r).dropWhile Sl.ay).length<(v::r).length)=true:=by
    rw[List.dropWhile_cons,if_pos hv];exact decide_eq_true (by rw[List.length_cons];omega)
   rw[e] at hb;rw[Bool.true_or];simp only[rdB] at hb ⊢;refine ah rfl rfl Tryz.func138 rfl Tryz.ntmps138 ⟨by simp,by simp[LK]⟩ ?_
   simp only[go_sem,reduceLT,reduceCtorEq,reduceEqDiff,Nat.reduceBEq,reduceAdd,reduceSub,reduceLeDiff,ab bD bR,af ak,hr,az,q1,hb]
  | false =>
   have e1:(v::r).dropWhile Sl.ay=v::r:=by rw[List.dropWhile_cons,if_neg (by rw[hv];simp)]
   have e:decide (((v::r).dropWhile Sl.ay).length<(v::r).length)=false:=by rw[e1];exact decide_eq_false (by omega)
   rw[e,e1] at hb;rw[Bool.false_or];have hs:=ly (v::r) [[44],[62],[43],[126]] (by omega) (by simp)
   have hi:=xK [[44],[62],[43],[126]] v r
   have e3:encT [[44],[62],[43],[126]]=[[.str [44]],[.str [62]],[.str [43]],[.str [126]]]:=rfl
   rw[e3] at hs;unfold uI at hs;cases hp:nS [[44],[62],[43],[126]] (v::r) with
   | none =>
    rw[hp] at hs hi;simp only[List.mem_cons,List.not_mem_nil,or_false,forall_eq_or_imp,forall_eq] at hi;obtain⟨i1,i2,i3,i4⟩:=hi;rw[i1,i2,i3,i4];simp only at hs;have q0:(([]:List UInt8)==[])=true:=rfl
    simp only[rdB] at hb hs ⊢;refine ah rfl rfl Tryz.func138 rfl Tryz.ntmps138 ⟨by simp,by simp[LK]⟩ ?_
    simp only[go_sem,reduceLT,reduceCtorEq,reduceEqDiff,Nat.reduceBEq,reduceAdd,reduceSub,reduceLeDiff,reduceMul,ab bD bR,af ak,ao (len:=4) aK aL aH ⟨rfl,by decide,by decide⟩,hr,az,q1,hb,hs,q0,bne]
   | some y =>
    obtain⟨s,m⟩:=y;rw[hp] at hs hi;simp only at hs hi;obtain⟨i1,rfl,i3⟩:=hi;have q0:(s==[])=false:=by
     simp only[List.mem_cons,List.not_mem_nil,or_false] at i1
     rcases i1 with rfl|rfl|rfl|rfl<;>rfl
    have e4:(Sl.aW [44] v||(Sl.aW [62] v||(Sl.aW [43] v||Sl.aW [126] v)))=true:=by
     simp only[List.mem_cons,List.not_mem_nil,or_false] at i1
     rcases i1 with rfl|rfl|rfl|rfl<;>simp[i3]
    rw[e4];simp only[rdB] at hb hs ⊢;refine ah rfl rfl Tryz.func138 rfl Tryz.ntmps138 ⟨by simp,by simp[LK]⟩ ?_
    simp only[go_sem,reduceLT,reduceCtorEq,reduceEqDiff,Nat.reduceBEq,reduceAdd,reduceSub,reduceLeDiff,reduceMul,ab bD bR,af ak,ao (len:=4) aK aL aH ⟨rfl,by decide,by decide⟩,hr,az,q1,hb,hs,q0,bne]
theorem mB {s t:List UInt8} {v:Val} (h:Sl.aW s v=true) (ht:Sl.aW t v=true):s=t:=by
 obtain⟨k,u,c⟩:=v;have h1:((k==1)&&decide (u=⟨7,s,0⟩))=true:=h
 have h2:((k==1)&&decide (u=⟨7,t,0⟩))=true:=ht
 simp only[Bool.and_eq_true,decide_eq_true_eq] at h1 h2;have:=h1.2.symm.trans h2.2
 injection this
theorem E8 (l:List Val) (hl:l.length≤60000000):den K 92 [P0] [rdB l]=some (.ret (I (Sl.kM l).1) [rdB (Sl.kM l).2]):=by
 have hr:Tryz.f92.results=#[.tmp 2]:=rfl
 have hb:=lp l (by omega)
 have hlen:=(List.dropWhile_sublist Sl.ay (l:=l)).length_le
 unfold Sl.kM;simp only;generalize l.dropWhile Sl.ay=m at *
 have hs:=ly m [[62],[43],[126]] (by omega) (by simp)
 have e3:encT [[62],[43],[126]]=[[.str [62]],[.str [43]],[.str [126]]]:=rfl
 rw[e3] at hs;unfold uI at hs;have q0:(([]:List UInt8)==[62])=false:=rfl
 have q1:(([]:List UInt8)==[43])=false:=rfl
 have q2:(([]:List UInt8)==[126])=false:=rfl
 have none_case:nS [[62],[43],[126]] m=none→den K 92 [P0] [rdB l]=some (.ret (I (if m.length<l.length∧m≠[] then((1:Int),m) else(0,m)).1) [rdB (if m.length<l.length∧m≠[] then((1:Int),m) else(0,m)).2]):=by
  intro hp;rw[hp] at hs;simp only at hs;by_cases hlt:m.length<l.length
  ·rw[decide_eq_true hlt] at hb;cases m with
   | nil =>
    rw[if_neg (by simp)]
    have q3:decide ((0:Int)<((0:Nat):Int))=false:=rfl
    simp only[rdB] at hb hs ⊢;refine ah rfl rfl Tryz.func92 rfl Tryz.ntmps92 ⟨by simp,by simp[LK]⟩ ?_
    simp only[go_sem,reduceLT,reduceCtorEq,reduceEqDiff,Nat.reduceBEq,reduceAdd,reduceLeDiff,reduceMul,ao (len:=3) aK aL aH ⟨rfl,by decide,by decide⟩,af ak,hr,az,hb,hs,q0,q1,q2,q3]
   | cons v r =>
    rw[if_pos ⟨hlt,by simp⟩]
    have q3:decide ((0:Int)<(((r.length+1:Nat)):Int))=true:=decide_eq_true (by omega)
    simp only[rdB] at hb hs ⊢;refine ah rfl rfl Tryz.func92 rfl Tryz.ntmps92 ⟨by simp,by simp[LK]⟩ ?_
    simp only[go_sem,reduceLT,reduceCtorEq,reduceEqDiff,Nat.reduceBEq,reduceAdd,reduceLeDiff,reduceMul,ao (len:=3) aK aL aH ⟨rfl,by decide,by decide⟩,af ak,hr,az,hb,hs,q0,q1,q2,q3]
  ·rw[decide_eq_false hlt] at hb;rw[if_neg fun h=>hlt h.1]
   simp only[rdB] at hb hs ⊢;refine ah rfl rfl Tryz.func92 rfl Tryz.ntmps92 ⟨by simp,by simp[LK]⟩ ?_
   simp only[go_sem,reduceLT,reduceCtorEq,reduceEqDiff,Nat.reduceBEq,reduceAdd,reduceLeDiff,reduceMul,ao (len:=3) aK aL aH ⟨rfl,by decide,by decide⟩,hr,hb,hs,q0,q1,q2]
 cases m with
 | nil=>exact none_case rfl
 | cons v r =>
  have hi:=xK [[62],[43],[126]] v r
  cases hp:nS [[62],[43],[126]] (v::r) with
  | none =>
   rw[hp] at hi;simp only[List.mem_cons,List.not_mem_nil,or_false,forall_eq_or_imp,forall_eq] at hi;obtain⟨i1,i2,i3⟩:=hi;have h1:Sl.sign [62] (v::r)=none:=by unfold Sl.sign;simp only;rw[i1];rfl
   have h2:Sl.sign [43] (v::r)=none:=by unfold Sl.sign;simp only;rw[i2];rfl
   have h3:Sl.sign [126] (v::r)=none:=by unfold Sl.sign;simp only;rw[i3];rfl
   rw[h1,h2,h3];exact none_case hp
  | some y =>
   obtain⟨s,m'⟩:=y;rw[hp] at hs hi;simp only at hs hi;obtain⟨i1,rfl,i3⟩:=hi;have hb2:=lp m' (by rw[List.length_cons] at hlen;omega)
   generalize decide ((v::m').length<l.length)=bl at hb;simp only[List.mem_cons,List.not_mem_nil,or_false] at i1
   rcases i1 with rfl|rfl|rfl
   ·have h1:Sl.sign [62] (v::m')=some m':=by unfold Sl.sign;simp only;rw[i3];rfl
    rw[h1];have p0:(([62]:List UInt8)==[62])=true:=rfl
    simp only[rdB] at hb hs hb2 ⊢;refine ah rfl rfl Tryz.func92 rfl Tryz.ntmps92 ⟨by simp,by simp[LK]⟩ ?_
    simp only[go_sem,reduceLT,reduceCtorEq,reduceEqDiff,Nat.reduceBEq,reduceAdd,reduceLeDiff,reduceMul,ao (len:=3) aK aL aH ⟨rfl,by decide,by decide⟩,hr,hb,hs,hb2,p0]
   ·have n1:Sl.aW [62] v=false:=by
     cases h:Sl.aW [62] v with
     | false=>rfl
     | true=>exact absurd (mB h i3) (by decide)
    have h1:Sl.sign [62] (v::m')=none:=by unfold Sl.sign;simp only;rw[n1];rfl
    have h2:Sl.sign [43] (v::m')=some m':=by unfold Sl.sign;simp only;rw[i3];rfl
    rw[h1,h2];have p0:(([43]:List UInt8)==[62])=false:=rfl
    have p1:(([43]:List UInt8)==[43])=true:=rfl
    simp only[rdB] at hb hs hb2 ⊢;refine ah rfl rfl Tryz.func92 rfl Tryz.ntmps92 ⟨by simp,by simp[LK]⟩ ?_
    simp only[go_sem,reduceLT,reduceCtorEq,reduceEqDiff,Nat.reduceBEq,reduceAdd,reduceLeDiff,reduceMul,ao (len:=3) aK aL aH ⟨rfl,by decide,by decide⟩,hr,hb,hs,hb2,p0,p1]
   ·have n1:Sl.aW [62] v=false:=by
     cases h:Sl.aW [62] v with
     | false=>rfl
     | true=>exact absurd (mB h i3) (by decide)
    have n2:Sl.aW [43] v=false:=by
     cases h:Sl.aW [43] v with
     | false=>rfl
     | true=>exact absurd (mB h i3) (by decide)
    have h1:Sl.sign [62] (v::m')=none:=by unfold Sl.sign;simp only;rw[n1];rfl
    have h2:Sl.sign [43] (v::m')=none:=by unfold Sl.sign;simp only;rw[n2];rfl
    have h3:Sl.sign [126] (v::m')=some m':=by unfold Sl.sign;simp only;rw[i3];rfl
    rw[h1,h2,h3];have p0:(([126]:List UInt8)==[62])=false:=rfl
    have p1:(([126]:List UInt8)==[43])=false:=rfl
    have p2:(([126]:List UInt8)==[126])=true:=rfl
    simp only[rdB] at hb hs hb2 ⊢;refine ah rfl rfl Tryz.func92 rfl Tryz.ntmps92 ⟨by simp,by simp[LK]⟩ ?_
    simp only[go_sem,reduceLT,reduceCtorEq,reduceEqDiff,Nat.reduceBEq,reduceAdd,reduceLeDiff,reduceMul,ao (len:=3) aK aL aH ⟨rfl,by decide,by decide⟩,hr,hb,hs,hb2,p0,p1,p2]
end Go.Abs
