/-
  WHAT THE FUNCTIONS COMPUTE, layer 4, the program's reader of selectors: a compound selector.
  (And 3 texts more.)
-/
import Derived.Test.YtlomcifkckgneaaGreatDoorRt16
set_option maxHeartbeats 8000000
open Nat (reduceEqDiff reduceAdd reduceLT reduceLeDiff reduceSub reduceMul)
set_option linter.unusedSimpArgs false
set_option linter.unusedVariables false
namespace Go.Abs
open Go Go.Proofs
set_option maxRecDepth 10000
attribute [local go_sem] c7 bF cD bW bZ db cJ cE a7 ck ce cF c8 bS opd avOf cvOf St.degAt St.put okPV d6 okAV du dv dt cU aM if_true Bool.false_eq_true if_false Option.map_some Option.map_none Option.bind_some Option.bind_none dY dV upd List.toList_toArray cR steal bz mvB dE cV cT AV.deg CV.deg AV.gv AV.isIter cN cI bU List.length_nil List.length_cons List.filterMap_cons List.filterMap_nil beq_iff_eq List.getElem?_cons_zero List.getElem?_cons_succ Option.getD_some d8 eV Bool.false_and Bool.and_false Bool.and_self K_P fq co cO bw lend back idx dedup AV.ren CV.ren TV.ren AV.ptrs CV.ptrs cX AV.flat CV.flat cz cg bc c9 dk eo cj aY cm bt bH cf br eF CV.pv? content bA ownT bd reps pvs chunks cd leave eB cK dr bT bv TV.deg TV.av LK CV.plain CV.noBld c5 eA bound List.map_cons List.map_nil List.all_cons List.all_nil List.any_cons List.any_nil List.contains_cons List.contains_nil List.elem_cons List.elem_nil List.cons_append List.nil_append List.append_nil List.flatMap_cons List.flatMap_nil List.zip_cons_cons List.zip_nil_left List.zip_nil_right List.take_succ_cons List.take_zero List.take_nil List.drop_succ_cons List.drop_zero List.drop_nil List.isEmpty_nil List.isEmpty_cons Bool.and_true Bool.true_and Bool.or_true Bool.true_or Bool.or_false Bool.false_or Bool.not_true Bool.not_false Nat.add_zero Nat.zero_add Option.isNone_none Option.isNone_some Option.getD_none true_and and_true not_true_eq_false not_false_eq_true decide_true decide_false Nat.le_refl and_self Bool.not_eq_true Nat.sub_self or_true true_or Option.some.injEq List.length_map List.nil_eq and_false false_and AV.live CV.live CV.liveIn dU bg Option.orElse_some Option.orElse_none head bm bh Int.lt_irrefl List.length_append ite_self dZ cA dc bC Key.clash Key.sees Key.writes Nat.lt_irrefl gt_iff_lt cH dH false_or or_false beq_self_eq_true Bool.true_beq Bool.false_beq Hv EF HR lQ yw
theorem wG (l:List Val) (first:Bool) (hsz:Ne.size l≤100000000) (hts:TSh l) (hne:l≠[]) {x:Sim} {r:List Val} (h:Sl.simple (Ne.size l) first l=some (x,r)):r.length<l.length∧∃ p,l=p++r :=
 Sl.tL _ _ _ _ _ h
abbrev cmH (l:List Val) (e:Nat) (acc:List Sim):St :=
  { sl:=upd (upd bot 4 (.c (.own e (Sim.encL acc)))) 0 P0,bx:=upd nobox 100000 (some (rdB l)),nt:=32 }
noncomputable def cmlp:Code:=.loop (ap Tryz.f91 2)
theorem K8 (l:List Val) (e:Nat) (acc:List Sim) (hl:l.length≤60000000) (h:Sl.ol l=true) :
  Ends (exL K 91 cmlp (cmH l e acc)) fun o S=>o=.exit 0∧S.nt=32∧S.sl 0=P0∧S.sl 4=.c (.own e (Sim.encL acc))∧S.bx 100000=some (rdB l):=by
 have he:=k9 l hl
 rw[h] at he;simp only[rdB] at he;unfold cmlp
 conv in ap _ _=>whnf
 rw[aq];simp only[go_sem,reduceLT,reduceCtorEq,reduceEqDiff,Nat.reduceBEq,reduceAdd,he,ar]
theorem JC (l:List Val) (e:Nat) (acc:List Sim) (hl:l.length≤60000000) (h:Sl.ol l=false) (hd:Sl.double l=true):match Sl.mw l with
  | some (s,r)=>Ends (exL K 91 cmlp (cmH l e acc)) fun o S=>o=.ret∧S.nt=32∧S.sl 2=L (Sim.encL acc)∧S.sl 3=T s∧S.bx 100000=some (rdB r)
  | none=>Ends (exL K 91 cmlp (cmH l e acc)) fun o S=>o=.pan dW∧S.bx 100000=some (rdB l):=by
 have he:=k9 l hl
 rw[h] at he;have hx:=Gs l hl hd
 cases hm:Sl.mw l with
 | none =>
  rw[hm] at hx;dsimp only;simp only[rdB] at he hx;unfold cmlp
  conv in ap _ _=>whnf
  rw[aq];simp only[go_sem,reduceLT,reduceCtorEq,reduceEqDiff,Nat.reduceBEq,reduceAdd,he,hx,ar]
 | some y =>
  obtain⟨s,r⟩:=y;rw[hm] at hx;have hs:(s==[])=false:=by
   unfold Sl.mw at hm;split at hm
   ·split at hm
    ·rename_i hh;cases hm;rcases hh with rfl|rfl<;>rfl
    ·cases hm
   ·cases hm
  dsimp only;simp only[rdB] at he hx;unfold cmlp
  conv in ap _ _=>whnf
  rw[aq];simp only[go_sem,reduceLT,reduceCtorEq,reduceEqDiff,Nat.reduceBEq,reduceAdd,he,hx,hs,bne,ar]
theorem Jo (l:List Val) (e:Nat) (acc:List Sim) (hl:l.length≤60000000) (h:Sl.ol l=false) (hd:Sl.double l=false) (h8:¬ acc.length<8) :
  Ends (exL K 91 cmlp (cmH l e acc)) fun o S=>o=.pan dW∧S.bx 100000=some (rdB l):=by
 have he:=k9 l hl
 rw[h] at he;have hx:=wE l hl hd
 have q0:(([]:List UInt8)==[])=true:=rfl
 have e8:decide ((acc.length:Int)<8)=false:=decide_eq_false (by omega)
 have hmn:=gR
 simp only[rdB] at he hx;unfold cmlp
 conv in ap _ _=>whnf
 rw[aq];simp only[go_sem,reduceLT,reduceCtorEq,reduceEqDiff,Nat.reduceBEq,reduceAdd,af aa,he,hx,q0,bne,fO,e8,hmn,ar]
theorem La (l m:List Val) (e:Nat) (acc:List Sim) (hl:l.length≤60000000) (h:Sl.ol l=false) (hd:Sl.double l=false) (h8:acc.length<8)
  (hs:den K 140 [P0,B acc.isEmpty] [rdB l]=some (.pan dW [rdB m])) :
  Ends (exL K 91 cmlp (cmH l e acc)) fun o S=>o=.pan dW∧S.bx 100000=some (rdB m):=by
 have he:=k9 l hl
 rw[h] at he;have hx:=wE l hl hd
 have q0:(([]:List UInt8)==[])=true:=rfl
 have e8:decide ((acc.length:Int)<8)=true:=decide_eq_true (by omega)
 have hmy:=fe
 simp only[rdB] at he hx hs;unfold cmlp
 conv in ap _ _=>whnf
 rw[aq];simp only[go_sem,reduceLT,reduceCtorEq,reduceEqDiff,Nat.reduceBEq,reduceAdd,af aa,he,hx,q0,bne,fO,e8,kE,hmy,hs,ar]
theorem JQ (l r:List Val) (e:Nat) (acc:List Sim) (x:Sim) (hl:l.length≤60000000) (h:Sl.ol l=false) (hd:Sl.double l=false) (h8:acc.length<8) (he:e=52∨acc=[])
  (hs:den K 140 [P0,B acc.isEmpty] [rdB l]=some (.ret (simE x) [rdB r])) :
  exL K 91 cmlp (cmH l e acc)=exL K 91 cmlp (cmH r 52 (acc++[x])):=by
 have hn:=k9 l hl
 rw[h] at hn;have hx:=wE l hl hd
 have q0:(([]:List UInt8)==[])=true:=rfl
 have e8:decide ((acc.length:Int)<8)=true:=decide_eq_true (by omega)
 have hmy:=fe
 have hown:e=52∨(Sim.encL acc).isEmpty=true:=by
  rcases he with rfl|rfl
  ·exact .inl rfl
  ·exact .inr rfl
 have hlim:acc.length+1<cw:=by unfold cw;omega
 have hlv:=vq acc
 obtain⟨k,n,v,a,b,xl⟩:=x;unfold cmlp
 conv in ap _ _=>whnf
 conv in ap _ _=>whnf
 cases xl
 all_goals
  simp only[rdB,simE,aU,dm] at hn hx hs
  conv in exL _ _ _ (cmH l e acc)=>rw[aq]
  simp only[go_sem,reduceLT,reduceCtorEq,reduceEqDiff,Nat.reduceBEq,reduceAdd,reduceMul,af aa,ao (len:=1) aa dh ae ⟨rfl,by decide,by decide⟩,bB nT,aX aa,hn,hx,q0,bne,fO,e8,kE,hmy,hs,hown,hlim,hlv,zV,CY,CE]
  rw[au];simp only[go_sem,reduceCtorEq,reduceEqDiff]
theorem Cl:∀ (f:Nat) (l:List Val) (e:Nat) (acc:List Sim),l.length<f→Ne.size l≤60000000→TSh l→(e=52∨acc=[]) →
  Ends (exL K 91 cmlp (cmH l e acc)) fun o S=>match Sl.mT f acc l with
   | none=>(∃ m,o=.pan dW∧S.bx 100000=some (rdB m))∨(∃ m e',o=.exit 0∧S.nt=32∧S.sl 0=P0∧S.sl 4=.c (.own e' (Sim.encL []))∧S.bx 100000=some (rdB m))
   | some ((ps,s),r)=>(s≠[]∧o=.ret∧S.nt=32∧S.sl 2=L (Sim.encL ps)∧S.sl 3=T s∧S.bx 100000=some (rdB r)) ∨
    (s=[]∧ps≠[]∧∃ e',o=.exit 0∧S.nt=32∧S.sl 0=P0∧S.sl 4=.c (.own e' (Sim.encL ps))∧S.bx 100000=some (rdB r))
 | 0,_,_,_,h,_,_,_=>absurd h (Nat.not_lt_zero _)
 | f+1,l,e,acc,hf,hsz,hts,he=>by
  have hl:l.length≤60000000:=Nat.le_trans (Ne.bM l) hsz
  rw[Sl.mT];cases h:Sl.ol l with
  | true =>
   simp only[if_true];refine bu (K8 l e acc hl h) fun o S q => ?_
   obtain⟨q1,q2,q3,q4,q5⟩:=q;cases acc with
   | nil=>exact .inr ⟨l,e,q1,q2,q3,q4,q5⟩
   | cons x acc=>exact .inr ⟨rfl,by simp,e,q1,q2,q3,q4,q5⟩
  | false =>
   simp only[Bool.false_eq_true,if_false];cases hd:Sl.double l with
   | true =>
    simp only[if_true];have hx:=JC l e acc hl h hd
    cases hm:Sl.mw l with
    | none =>
     rw[hm] at hx;exact bu hx fun o S q=>.inl ⟨l,q⟩
    | some y =>
     obtain⟨s,r⟩:=y;rw[hm] at hx;refine bu hx fun o S q=>.inl ⟨?_,q⟩
     unfold Sl.mw at hm;split at hm
     ·split at hm
      ·rename_i hh;cases hm;rcases hh with rfl|rfl
       ·show Sl.fg≠[];decide
       ·show Sl.fZ≠[];decide
      ·cases hm
     ·cases hm
   | false =>
    simp only[Bool.false_eq_true,if_false];by_cases h8:acc.length<8
    ·rw[if_pos h8];have hne:l≠[]:=by rintro rfl;cases h
     have hs:=xg l acc.isEmpty hsz hts hne
     cases hx:Sl.simple (Ne.size l) acc.isEmpty l with
     | none =>
      rw[hx] at hs;obtain⟨m,hs⟩:=fm hs;exact bu (La l m e acc hl h hd h8 hs) fun o S q=>.inl ⟨m,q⟩
     | some y =>
      obtain⟨x,r⟩:=y;rw[hx] at hs;obtain⟨g1,p,g2⟩:=wG l acc.isEmpty (by omega) hts hne hx
      rw[JQ l r e acc x hl h hd h8 he (er hs)];simp only;have hsr:Ne.size r≤Ne.size l:=by rw[g2,lf];omega
      exact Cl f r 52 (acc++[x]) (by omega) (by omega) (qf hts fun v hv=>by rw[g2];simp[hv]) (.inl rfl)
    ·rw[if_neg h8];exact bu (Jo l e acc hl h hd h8) fun o S q=>.inl ⟨l,q⟩
abbrev qP (x:List Sim×List UInt8):AV:=.tup [.c (.pv (.sl (Sim.encL x.1))),.c (.pv (.str x.2))]
theorem DY (l:List Val) (hsz:Ne.size l≤60000000) (hts:TSh l):il qP (Sl.mT (l.length+1) [] l) (den K 91 [P0] [rdB l]):=by
 have hr:Tryz.f91.results=#[.tmp 2,.tmp 3]:=rfl
 have h:=Cl (l.length+1) l 0 [] (by omega) hsz hts (.inr rfl)
 have hmy:=fe
 have hmn:=gR
 unfold cmlp at h
 conv at h in ap _ _=>whnf
 obtain⟨o,S,w,hq⟩:=h;have e0:Sim.encL []=[]:=rfl
 simp only[cmH,rdB,e0] at w
 cases hc:Sl.mT (l.length+1) [] l with
 | none =>
  rw[hc] at hq;rcases hq with⟨m,rfl,q1⟩|⟨m,e',rfl,q1,q2,q3,q4⟩
  ·refine⟨m,?_⟩
   simp only[rdB] at q1 ⊢
   refine ah rfl rfl Tryz.func91 rfl Tryz.ntmps91 ⟨by simp,by simp[LK]⟩ ?_
   simp only[go_sem,reduceLT,Nat.reduceBEq,reduceAdd];rw[au];simp only[go_sem,reduceCtorEq,reduceEqDiff];erw [w];simp only[go_sem,hr,q1]
  ·refine⟨m,?_⟩
   have d0:decide ((0:Int)<((0:Nat):Int))=false:=rfl
   simp only[rdB,e0] at q3 q4 ⊢
   refine ah rfl rfl Tryz.func91 rfl Tryz.ntmps91 ⟨by simp,by simp[LK]⟩ ?_
   simp only[go_sem,reduceLT,Nat.reduceBEq,reduceAdd];rw[au];simp only[go_sem,reduceCtorEq,reduceEqDiff];erw [w];simp only[go_sem,reduceLT,reduceEqDiff,Nat.reduceBEq,af aa,hr,q1,q3,q4,d0,hmn]
 | some y =>
  obtain⟨⟨ps,s⟩,r⟩:=y;rw[hc] at hq
  show den K 91 [P0] [rdB l]=some (.ret (qP (ps,s)) [rdB r])
  rcases hq with⟨_,rfl,q0,q1,q2,q3⟩|⟨rfl,hne,e',rfl,q1,q2,q3,q4⟩
  ·simp only[rdB] at q3 ⊢
   refine ah rfl rfl Tryz.func91 rfl Tryz.ntmps91 ⟨by simp,by simp[LK]⟩ ?_
   simp only[go_sem,reduceLT,Nat.reduceBEq,reduceAdd];rw[au];simp only[go_sem,reduceCtorEq,reduceEqDiff];erw [w];simp only[go_sem,hr,q1,q2,q3]
  ·have d0:decide ((0:Int)<(ps.length:Int))=true:=decide_eq_true (by
    have:ps.length≠0:=fun h=>hne (List.eq_nil_of_length_eq_zero h)
    omega)
   simp only[rdB] at q4 ⊢
   refine ah rfl rfl Tryz.func91 rfl Tryz.ntmps91 ⟨by simp,by simp[LK]⟩ ?_
   simp only[go_sem,reduceLT,Nat.reduceBEq,reduceAdd];rw[au];simp only[go_sem,reduceCtorEq,reduceEqDiff];erw [w];simp only[go_sem,reduceLT,reduceEqDiff,Nat.reduceBEq,reduceAdd,af aa,hr,q1,q3,q4,fO,d0,hmy]
attribute [local go_sem] Au fG gK Hf
theorem Lv (l:List Cpx) (i:Nat) (x:Cpx) (h:l[i]? = some x):(l.map Cpx.enc)[(i:Int).toNat]? = some [.sl (x.parts.map Prt.enc),.str x.pseudo]:=by
 rw[Int.toNat_natCast,List.getElem?_map,h];rfl
abbrev ixcH (l:List Cpx) (i:Nat) (fv:CV) (kb:Option (List CV)):St :=
  { sl:=upd (upd (upd (upd bot 8 (I i)) 7 (I l.length)) 1 (.c fv)) 0 (L ((l).map Cpx.enc)),bx:=upd nobox 100000 kb,nt:=19 }
noncomputable def ixclp:Code:=.loop (ap Tryz.f104 2)
theorem zK {g:Nat} (hg:K.good g=true) (ho:K.ownRet g=false) {p:Cpx→Bool} {fv:CV} {xs:List AV} {kb:Option (List CV)} {kl:List (List CV)} (hc:Clo g fv xs kb kl) (l:List Cpx) (hl:l.length≤1000000000)
  (hp:∀ x,x∈l→den K g (.agg [.pv (.sl (x.parts.map Prt.enc)),.pv (.str x.pseudo)]::xs) kl=some (.ret (B (p x)) kl)):∀ (rest:List Cpx) (i:Nat),l.drop i=rest→i≤l.length →
  Ends (exL K 104 ixclp (ixcH l i fv kb)) fun o S=>S.bx 100000=kb∧match rest.findIdx? p with
   | none=>o=.exit 0∧S.nt=19
   | some j=>o=.ret∧S.sl 4=I ((i+j:Nat):Int)
 | [],i,hd,hi=>by
  have hin:i=l.length:=by
   have:=List.drop_eq_nil_iff.1 hd
   omega
  subst hin;have hlt:decide ((l.length:Int)<(l.length:Int))=false:=decide_eq_false (by omega)
  unfold ixclp
  conv in ap _ _=>whnf
  rw[aq];cases hc
  all_goals simp only[go_sem,reduceLT,reduceCtorEq,reduceEqDiff,Nat.reduceBEq,ar,List.findIdx?_nil,lm]
 | x::rest,i,hd,hi=>by
  obtain⟨g1,g2,g3⟩:=bE hd;have hlt:decide ((i:Int)<(l.length:Int))=true:=decide_eq_true (by omega)
  have hget:=Lv l i x g1
  have ih:=zK hg ho hc l hl hp rest (i+1) g2 (by omega)
  have hm:=hp x (List.mem_of_getElem? g1)
  have hws:IntKind.i64.wrap ((i:Int)+1)=((i+1:Nat):Int):=bf i (by omega)
  unfold ixclp at ih ⊢
  conv at ih in ap _ _=>whnf
  rw[List.findIdx?_cons]
  conv in ap _ _=>whnf
  rw[aq];cases hv:p x
  ·rw[if_neg (by simp)]
   rw[hv] at hm;cases hc
   all_goals
    simp only[go_sem,reduceLT,reduceCtorEq,reduceEqDiff,Nat.reduceBEq,reduceAdd,ag aQ,hlt,hget,Int.natCast_nonneg,hm,hg,ho,hws,oT,lm];rw[au];simp only[go_sem,reduceCtorEq,reduceEqDiff,lm];refine bu ih fun o S q=>⟨q.1,?_⟩
    have q2:=q.2
    cases hf:rest.findIdx? p with
    | none=>rw[hf] at q2;exact q2
    | some j =>
     rw[hf] at q2
     refine⟨q2.1,q2.2.trans ?_⟩
     rw[show i+1+j=i+(j+1) by omega]
  ·rw[if_pos rfl];rw[hv] at hm;cases hc
   all_goals simp only[go_sem,reduceLT,reduceCtorEq,reduceEqDiff,Nat.reduceBEq,reduceAdd,ag aQ,hlt,hget,Int.natCast_nonneg,hm,hg,ho,ar,Nat.add_zero,oT,lm]
theorem B7 {g:Nat} (hg:K.good g=true) (ho:K.ownRet g=false) {p:Cpx→Bool} {fv:CV} {xs:List AV} {kb:Option (List CV)} {kl:List (List CV)} (hc:Clo g fv xs kb kl) (l:List Cpx) (hl:l.length≤1000000000)
  (hp:∀ x,x∈l→den K g (.agg [.pv (.sl (x.parts.map Prt.enc)),.pv (.str x.pseudo)]::xs) kl=some (.ret (B (p x)) kl)) :
  den K 104 [L ((l).map Cpx.enc),.c fv] kl=some (.ret (I (ixI (l.findIdx? p))) kl):=by
 have hr:Tryz.f104.results=#[.tmp 4]:=rfl
 have h:=zK hg ho hc l hl hp l 0 rfl (Nat.zero_le _)
 unfold ixclp at h
 conv at h in ap _ _=>whnf
 obtain⟨o,S',w,hb,hq⟩:=h;have z0:((0:Nat):Int)=0:=rfl
 simp only[ixcH,z0] at w
 refine ah rfl rfl Tryz.func104 rfl Tryz.ntmps104 ⟨by simp,by simp[LK]⟩ ?_
 cases hf:l.findIdx? p with
 | none =>
  rw[hf] at hq;obtain⟨rfl,hn⟩:=hq;unfold ixI;cases hc
  all_goals
   simp only[go_sem,reduceLT,reduceCtorEq,reduceEqDiff,Nat.reduceBEq,reduceAdd,af aQ,List.length_map];rw[au];simp only[go_sem,reduceCtorEq,reduceEqDiff,lm];erw [w];simp only[go_sem,reduceLT,Nat.reduceBEq,hr,hn,hb,oT]
 | some j =>
  rw[hf] at hq;obtain⟨rfl,h4⟩:=hq;rw[Nat.zero_add] at h4;unfold ixI;cases hc
  all_goals
   simp only[go_sem,reduceLT,reduceCtorEq,reduceEqDiff,Nat.reduceBEq,reduceAdd,af aQ,List.length_map];rw[au];simp only[go_sem,reduceCtorEq,reduceEqDiff,lm];erw [w];simp only[go_sem,hr,h4,hb,oT]
theorem ul {g:Nat} (hg:K.good g=true) (ho:K.ownRet g=false) {p:Cpx→Bool} {fv:CV} {xs:List AV} {kb:Option (List CV)} {kl:List (List CV)} (hc:Clo g fv xs kb kl) (l:List Cpx) (hl:l.length≤1000000000)
  (hp:∀ x,x∈l→den K g (.agg [.pv (.sl (x.parts.map Prt.enc)),.pv (.str x.pseudo)]::xs) kl=some (.ret (B (p x)) kl)) :
  den K 53 [L ((l).map Cpx.enc),.c fv] kl=some (.ret (B (l.any p)) kl):=by
 have hr:Tryz.f53.results=#[.tmp 4]:=rfl
 have h:=B7 hg ho hc l hl hp
 rw[←H7];refine ah rfl rfl Tryz.func53 rfl Tryz.ntmps53 ⟨by simp,by simp[LK]⟩ ?_
 cases hc
 all_goals simp only[go_sem,reduceLT,reduceCtorEq,reduceEqDiff,Nat.reduceBEq,reduceAdd,hr,h,oT,hZ]
attribute [local go_sem] nC gM c6 cB bG dK aL bX dx eI eJ qS DE dh dL mo eH fH eM Kf fj i7 gS Ep dl jF aP iZ fV DX fk
theorem io (k k' a a' b b':Int) (n n' v v':List UInt8):dS Tryz.prog 146 [.int .i64 k,.str n,.str v,.int .i64 a,.int .i64 b] [.int .i64 k',.str n',.str v',.int .i64 a',.int .i64 b']=some ((k==k')&&((n==n')&&((v==v')&&((a==a')&&((b==b')&&true))))):=by kernel_rfl
theorem aG (k a b:Int) (n v:List UInt8) (l:List (List PV)):den K 103 [.agg [.pv (.int .i64 k),.pv (.str n),.pv (.str v),.pv (.int .i64 a),.pv (.int .i64 b),.pv (.sl l)]] []=some (.ret (.agg [.pv (.int .i64 k),.pv (.str n),.pv (.str v),.pv (.int .i64 a),.pv (.int .i64 b)]) []):=by
 have hr:Tryz.f103.results=#[.cell 2 146]:=rfl
 refine ah rfl rfl Tryz.func103 rfl Tryz.ntmps103 ⟨by simp,by simp[LK]⟩ ?_
 simp only[go_sem,reduceLT,reduceEqDiff,Nat.reduceBEq,reduceAdd,reduceSub,reduceLeDiff,ab gM mf,hr]
def Sim4Den (l:List Sim):Prop:=den K 52 [L (l.map Sim.enc),L (l.map Sim.enc)] []=some (.ret (B true) [])
abbrev si4H (l:List Sim) (i:Nat):St := { sl:=upd (upd (upd bot 5 (I i)) 1 (L (l.map Sim.enc))) 0 (L (l.map Sim.enc)),bx:=nobox,nt:=42 }
noncomputable def si4lp:Code:=.loop (ap Tryz.f52 4)
theorem zT (l:List Sim) (hal:l.length≤100000000) (hin:∀ x∈l, ∀ q n v a b l',x=Sim.mk q n v a b l'→Sim4Den l'):∀ (rest:List Sim) (i:Nat),l.drop i=rest→i≤l.length →
  Ends (exL K 52 si4lp (si4H l i)) fun o S=>o=.exit 0∧S.nt=42
 | [],i,hd,hi=>by
  have hin:i=l.length:=by
   have:=List.drop_eq_nil_iff.1 hd
   omega
  subst hin;have hlt:decide ((l.length:Int)<(l.length:Int))=false:=decide_eq_false (by omega)
  unfold si4lp
  conv in ap _ _=>whnf
  rw[aq];simp only[go_sem,reduceLT,reduceCtorEq,reduceEqDiff,Nat.reduceBEq,reduceAdd,af aa,ar]
 | .mk q n v a b l'::rest,i,hd,hi=>by
  obtain⟨h1,h2,h3⟩:=bE hd;have hmem:Sim.mk q n v a b l'∈l:=List.mem_of_getElem? h1
  have hc:=hin _ hmem q n v a b l' rfl
  unfold Sim4Den at hc;have hget:(l.map Sim.enc)[(i:Int).toNat]? = some [.int .i64 q,.str n,.str v,.int .i64 a,.int .i64 b,.sl (l'.map Sim.enc)]:=by simp[h1,Sim.enc_mk]
  have hlt:decide ((i:Int)<(l.length:Int))=true:=decide_eq_true (by omega)
  have hp:=aG q a b n v (l'.map Sim.enc)
  have hb:=io q q a a b b n n v v
  simp only[beq_self_eq_true,Bool.and_true] at hb;have hnext:=zT l hal hin rest (i+1) h2 (by omega)
  unfold si4lp at hnext ⊢
  conv at hnext in ap _ _=>whnf
  conv in ap _ _=>whnf
  rw[aq];simp only[go_sem,reduceLT,reduceCtorEq,reduceEqDiff,Nat.reduceBEq,reduceAdd,af aa,ag aa,hlt,hget,Int.natCast_nonneg,hp,hb,hc,bf i (by omega)]
  rw[au];simp only[go_sem,reduceCtorEq,reduceEqDiff];exact hnext
theorem C2 (l:List Sim) (hal:l.length≤100000000) (hin:∀ x∈l, ∀ q n v a b l',x=Sim.mk q n v a b l'→Sim4Den l'):Sim4Den l:=by
 unfold Sim4Den;have hr:Tryz.f52.results=#[.tmp 4]:=rfl
 have hnext:=zT l hal hin l 0 rfl (Nat.zero_le _)
 unfold si4lp at hnext
 conv at hnext in ap _ _=>whnf
 obtain⟨o,S',e,rfl,hn⟩:=hnext;refine ah rfl rfl Tryz.func52 rfl Tryz.ntmps52 ⟨by simp,by simp[LK]⟩ ?_
 simp only[go_sem,reduceLT,reduceCtorEq,reduceEqDiff,Nat.reduceBEq,reduceAdd,af aa,bne_self_eq_false];rw[au];simp only[go_sem,reduceCtorEq,reduceEqDiff];erw [e];simp only[go_sem,reduceLT,Nat.reduceBEq,hr,hn]
inductive Fin4:Sim→Prop
 | mk {k:Int} {n v:List UInt8} {a b:Int} {l:List Sim} (hll:l.length≤100000000) (hl:∀ x∈l,Fin4 x):Fin4 (Sim.mk k n v a b l)
theorem wA (l:List Sim) (hal:l.length≤100000000) (hok:∀ x∈l,Fin4 x):Sim4Den l:=by
 have key:∀ x:Sim,Fin4 x→∀ q n v a b l',x=Sim.mk q n v a b l'→Sim4Den l':=by
  intro x hx
  induction hx with
  | @mk k n v a c l hll hl ih =>
   intro q n' v' a' b' l' e;cases e;exact C2 l hll (fun y hy=>ih y hy)
 exact C2 l hal (fun x hx=>key x (hok x hx))
abbrev sa4In (l:List Cpx) (i j:Nat):St := { sl:=upd (upd (upd (upd bot 6 (I j)) 5 (I i)) 1 (L (l.map Cpx.enc))) 0 (L (l.map Cpx.enc)),bx:=nobox,nt:=85 }
noncomputable def sa4lp:Code:=.loop (ap Tryz.f22 9)
theorem He (l:List Cpx) (i:Nat) (ps:List Prt) (s:List UInt8) (h1:l[i]? = some ⟨ps,s⟩) (hps:ps.length≤100000000) (hp:∀ p∈ps,Sim4Den p.l):∀ (rest:List Prt) (j:Nat),ps.drop j=rest→j≤ps.length →
  Ends (exL K 22 sa4lp (sa4In l i j)) fun o S=>o=.exit 2∧S.nt=85∧S.sl 0=L (l.map Cpx.enc)∧S.sl 1=L (l.map Cpx.enc)∧S.sl 5=I i
 | [],j,hd,hj=>by
  have hin:j=ps.length:=by
   have:=List.drop_eq_nil_iff.1 hd
   omega
  subst hin;have g1:(l.map Cpx.enc)[(i:Int).toNat]? = some [.sl (ps.map Prt.enc),.str s]:=by simp[h1,Cpx.enc]
  have hlt:decide ((ps.length:Int)<(ps.length:Int))=false:=decide_eq_false (by omega)
  unfold sa4lp
  conv in ap _ _=>whnf
  rw[aq];simp only[go_sem,reduceLT,reduceCtorEq,reduceEqDiff,Nat.reduceBEq,reduceAdd,ag aQ,af aw,ar,g1,Int.natCast_nonneg]
 | ⟨k,ls⟩::rest,j,hd,hj=>by
  obtain⟨g3,g4,g5⟩:=bE hd;have hs:Sim4Den ls:=hp ⟨k,ls⟩ (List.mem_of_getElem? g3)
  unfold Sim4Den at hs;have g1:(l.map Cpx.enc)[(i:Int).toNat]? = some [.sl (ps.map Prt.enc),.str s]:=by simp[h1,Cpx.enc]
  have g2:(ps.map Prt.enc)[(j:Int).toNat]? = some [.int .i64 k,.sl (ls.map Sim.enc)]:=by simp[g3,Prt.enc]
  have hlt:decide ((j:Int)<(ps.length:Int))=true:=decide_eq_true (by omega)
  have hnext:=He l i ps s h1 hps hp rest (j+1) g4 (by omega)
  unfold sa4lp at hnext ⊢
  conv at hnext in ap _ _=>whnf
  conv in ap _ _=>whnf
  rw[aq];simp only[go_sem,reduceLT,reduceCtorEq,reduceEqDiff,Nat.reduceBEq,reduceAdd,ag aQ,af aw,ag aw,g1,g2,hlt,Int.natCast_nonneg]
  first|rw[aR]|rw[aJ]|rw[aO]
  rotate_left
  ·kernel_rfl
  simp only[go_sem,reduceLT,reduceCtorEq,reduceEqDiff,Nat.reduceBEq,reduceAdd,hs,bf j (by omega),bne_self_eq_false]
  rw[au];simp only[go_sem,reduceCtorEq,reduceEqDiff];exact hnext
abbrev sa4Out (l:List Cpx) (i:Nat):St := { sl:=upd (upd (upd bot 5 (I i)) 1 (L (l.map Cpx.enc))) 0 (L (l.map Cpx.enc)),bx:=nobox,nt:=85 }
noncomputable def sa4op:Code:=.loop (ap Tryz.f22 4)
theorem CM (l:List Cpx) (hal:l.length≤100000000) (hl:∀ c∈l,c.parts.length≤100000000∧∀ p∈c.parts,Sim4Den p.l):∀ (rest:List Cpx) (i:Nat),l.drop i=rest→i≤l.length →
  Ends (exL K 22 sa4op (sa4Out l i)) fun o S=>o=.exit 0∧S.nt=85
 | [],i,hd,hi=>by
  have hin:i=l.length:=by
   have:=List.drop_eq_nil_iff.1 hd
   omega
  subst hin;have hlt:decide ((l.length:Int)<(l.length:Int))=false:=decide_eq_false (by omega)
  unfold sa4op
  conv in ap _ _=>whnf
  rw[aq];simp only[go_sem,reduceLT,reduceCtorEq,reduceEqDiff,Nat.reduceBEq,reduceAdd,af aQ,ar]
 | ⟨ps,s⟩::rest,i,hd,hi=>by
  obtain⟨h1,h2,h3⟩:=bE hd;obtain⟨hps,hp⟩:=hl ⟨ps,s⟩ (List.mem_of_getElem? h1)
  have g1:(l.map Cpx.enc)[(i:Int).toNat]? = some [.sl (ps.map Prt.enc),.str s]:=by simp[h1,Cpx.enc]
  have hlt:decide ((i:Int)<(l.length:Int))=true:=decide_eq_true (by omega)
  have hin:=He l i ps s h1 hps hp ps 0 rfl (Nat.zero_le _)
  unfold sa4lp at hin
  conv at hin in ap _ _=>whnf
  have z0:((0:Nat):Int)=0:=rfl
  obtain⟨o,S',e,rfl,gn,q0,q1,q5⟩:=hin;simp only[sa4In,z0] at e
  have hnext:=CM l hal hl rest (i+1) h2 (by omega)
  unfold sa4op at hnext ⊢
  conv at hnext in ap _ _=>whnf
  conv in ap _ _=>whnf
  rw[aq];simp only[go_sem,reduceLT,reduceCtorEq,reduceEqDiff,Nat.reduceBEq,reduceAdd,af aQ,ag aQ,af aw,g1,hlt,Int.natCast_nonneg,bne_self_eq_false];rw[au];simp only[go_sem,reduceCtorEq,reduceEqDiff];erw [e];simp only[go_sem,reduceLT,reduceEqDiff,Nat.reduceBEq,reduceAdd,gn,q5,bf i (by omega)]
  rw[au];simp only[go_sem,reduceCtorEq,reduceEqDiff,q0,q1,q5];exact hnext
theorem D1 (l:List Cpx) (hal:l.length≤100000000) (hl:∀ c∈l,c.parts.length≤100000000∧∀ p∈c.parts,Sim4Den p.l):den K 22 [L (l.map Cpx.enc),L (l.map Cpx.enc)] []=some (.ret (B true) []):=by
 have hr:Tryz.f22.results=#[.tmp 4]:=rfl
 have hnext:=CM l hal hl l 0 rfl (Nat.zero_le _)
 unfold sa4op at hnext
 conv at hnext in ap _ _=>whnf
 obtain⟨o,S',e,rfl,hn⟩:=hnext;refine ah rfl rfl Tryz.func22 rfl Tryz.ntmps22 ⟨by simp,by simp[LK]⟩ ?_
 simp only[go_sem,reduceLT,reduceCtorEq,reduceEqDiff,Nat.reduceBEq,reduceAdd,af aQ,bne_self_eq_false];rw[au];simp only[go_sem,reduceCtorEq,reduceEqDiff];erw [e];simp only[go_sem,reduceLT,Nat.reduceBEq,hr,hn]
end Go.Abs
namespace Go.Abs
open Go
theorem Mh {M:Nat} (hM:100≤M) {x:Sim} (hx:x.Ok):∀ k m:Int,x.big=false→cntX x k m≤m→Sl.Sb M x:=by
 induction hx with
 | @mk q n v a b l ha hb hn hv hll hl ih =>
  intro k m hbig h;rw[cntX] at h;have h0:n.length≤100∧v.length≤100:=by
   unfold Sim.big at hbig;simp only[Bool.or_eq_false_iff,decide_eq_false_iff_not] at hbig;omega
  have key:∀ (l:List Sim),(∀ x∈l,x.Ok)→(∀ x∈l, ∀ k m:Int,x.big=false→cntX x k m≤m→Sl.Sb M x)→∀ k:Int,cntL l k m≤m→∀ x∈l,Sl.Sb M x:=by
   intro l
   induction l with
   | nil=>intro _ _ k _ x hx;cases hx
   | cons y l ihl =>
    intro hok h k hk x hx;rw[cntL] at hk;by_cases h1:k≤m
    ·rw[if_pos h1] at hk;cases hy:y.big with
     | true=>rw[hy,if_pos rfl] at hk;omega
     | false =>
      rw[hy,if_neg (by simp)] at hk
      have h2:=pH y (hok y (by simp)) (k+1) m (by omega)
      have h3:=lI l (fun z hz=>hok z (by simp[hz])) _ m h2.1
      rcases List.mem_cons.1 hx with rfl|hx
      ·exact h x (by simp) (k+1) m hy (by omega)
      ·exact ihl (fun z hz=>hok z (by simp[hz])) (fun z hz=>h z (by simp[hz])) _ hk x hx
    ·rw[if_neg h1] at hk;omega
  exact .mk (by omega) (by omega) (key l hl ih k h)
theorem CF {M:Nat} (hM:100≤M):∀ {l:List Sim},(∀ x∈l,x.Ok)→∀ k m:Int,cntL l k m≤m→(∀ x∈l,Sl.Sb M x)∧k+l.length≤cntL l k m
 | [],_,k,m,h=>⟨(fun x hx=>by cases hx),by rw[cntL];simp⟩
 | y::l,hok,k,m,h=>by
  rw[cntL] at h ⊢;by_cases h1:k≤m
  ·rw[if_pos h1] at h ⊢;cases hy:y.big with
   | true=>rw[hy,if_pos rfl] at h;omega
   | false =>
    rw[hy,if_neg (by simp)] at h
    rw[if_neg (by simp)]
    have h2:=pH y (hok y (by simp)) (k+1) m (by omega)
    obtain⟨h3,h4⟩:=CF hM (l:=l) (fun z hz=>hok z (by simp[hz])) _ m h
    refine⟨fun x hx => ?_,by rw[List.length_cons];push_cast;omega⟩
    rcases List.mem_cons.1 hx with rfl|hx
    ·exact Mh hM (hok x (by simp)) (k+1) m hy (by omega)
    ·exact h3 x hx
  ·rw[if_neg h1] at h;omega
theorem Cg {M:Nat} (hM:100≤M):∀ {ps:List Prt},(∀ p∈ps,p.Ok)→∀ n m:Int,jo ps n m≤m→n≤jo ps n m∧∀ p∈ps,(∀ x∈p.l,Sl.Sb M x)∧(p.l.length:Int)≤m - n
 | [],_,n,m,h=>⟨by rw[jo];omega,fun p hp=>by cases hp⟩
 | q::ps,hok,n,m,h=>by
  rw[jo] at h ⊢;by_cases hn:n≤m
  ·rw[if_pos hn] at h ⊢;have hge:=t7 ps (fun z hz=>hok z (by simp[hz])) (cntL q.l n m) m
   obtain⟨h1,h2⟩:=CF hM (hok q (by simp)).all n m (by omega)
   obtain⟨h3,h4⟩:=Cg hM (ps:=ps) (fun z hz=>hok z (by simp[hz])) _ m h
   refine⟨by omega,fun p hp => ?_⟩
   rcases List.mem_cons.1 hp with rfl|hp
   ·exact⟨h1,by omega⟩
   ·obtain⟨h5,h6⟩:=h4 p hp;exact⟨h5,by omega⟩
  ·rw[if_neg hn] at h;omega
theorem C0 {M:Nat} (hM:100≤M):∀ {l:List Cpx},(∀ c∈l,c.Ok)→∀ (n m k:Int),0≤n→j5 l n m=some k→k≤m→n≤k∧∀ c∈l,c.pseudo.length≤100∧(c.parts.length:Int)≤m∧∀ p∈c.parts,(∀ x∈p.l,Sl.Sb M x)∧(p.l.length:Int)≤m
 | [],_,n,m,k,_,h,hk=>by rw[j5] at h;cases h;exact⟨Int.le_refl _,fun c hc=>by cases hc⟩
 | d::l,hok,n,m,k,h0,h,hk=>by
  rw[j5] at h;by_cases hn:n≤m
  ·rw[if_pos hn] at h;split at h
   ·cases h
   ·rename_i hp;have hge:=t7 d.parts (hok d (by simp)).all (n+d.parts.length) m
    obtain⟨h1,h2⟩:=C0 hM (l:=l) (fun z hz=>hok z (by simp[hz])) _ m k (by omega) h hk
    obtain⟨h3,h4⟩:=Cg hM (hok d (by simp)).all (n+d.parts.length) m (by omega)
    refine⟨by omega,fun c hc => ?_⟩
    rcases List.mem_cons.1 hc with rfl|hc
    ·refine⟨by omega,by omega,fun p hp => ?_⟩
     obtain⟨h5,h6⟩:=h4 p hp;exact⟨h5,by omega⟩
    ·exact h2 c hc
  ·rw[if_neg hn] at h;cases h;omega
structure SmallC (c:Cpx):Prop where
 pseudo:c.pseudo.length≤100
 parts:c.parts.length≤1000
 all:∀ p∈c.parts,p.l.length≤1000∧∀ x∈p.l,Sl.Sb 100000000 x
theorem Fu {l:List Cpx} (hok:∀ c∈l,c.Ok) (h:sL l 200=true):l.length≤200∧∀ c∈l,SmallC c:=by
 unfold sL at h;split at h
 ·cases h
 ·rename_i k hk;have hkm:k≤200:=by simpa using h
  obtain⟨h1,h2⟩:=C0 (M:=100000000) (by omega) hok _ 200 k (by omega) hk hkm
  refine⟨by omega,fun c hc => ?_⟩
  obtain⟨h3,h4,h5⟩:=h2 c hc;exact⟨h3,by omega,fun p hp=>⟨by have:=(h5 p hp).2;omega,(h5 p hp).1⟩⟩
theorem jh (k:Int) (n v:List UInt8) (a b:Int):Fin4 (.mk k n v a b []):=.mk (by simp) fun x hx=>by cases hx
theorem HA {l:List Val} {x:Sim} (h:Sl.attr l=some x):Fin4 x:=by
 unfold Sl.attr at h;split at h
 ·split at h
  ·cases h;exact jh ..
  ·cases h
 ·split at h
  ·cases h;exact jh ..
  ·cases h
 ·cases h
theorem ug {s:List UInt8} {x:Sim} (h:Sl.gL s=some x):Fin4 x:=by
 unfold Sl.gL at h
 repeat' split at h
 all_goals first|(cases h;done)|(cases h;exact jh ..)
theorem Dh {g:List Val→Option (Sim×List Val)} (hg:∀ m x r,g m=some (x,r)→Fin4 x) {l r:List Val} {x:Sim} (h:Sl.colon g l=some (x,r)):Fin4 x:=by
 unfold Sl.colon at h;split at h
 ·split at h
  ·rw[Option.map_eq_some_iff] at h;obtain⟨y,_,e⟩:=h;cases e;exact jh ..
  ·split at h
   ·split at h
    ·rename_i y hy;split at h
     ·cases h
     ·cases h
      exact .mk (by simp) fun z hz=>by
       obtain rfl:=List.mem_singleton.1 hz;exact hg _ _ _ hy
    ·cases h
   ·cases h
 ·split at h
  ·rw[Option.map_eq_some_iff] at h;obtain⟨y,hy,e⟩:=h;cases e;exact ug hy
  ·cases h
theorem ti:∀ (f:Nat) (first:Bool) (l:List Val) (x:Sim) (r:List Val),Sl.simple f first l=some (x,r)→Fin4 x
 | 0,_,_,_,_,h=>by cases h
 | f+1,first,l,x,r,h=>by
  rw[Sl.simple] at h;split at h
  ·cases h;exact jh ..
  split at h
  ·cases h;exact jh ..
  split at h
  ·cases h;exact jh ..
  split at h
  ·rw[Option.map_eq_some_iff] at h;obtain⟨y,_,e⟩:=h;cases e;exact jh ..
  split at h
  ·exact Dh (fun m x r hm=>ti f true m x r hm) h
  split at h
  ·rw[Option.map_eq_some_iff] at h;obtain⟨y,hy,e⟩:=h;cases e;exact HA hy
  ·cases h
theorem zU:∀ (f:Nat) (first:Bool) (l:List Val) (ps:List Sim) (r:List Val),Sl.part f first l=some (ps,r)→∀ x∈ps,Fin4 x
 | 0,_,_,_,_,h=>by cases h
 | f+1,first,l,ps,r,h=>by
  rw[Sl.part] at h;split at h
  ·cases h;intro x hx;cases hx
  ·split at h
   ·cases h
   ·rename_i y m hs;rw[Option.map_eq_some_iff] at h;obtain⟨⟨qs,r'⟩,hp,e⟩:=h;cases e;intro x hx;rcases List.mem_cons.1 hx with rfl|hx
    ·exact ti _ _ _ _ _ hs
    ·exact zU f false m qs _ hp x hx
theorem xW:∀ (n:Nat) (c:Int) (l:List Val) (x:Cpx),Sl.cpx n c l=some x→x.parts.length≤n∧∀ p∈x.parts,p.l.length≤8∧∀ y∈p.l,Fin4 y
 | 0,_,_,_,h=>by cases h
 | n+1,c,l,x,h=>by
  rw[Sl.cpx] at h;split at h
  ·cases h
  rename_i ps r hp;have hf:=zU _ _ _ _ _ hp
  split at h
  ·split at h
   ·split at h
    ·rename_i hh;cases h;refine⟨by simp,fun p hp => ?_⟩
     obtain rfl:=List.mem_singleton.1 hp;exact⟨hh.2,hf⟩
    ·cases h
   ·cases h
  split at h
  ·cases h
  rename_i h8;split at h
  ·cases h
   refine⟨by simp,fun p hp => ?_⟩
   obtain rfl:=List.mem_singleton.1 hp;exact⟨by show ps.length≤8;omega,hf⟩
  ·rw[Option.map_eq_some_iff] at h;obtain⟨y,hy,e⟩:=h;cases e;obtain⟨h1,h2⟩:=xW n _ _ y hy;refine⟨by simp;omega,fun p hp => ?_⟩
   rcases List.mem_cons.1 hp with rfl|hp
   ·exact⟨by show ps.length≤8;omega,hf⟩
   ·exact h2 p hp
theorem yP:∀ {ps:List (List Val)} {l:List Cpx},Sl.all_ ps=some l→∀ x∈l,x.parts.length≤16∧∀ p∈x.parts,p.l.length≤8∧∀ y∈p.l,Fin4 y
 | [],l,h=>by rw[Sl.all_nil] at h;cases h;intro x hx;cases hx
 | p::ps,l,h=>by
  rw[Sl.all_cons] at h;split at h
  ·rename_i c cs hc hcs;cases h;intro x hx;rcases List.mem_cons.1 hx with rfl|hx
   ·exact xW _ _ _ _ hc
   ·exact yP hcs x hx
  ·cases h
theorem AP {v:List Val} {l:List Cpx} (h:Sl.parse v=some l):l.length≤32∧∀ x∈l,x.parts.length≤16∧∀ p∈x.parts,p.l.length≤8∧∀ y∈p.l,Fin4 y:=by
 unfold Sl.parse at h;split at h
 ·rename_i h32;have:=Sl.m8 h
  exact⟨by omega,yP h⟩
 ·cases h
end Go.Abs
