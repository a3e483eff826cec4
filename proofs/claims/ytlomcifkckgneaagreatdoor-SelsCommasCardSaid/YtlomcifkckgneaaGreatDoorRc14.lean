/-
  WHAT THE FUNCTIONS COMPUTE, layer 4, the program's reader of selectors: a compound selector.
  WHAT THE DOCUMENT'S ANSWER COMPUTES, layer 1: strings, numbers.
  WHAT THE FUNCTIONS COMPUTE: slices.IndexFunc, slices.ContainsFunc of complex selectors, whatever the function is. (Printed by genx.py.)
  WHAT THE FUNCTIONS COMPUTE, layer 4, the document's 'Same', of selectors and themselves: true.
  Layer 4: what 'Small' says of selectors' parts and texts; that what is read of any values has few parts.
-/
import Derived.Test.YtlomcifkckgneaaGreatDoorRc4
import Derived.Test.YtlomcifkckgneaaGreatDoorRc6
import Derived.Test.YtlomcifkckgneaaGreatDoorRc7
import Derived.Test.YtlomcifkckgneaaGreatDoorRc9
import Derived.Test.YtlomcifkckgneaaGreatDoorRc13
set_option linter.unusedSimpArgs false
set_option linter.unusedVariables false
namespace Go.Abs
open Go Go.Proofs
set_option maxRecDepth 10000
attribute [local go_sem] cM bt ck bJ bH cL cq co aR bU bO ci cN bF opd avOf cvOf St.degAt St.put okPV dA okAV cZ cY cX cG aH if_true Bool.false_eq_true if_false Option.map_some Option.map_none Option.bind_some Option.bind_none dC dr upd List.toList_toArray cA steal bm mvB c8 cF cE AV.deg CV.deg AV.gv AV.isIter cy cj bK List.length_nil List.length_cons List.filterMap_cons List.filterMap_nil beq_iff_eq List.getElem?_cons_zero List.getElem?_cons_succ Option.getD_some dE ev Bool.false_and Bool.and_false Bool.and_self K_P eN bZ cz bh lend back idx dedup AV.ren CV.ren TV.ren AV.ptrs CV.ptrs cH AV.flat CV.flat cf bQ aV cK cQ dM bW aM bX bc bv bR bd d8 CV.pv? content bo ownT aW reps pvs chunks bM leave dU cw cV bG bg TV.deg TV.av LK CV.plain CV.noBld cJ dX bound List.map_cons List.map_nil List.all_cons List.all_nil List.any_cons List.any_nil List.contains_cons List.contains_nil List.elem_cons List.elem_nil List.cons_append List.nil_append List.append_nil List.flatMap_cons List.flatMap_nil List.zip_cons_cons List.zip_nil_left List.zip_nil_right List.take_succ_cons List.take_zero List.take_nil List.drop_succ_cons List.drop_zero List.drop_nil List.isEmpty_nil List.isEmpty_cons Bool.and_true Bool.true_and Bool.or_true Bool.true_or Bool.or_false Bool.false_or Bool.not_true Bool.not_false Nat.add_zero Nat.zero_add Option.isNone_none Option.isNone_some Option.getD_none true_and and_true not_true_eq_false not_false_eq_true decide_true decide_false Nat.le_refl and_self Bool.not_eq_true Nat.sub_self or_true true_or Option.some.injEq List.length_map List.nil_eq and_false false_and AV.live CV.live CV.liveIn dq aX Option.orElse_some Option.orElse_none head a7 a6 Int.lt_irrefl List.length_append ite_self dz ce cO bu Key.clash Key.sees Key.writes Nat.lt_irrefl gt_iff_lt cg dc false_or or_false beq_self_eq_true Bool.true_beq Bool.false_beq Gv DR EB kZ wG
theorem vY (l:List Val) (first:Bool) (hsz:Ne.size l≤100000000) (hts:TSh l) (hne:l≠[]) {x:Sim} {r:List Val} (h:Sl.simple (Ne.size l) first l=some (x,r)):r.length<l.length ∧ ∃ p,l=p++r :=
 Sl.sF _ _ _ _ _ h
abbrev cmH (l:List Val) (e:Nat) (acc:List Sim):St :=
  { sl:=upd (upd bot 4 (.c (.own e (Sim.encL acc)))) 0 P0,bx:=upd nobox 100000 (some (rdB l)),nt:=32 }
noncomputable def cmlp:Code := .loop (ao Tryz.f91 2)
theorem Kt (l:List Val) (e:Nat) (acc:List Sim) (hl:l.length≤60000000) (h:Sl.nS l=true) :
  Ends (exL K 91 cmlp (cmH l e acc)) fun o S=>o = .exit 0∧S.nt=32∧S.sl 0=P0∧S.sl 4 = .c (.own e (Sim.encL acc))∧S.bx 100000=some (rdB l):=by
 have he:=ky l hl
 rw[h] at he
 simp only[rdB] at he
 unfold cmlp
 conv in ao _ _=>whnf
 rw[aw]
 simp only[go_sem,Nat.reduceLT,reduceCtorEq,Nat.reduceEqDiff,Nat.reduceBEq,Nat.reduceAdd,he,ay]
set_option maxHeartbeats 4000000 in
theorem It (l:List Val) (e:Nat) (acc:List Sim) (hl:l.length≤60000000) (h:Sl.nS l=false) (hd:Sl.double l=true):match Sl.lG l with
  | some (s,r)=>Ends (exL K 91 cmlp (cmH l e acc)) fun o S=>o = .ret∧S.nt=32∧S.sl 2=L (Sim.encL acc)∧S.sl 3=T s∧S.bx 100000=some (rdB r)
  | none=>Ends (exL K 91 cmlp (cmH l e acc)) fun o S=>o = .pan du∧S.bx 100000=some (rdB l):=by
 have he:=ky l hl
 rw[h] at he
 have hx:=Fz l hl hd
 cases hm:Sl.lG l with
 | none =>
  rw[hm] at hx
  dsimp only
  simp only[rdB] at he hx
  unfold cmlp
  conv in ao _ _=>whnf
  rw[aw]
  simp only[go_sem,Nat.reduceLT,reduceCtorEq,Nat.reduceEqDiff,Nat.reduceBEq,Nat.reduceAdd,he,hx,ay]
 | some y =>
  obtain ⟨s,r⟩:=y
  rw[hm] at hx
  have hs:(s==[])=false:=by
   unfold Sl.lG at hm
   split at hm
   ·split at hm
    ·rename_i hh
     cases hm
     rcases hh with rfl|rfl<;>rfl
    ·cases hm
   ·cases hm
  dsimp only
  simp only[rdB] at he hx
  unfold cmlp
  conv in ao _ _=>whnf
  rw[aw]
  simp only[go_sem,Nat.reduceLT,reduceCtorEq,Nat.reduceEqDiff,Nat.reduceBEq,Nat.reduceAdd,he,hx,hs,bne,ay]
set_option maxHeartbeats 4000000 in
theorem Jh (l:List Val) (e:Nat) (acc:List Sim) (hl:l.length≤60000000) (h:Sl.nS l=false) (hd:Sl.double l=false) (h8 : ¬ acc.length<8) :
  Ends (exL K 91 cmlp (cmH l e acc)) fun o S=>o = .pan du∧S.bx 100000=some (rdB l):=by
 have he:=ky l hl
 rw[h] at he
 have hx:=vq l hl hd
 have q0:(([]:List UInt8)==[])=true:=rfl
 have e8:decide ((acc.length:Int)<8)=false:=decide_eq_false (by omega)
 have hmn:=gk
 simp only[rdB] at he hx
 unfold cmlp
 conv in ao _ _=>whnf
 rw[aw]
 simp only[go_sem,Nat.reduceLT,reduceCtorEq,Nat.reduceEqDiff,Nat.reduceBEq,Nat.reduceAdd,ah aa,he,hx,q0,bne,oH,e8,hmn,ay]
set_option maxHeartbeats 4000000 in
theorem JD (l m:List Val) (e:Nat) (acc:List Sim) (hl:l.length≤60000000) (h:Sl.nS l=false) (hd:Sl.double l=false) (h8:acc.length<8)
  (hs:den K 140 [P0,B acc.isEmpty] [rdB l]=some (.pan du [rdB m])) :
  Ends (exL K 91 cmlp (cmH l e acc)) fun o S=>o = .pan du∧S.bx 100000=some (rdB m):=by
 have he:=ky l hl
 rw[h] at he
 have hx:=vq l hl hd
 have q0:(([]:List UInt8)==[])=true:=rfl
 have e8:decide ((acc.length:Int)<8)=true:=decide_eq_true (by omega)
 have hmy:=eC
 simp only[rdB] at he hx hs
 unfold cmlp
 conv in ao _ _=>whnf
 rw[aw]
 simp only[go_sem,Nat.reduceLT,reduceCtorEq,Nat.reduceEqDiff,Nat.reduceBEq,Nat.reduceAdd,ah aa,he,hx,q0,bne,oH,e8,jK,hmy,hs,ay]
set_option maxHeartbeats 8000000 in
theorem I7 (l r:List Val) (e:Nat) (acc:List Sim) (x:Sim) (hl:l.length≤60000000) (h:Sl.nS l=false) (hd:Sl.double l=false) (h8:acc.length<8) (he:e=52∨acc=[])
  (hs:den K 140 [P0,B acc.isEmpty] [rdB l]=some (.ret (simE x) [rdB r])) :
  exL K 91 cmlp (cmH l e acc)=exL K 91 cmlp (cmH r 52 (acc++[x])):=by
 have hn:=ky l hl
 rw[h] at hn
 have hx:=vq l hl hd
 have q0:(([]:List UInt8)==[])=true:=rfl
 have e8:decide ((acc.length:Int)<8)=true:=decide_eq_true (by omega)
 have hmy:=eC
 have hown:e=52∨(Sim.encL acc).isEmpty=true:=by
  rcases he with rfl|rfl
  ·exact .inl rfl
  ·exact .inr rfl
 have hlim:acc.length+1<cD:=by unfold cD;omega
 have hlv:=Cj acc
 obtain ⟨k,n,v,a,b,xl⟩:=x
 unfold cmlp
 conv in ao _ _=>whnf
 conv in ao _ _=>whnf
 cases xl
 all_goals
  simp only[rdB,simE,cT,eK] at hn hx hs
  conv in exL _ _ _ (cmH l e acc)=>rw[aw]
  simp only[go_sem,Nat.reduceLT,reduceCtorEq,Nat.reduceEqDiff,Nat.reduceBEq,Nat.reduceAdd,Nat.reduceMul,ah aa,am (len:=1) aa dS ag ⟨rfl,by decide,by decide⟩,cB tw,br aa,hn,hx,q0,bne,oH,e8,jK,hmy,hs,hown,hlim,hlv,F3,HC,H1]
  rw[aB]
  simp only[go_sem,reduceCtorEq,Nat.reduceEqDiff]
theorem BO : ∀ (f:Nat) (l:List Val) (e:Nat) (acc:List Sim),l.length<f→Ne.size l≤60000000→TSh l→(e=52∨acc=[]) →
  Ends (exL K 91 cmlp (cmH l e acc)) fun o S=>match Sl.lI f acc l with
   | none=>(∃ m,o = .pan du∧S.bx 100000=some (rdB m))∨(∃ m e',o = .exit 0∧S.nt=32∧S.sl 0=P0∧S.sl 4 = .c (.own e' (Sim.encL []))∧S.bx 100000=some (rdB m))
   | some ((ps,s),r)=>(s≠[]∧o = .ret∧S.nt=32∧S.sl 2=L (Sim.encL ps)∧S.sl 3=T s∧S.bx 100000=some (rdB r)) ∨
    (s=[]∧ps≠[] ∧ ∃ e',o = .exit 0∧S.nt=32∧S.sl 0=P0∧S.sl 4 = .c (.own e' (Sim.encL ps))∧S.bx 100000=some (rdB r))
 | 0,_,_,_,h,_,_,_=>absurd h (Nat.not_lt_zero _)
 | f+1,l,e,acc,hf,hsz,hts,he=>by
  have hl:l.length≤60000000:=Nat.le_trans (Ne.cU l) hsz
  rw[Sl.lI]
  cases h:Sl.nS l with
  | true =>
   simp only[if_true]
   refine cm (Kt l e acc hl h) fun o S q => ?_
   obtain ⟨q1,q2,q3,q4,q5⟩:=q
   cases acc with
   | nil=>exact .inr ⟨l,e,q1,q2,q3,q4,q5⟩
   | cons x acc=>exact .inr ⟨rfl,by simp,e,q1,q2,q3,q4,q5⟩
  | false =>
   simp only[Bool.false_eq_true,if_false]
   cases hd:Sl.double l with
   | true =>
    simp only[if_true]
    have hx:=It l e acc hl h hd
    cases hm:Sl.lG l with
    | none =>
     rw[hm] at hx
     exact cm hx fun o S q => .inl ⟨l,q⟩
    | some y =>
     obtain ⟨s,r⟩:=y
     rw[hm] at hx
     refine cm hx fun o S q => .inl ⟨?_,q⟩
     unfold Sl.lG at hm
     split at hm
     ·split at hm
      ·rename_i hh
       cases hm
       rcases hh with rfl|rfl
       ·show Sl.fK≠[];decide
       ·show Sl.g6≠[];decide
      ·cases hm
     ·cases hm
   | false =>
    simp only[Bool.false_eq_true,if_false]
    by_cases h8:acc.length<8
    ·rw[if_pos h8]
     have hne:l≠[]:=by rintro rfl;cases h
     have hs:=uV l acc.isEmpty hsz hts hne
     cases hx:Sl.simple (Ne.size l) acc.isEmpty l with
     | none =>
      rw[hx] at hs
      obtain ⟨m,hs⟩:=eR hs
      exact cm (JD l m e acc hl h hd h8 hs) fun o S q => .inl ⟨m,q⟩
     | some y =>
      obtain ⟨x,r⟩:=y
      rw[hx] at hs
      obtain ⟨g1,p,g2⟩:=vY l acc.isEmpty (by omega) hts hne hx
      rw[I7 l r e acc x hl h hd h8 he (dP hs)]
      simp only
      have hsr:Ne.size r≤Ne.size l:=by rw[g2,jk];omega
      exact BO f r 52 (acc++[x]) (by omega) (by omega) (sk hts fun v hv=>by rw[g2];simp[hv]) (.inl rfl)
    ·rw[if_neg h8]
     exact cm (Jh l e acc hl h hd h8) fun o S q => .inl ⟨l,q⟩
abbrev pL (x:List Sim×List UInt8):AV := .tup [.c (.pv (.sl (Sim.encL x.1))),.c (.pv (.str x.2))]
set_option maxHeartbeats 8000000 in
theorem Ci (l:List Val) (hsz:Ne.size l≤60000000) (hts:TSh l):gF pL (Sl.lI (l.length+1) [] l) (den K 91 [P0] [rdB l]):=by
 have hr:Tryz.f91.results = #[.tmp 2,.tmp 3]:=rfl
 have h:=BO (l.length+1) l 0 [] (by omega) hsz hts (.inr rfl)
 have hmy:=eC
 have hmn:=gk
 unfold cmlp at h
 conv at h in ao _ _=>whnf
 obtain ⟨o,S,w,hq⟩:=h
 have e0:Sim.encL []=[]:=rfl
 simp only[cmH,rdB,e0] at w
 cases hc:Sl.lI (l.length+1) [] l with
 | none =>
  rw[hc] at hq
  rcases hq with ⟨m,rfl,q1⟩|⟨m,e',rfl,q1,q2,q3,q4⟩
  ·refine ⟨m,?_⟩
   simp only[rdB] at q1 ⊢
   refine ai rfl rfl Tryz.func91 rfl Tryz.ntmps91 ⟨by simp,by simp[LK]⟩ ?_
   simp only[go_sem,Nat.reduceLT,Nat.reduceBEq,Nat.reduceAdd]
   rw[aB]
   simp only[go_sem,reduceCtorEq,Nat.reduceEqDiff]
   erw [w]
   simp only[go_sem,hr,q1]
  ·refine ⟨m,?_⟩
   have d0:decide ((0:Int)<((0:Nat):Int))=false:=rfl
   simp only[rdB,e0] at q3 q4 ⊢
   refine ai rfl rfl Tryz.func91 rfl Tryz.ntmps91 ⟨by simp,by simp[LK]⟩ ?_
   simp only[go_sem,Nat.reduceLT,Nat.reduceBEq,Nat.reduceAdd]
   rw[aB]
   simp only[go_sem,reduceCtorEq,Nat.reduceEqDiff]
   erw [w]
   simp only[go_sem,Nat.reduceLT,Nat.reduceEqDiff,Nat.reduceBEq,ah aa,hr,q1,q3,q4,d0,hmn]
 | some y =>
  obtain ⟨⟨ps,s⟩,r⟩:=y
  rw[hc] at hq
  show den K 91 [P0] [rdB l]=some (.ret (pL (ps,s)) [rdB r])
  rcases hq with ⟨_,rfl,q0,q1,q2,q3⟩|⟨rfl,hne,e',rfl,q1,q2,q3,q4⟩
  ·simp only[rdB] at q3 ⊢
   refine ai rfl rfl Tryz.func91 rfl Tryz.ntmps91 ⟨by simp,by simp[LK]⟩ ?_
   simp only[go_sem,Nat.reduceLT,Nat.reduceBEq,Nat.reduceAdd]
   rw[aB]
   simp only[go_sem,reduceCtorEq,Nat.reduceEqDiff]
   erw [w]
   simp only[go_sem,hr,q1,q2,q3]
  ·have d0:decide ((0:Int)<(ps.length:Int))=true:=decide_eq_true (by
    have:ps.length≠0:=fun h=>hne (List.eq_nil_of_length_eq_zero h)
    omega)
   simp only[rdB] at q4 ⊢
   refine ai rfl rfl Tryz.func91 rfl Tryz.ntmps91 ⟨by simp,by simp[LK]⟩ ?_
   simp only[go_sem,Nat.reduceLT,Nat.reduceBEq,Nat.reduceAdd]
   rw[aB]
   simp only[go_sem,reduceCtorEq,Nat.reduceEqDiff]
   erw [w]
   simp only[go_sem,Nat.reduceLT,Nat.reduceEqDiff,Nat.reduceBEq,Nat.reduceAdd,ah aa,hr,q1,q3,q4,oH,d0,hmy]
attribute [local go_sem] AM rq zA ab bf yW aQ yj
def zV (i:Nat) (c:UInt8) (r:List UInt8):Int:=match Tk.inner c r with|some n=>((i+1+n:Nat):Int)|none => -1
abbrev inH (s:List UInt8) (i k:Nat):St := { sl:=upd (upd (upd bot 5 (I k)) 1 (I i)) 0 (T s),bx:=nobox,nt:=38 }
theorem IY (s:List UInt8) (hs:s.length<4000000000) (i:Nat) (c:UInt8) (hi:s[i]? = some c) : ∀ (rest:List UInt8) (k:Nat),s.drop k=rest→k≤s.length →
  Ends (exL K 117 (.loop (ao Tryz.f117 2)) (inH s i k)) fun o S=>(∃ n,Tk.inner c rest=some n∧o = .ret∧S.sl 4=I (k+n:Nat))∨(Tk.inner c rest=none∧(o = .ret∧S.sl 4=I (-1)∨o = .exit 0∧S.nt=38)):=by
 intro rest
 induction rest with
 | nil =>
  intro k hd hk
  have hin:k=s.length:=by
   have:=List.drop_eq_nil_iff.1 hd
   omega
  subst hin
  have hv:Tk.inner c []=none:=rfl
  conv in ao _ _=>whnf
  rw[aw]
  simp only[go_sem,Nat.reduceLT,reduceCtorEq,Nat.reduceEqDiff,Nat.reduceBEq,Nat.reduceAdd,aE al,ay,hv]
 | cons d rest ih =>
  intro k hd hk
  obtain ⟨g1,g2,g3⟩:=bS hd
  have hlt:decide ((k:Int)<(s.length:Int))=true:=decide_eq_true (by omega)
  have edc:((d.toNat:Int)==(c.toNat:Int))=(d==c):=ey d c
  have e10:((d.toNat:Int)==10)=(d==10):=ey d 10
  have e12:((d.toNat:Int)==12)=(d==12):=ey d 12
  have e13:((d.toNat:Int)==13)=(d==13):=ey d 13
  have ih':=ih (k+1) g2 (by omega)
  conv at ih' in ao _ _=>whnf
  conv in ao _ _=>whnf
  rw[aw]
  cases q:(d==c)
  ·rw[q] at edc
   have hdc:d≠c:=by simpa using q
   cases q10:(d==10)
   ·rw[q10] at e10
    cases q12:(d==12)
    ·rw[q12] at e12
     cases q13:(d==13)
     ·rw[q13] at e13
      have he:Tk.ending d=false:=by unfold Tk.ending;rw[q10,q12,q13];rfl
      have hv:Tk.inner c (d::rest)=(Tk.inner c rest).map (· + 1):=by rw[Tk.inner,if_neg hdc,if_neg (by simp[he])]
      rw[hv]
      have fin : ∀ {r:Option (Out×St)},Ends r (fun o S=>(∃ n,Tk.inner c rest=some n∧o = .ret∧S.sl 4=I (k+1+n:Nat))∨(Tk.inner c rest=none∧(o = .ret∧S.sl 4=I (-1)∨o = .exit 0∧S.nt=38)))→Ends r (fun o S=>(∃ n,(Tk.inner c rest).map (· + 1)=some n∧o = .ret∧S.sl 4=I (k+n:Nat))∨((Tk.inner c rest).map (· + 1)=none∧(o = .ret∧S.sl 4=I (-1)∨o = .exit 0∧S.nt=38))):=by
       rintro r ⟨o,S,e,h⟩
       refine ⟨o,S,e,?_⟩
       rcases h with ⟨n,h1,h2,h3⟩|⟨h1,h2⟩
       ·left;exact ⟨n+1,by rw[h1];rfl,h2,by rw[h3,show k+1+n=k+(n+1) by omega]⟩
       ·right;exact ⟨by rw[h1];rfl,h2⟩
      refine fin ?_
      simp only[go_sem,Nat.reduceLT,reduceCtorEq,Nat.reduceEqDiff,Nat.reduceBEq,Nat.reduceAdd,aE al,aZ al,hlt,g1,hi,edc,e10,e12,e13,Int.natCast_nonneg,Int.toNat_natCast,bA k (by omega)]
      rw[aB]
      simp only[go_sem,reduceCtorEq,Nat.reduceEqDiff]
      exact ih'
     ·rw[q13] at e13
      have he:Tk.ending d=true:=by unfold Tk.ending;rw[q13,Bool.or_true]
      have hv:Tk.inner c (d::rest)=none:=by rw[Tk.inner,if_neg hdc,if_pos he]
      simp only[go_sem,Nat.reduceLT,reduceCtorEq,Nat.reduceEqDiff,Nat.reduceBEq,Nat.reduceAdd,aE al,aZ al,ay,hlt,g1,hi,edc,e10,e12,e13,Int.natCast_nonneg,Int.toNat_natCast,hv]
    ·rw[q12] at e12
     have he:Tk.ending d=true:=by unfold Tk.ending;rw[q12,Bool.or_true,Bool.true_or]
     have hv:Tk.inner c (d::rest)=none:=by rw[Tk.inner,if_neg hdc,if_pos he]
     simp only[go_sem,Nat.reduceLT,reduceCtorEq,Nat.reduceEqDiff,Nat.reduceBEq,Nat.reduceAdd,aE al,aZ al,ay,hlt,g1,hi,edc,e10,e12,Int.natCast_nonneg,Int.toNat_natCast,hv]
   ·rw[q10] at e10
    have he:Tk.ending d=true:=by unfold Tk.ending;rw[q10,Bool.true_or,Bool.true_or]
    have hv:Tk.inner c (d::rest)=none:=by rw[Tk.inner,if_neg hdc,if_pos he]
    simp only[go_sem,Nat.reduceLT,reduceCtorEq,Nat.reduceEqDiff,Nat.reduceBEq,Nat.reduceAdd,aE al,aZ al,ay,hlt,g1,hi,edc,e10,Int.natCast_nonneg,Int.toNat_natCast,hv]
  ·rw[q] at edc
   have hv:Tk.inner c (d::rest)=some 0:=by rw[Tk.inner,if_pos (by simpa using q)]
   simp only[go_sem,Nat.reduceLT,reduceCtorEq,Nat.reduceEqDiff,Nat.reduceBEq,Nat.reduceAdd,aE al,aZ al,ay,hlt,g1,hi,edc,Int.natCast_nonneg,Int.toNat_natCast,hv]
   simp
theorem zC (s:List UInt8) (i:Nat) (c:UInt8) (r:List UInt8) (hs:s.length<4000000000) (hd:s.drop i=c::r):den K 117 [T s,I i] []=some (.ret (I (zV i c r)) []):=by
 obtain ⟨g1,g2,g3⟩:=bS hd
 refine ai rfl rfl Tryz.func117 rfl Tryz.ntmps117 ⟨by simp,by simp[LK]⟩ ?_
 have hr:Tryz.f117.results = #[.tmp 4]:=rfl
 have hl:=IY s hs i c g1 r (i+1) g2 (by omega)
 conv at hl in ao _ _=>whnf
 obtain ⟨o,S',w,h⟩:=hl
 simp only[go_sem,Nat.reduceLT,Nat.reduceEqDiff,Nat.reduceBEq,Nat.reduceAdd,bA i (by omega)]
 rw[aB]
 simp only[go_sem,reduceCtorEq,Nat.reduceEqDiff]
 erw [w]
 unfold zV
 rcases h with ⟨n,h1,rfl,h2⟩|⟨h1,⟨rfl,h2⟩|⟨rfl,h2⟩⟩
 ·rw[h1]
  simp only[go_sem,hr,h2]
 ·rw[h1]
  simp only[go_sem,hr,h2]
 ·rw[h1]
  simp only[go_sem,Nat.reduceLT,Nat.reduceBEq,hr,h2]
abbrev nmH (s:List UInt8) (i:Nat) (n:Int) (k:Nat):St := { sl:=upd (upd (upd (upd (upd bot 7 (I k)) 6 (I n)) 4 (.c (.loc 4 0))) 1 (I i)) 0 (T s),bx:=upd nobox 4 (some [.pv (.int .i64 0),.pv (.str []),.pv (.int .i64 0)]),nt:=63 }
theorem Ib (s:List UInt8) (hs:s.length<4000000000) (i:Nat) : ∀ (rest:List UInt8) (k:Nat) (n:Int),s.drop k=rest→k≤s.length→0≤n→n≤999999999 →
  Ends (exL K 120 (.loop (ao Tryz.f120 4)) (nmH s i n k)) fun o S=>o = .exit 0∧S.nt=63∧S.sl 0=T s∧S.sl 1=I i∧S.sl 4 = .c (.loc 4 0)∧S.sl 6=I (Tk.num n rest)∧S.sl 7=I (k+Tk.run Tk.digit rest:Nat)∧S.bx=upd nobox 4 (some [.pv (.int .i64 0),.pv (.str []),.pv (.int .i64 0)]):=by
 intro rest
 induction rest with
 | nil =>
  intro k n hd hk h0 h1
  have d1:=gi s k hs
  rw[hd] at d1
  have v0:atC [] = -1:=rfl
  rw[v0] at d1
  have e0:((-1:Int)==2)=false:=by decide
  conv in ao _ _=>whnf
  rw[aw]
  simp only[go_sem,Nat.reduceLT,reduceCtorEq,Nat.reduceEqDiff,Nat.reduceBEq,Nat.reduceAdd,ay,d1,e0,Tk.qI,Tk.num]
 | cons c rest ih =>
  intro k n hd hk h0 h1
  obtain ⟨g1,g2,g3⟩:=bS hd
  have d1:=gi s k hs
  rw[hd] at d1
  have v0:atC (c::rest)=eL c:=rfl
  rw[v0] at d1
  obtain ⟨_,f,_,_,_⟩:=iQ c
  conv in ao _ _=>whnf
  rw[aw]
  cases b:(eL c==2)
  ·rw[b] at f
   have hv:Tk.run Tk.digit (c::rest)=0:=by rw[Tk.run,←f];rfl
   have hv2:Tk.num n (c::rest)=n:=by rw[Tk.num,←f];rfl
   simp only[go_sem,Nat.reduceLT,reduceCtorEq,Nat.reduceEqDiff,Nat.reduceBEq,Nat.reduceAdd,ay,d1,b,hv,hv2]
  ·rw[b] at f
   have hc:=f.symm
   have hcn:48≤c.toNat∧c.toNat≤57:=by simpa[Tk.digit] using hc
   have hv:k+1+Tk.run Tk.digit rest=k+Tk.run Tk.digit (c::rest):=by rw[Tk.run,if_pos hc];omega
   have hv2:Tk.num n (c::rest)=Tk.num (min (10*n+((c.toNat:Int) - 48)) 999999999) rest:=by rw[Tk.num,if_pos hc]
   have w1:IntKind.i64.wrap (10*n)=10*n:=IntWalk.i64_in _ (by omega)
   have w3:IntKind.i64.wrap (c.toNat:Int)=(c.toNat:Int):=IntWalk.i64_in _ (by omega)
   have w4:IntKind.i64.wrap (10*n+(c.toNat:Int))=10*n+(c.toNat:Int):=IntWalk.i64_in _ (by omega)
   have w5:IntKind.i64.wrap (10*n+(c.toNat:Int) - 48)=10*n+((c.toNat:Int) - 48):=by rw[IntWalk.i64_in _ (by omega)];omega
   have ih':=ih (k+1) (min (10*n+((c.toNat:Int) - 48)) 999999999) g2 (by omega) (by omega) (by omega)
   rw[hv,←hv2] at ih'
   conv at ih' in ao _ _=>whnf
   simp only[go_sem,Nat.reduceLT,reduceCtorEq,Nat.reduceEqDiff,Nat.reduceBEq,Nat.reduceAdd,aZ al,dl dZ dF,d1,b,g1,Int.natCast_nonneg,Int.toNat_natCast,w1,w3,w4,w5,q9,jR,List.foldl_cons,List.foldl_nil,Bm,bA k (by omega)]
   rw[aB]
   simp only[go_sem,reduceCtorEq,Nat.reduceEqDiff]
   exact ih'
abbrev d7 (t:Tok) (i:Nat):AV := .tup [.agg t.cells,.c (.pv (.int .i64 (i:Nat)))]
set_option maxHeartbeats 8000000 in
theorem pG (s:List UInt8) (i:Nat) (c:UInt8) (r:List UInt8) (neg:Bool) (l:List UInt8) (hs:s.length<4000000000) (hd:s.drop i=c::r) (hneg:(c==45)=neg) (hl:l=if neg then r else c::r) :
  den K 120 [T s,I i] []=some (.ret (d7 (Tk.number neg l).1 (i+(if neg then 1 else 0)+(Tk.number neg l).2)) []):=by
 obtain ⟨g1,g2,g3⟩:=bS hd
 have e45:((c.toNat:Int)==45)=neg:=(ey c 45).trans hneg
 obtain ⟨j,hj⟩ : ∃ j,j=i+(if neg then 1 else 0):=⟨_,rfl⟩
 have hdj:s.drop j=l:=by cases neg<;>simp only[Bool.false_eq_true,if_true,if_false,Nat.add_zero] at hj hl<;>subst hj<;>subst hl<;>assumption
 have hjl:j≤s.length:=by cases neg<;>simp only[Bool.false_eq_true,if_true,if_false] at hj<;>omega
 have hll:l.length=s.length - j:=by rw[←hdj,List.length_drop]
 have hrl:=Tk.run_le (p:=Tk.digit) l
 have hnum:=Tk.mq (l:=l) (n:=0) (by omega) (by omega)
 have hlp:=Ib s hs i l j 0 hdj hjl (by omega) (by omega)
 conv at hlp in ao _ _=>whnf
 obtain ⟨o,S',w,rfl,fn,f0,f1,f4,f6,f7,fb⟩:=hlp
 unfold Tk.number
 rw[←hj]
 generalize hk:Tk.run Tk.digit l=k at hrl f7
 simp only
 have hde:s.drop (j+k)=l.drop k:=by rw[←List.drop_drop,hdj]
 have dB:=ng s (j+k) hs (by omega)
 have dN:=o1 s (j+k) hs (by omega)
 rw[hde] at dB dN
 have hul:=Tk.vP (l.drop k)
 rw[List.length_drop] at hul
 have w3:IntKind.i64.wrap (0 - Tk.num 0 l) = -Tk.num 0 l:=by rw[IntWalk.i64_in _ (by omega)];omega
 have w1:=bA (j+k) (by omega)
 have wi:=bA i (by omega)
 have hunit:(decide (((j+k:Nat):Int)<(s.length:Int))=true∧(∃ d,s[j+k]? = some d∧((d.toNat:Int)==37)=true)∧Tk.unit (l.drop k)=1)∨((decide (((j+k:Nat):Int)<(s.length:Int))=false∨decide (((j+k:Nat):Int)<(s.length:Int))=true ∧ ∃ d,s[j+k]? = some d∧((d.toNat:Int)==37)=false)∧Tk.unit (l.drop k)=if Tk.dR (l.drop k) then Tk.run Tk.within (l.drop k) else 0):=by
  unfold Tk.unit Tk.name
  by_cases hlt:j+k<s.length
  ·have hdd:=List.drop_eq_getElem_cons hlt
   rw[hde] at hdd
   have hg:s[j+k]? = some (s[j+k]'hlt):=List.getElem?_eq_getElem hlt
   have h0:Tk.at0 (l.drop k)=s[j+k]'hlt:=by rw[hdd];rfl
   rw[h0]
   generalize s[j+k]'hlt=d at hg
   by_cases h37:d=37
   ·left;exact ⟨decide_eq_true (by omega),⟨d,hg,by rw[h37];rfl⟩,by rw[if_pos h37]⟩
   ·right;exact ⟨.inr ⟨decide_eq_true (by omega),d,hg,(ey d 37).trans (by simpa using h37)⟩,by rw[if_neg h37]⟩
  ·have hnil:l.drop k=[]:=List.drop_eq_nil_of_le (by omega)
   rw[hnil]
   right;exact ⟨.inl (decide_eq_false (by omega)),rfl⟩
 generalize Tk.unit (l.drop k)=u at hul hunit
 have hsub:(s.take (j+k+u)).drop (j+k)=(l.drop k).take u:=by rw[List.drop_take,hde];congr 1;omega
 have b1:(((j+k+u:Nat):Int)≤(s.length:Int))=True:=eq_true (by omega)
 have b2:(((j+k:Nat):Int)≤((j+k+u:Nat):Int))=True:=eq_true (by omega)
 rw[←Nat.add_assoc]
 have z01:((0:Int)=1)=False:=by simp
 have hr:Tryz.f120.results = #[.cell 4 91,.tmp 5]:=rfl
 refine ai rfl rfl Tryz.func120 rfl Tryz.ntmps120 ⟨by simp,by simp[LK]⟩ ?_
 cases neg
 ·simp only[Bool.false_eq_true,if_false,Nat.add_zero] at hj ⊢
  subst hj
  simp only[go_sem,Nat.reduceLT,reduceCtorEq,Nat.reduceEqDiff,Nat.reduceBEq,Nat.reduceAdd,Nat.reduceSub,Nat.reduceLeDiff,aZ al,g1,Int.natCast_nonneg,Int.toNat_natCast,e45]
  rw[aB]
  simp only[go_sem,reduceCtorEq,Nat.reduceEqDiff,Nat.reduceSub,Nat.reduceLeDiff]
  erw [w]
  rcases hunit with ⟨u1,⟨d,u2,u3⟩,u4⟩|⟨u1,u4⟩
  ·rw[u4] at b1 b2 hsub ⊢
   simp only[go_sem,Nat.reduceLT,reduceCtorEq,Nat.reduceEqDiff,Nat.reduceBEq,Nat.reduceAdd,Nat.reduceLeDiff,aZ al,aE al,ar al,af ab aj,hr,fn,f0,f1,f4,f6,f7,fb,g1,Int.natCast_nonneg,Int.toNat_natCast,e45,w1,w3,u1,u2,u3,b1,b2,hsub,Tok.cells,d7]
  ·cases hnb:Tk.dR (l.drop k)
   ·rw[hnb] at u4 dB
    simp only[Bool.false_eq_true,if_false] at u4
    rw[u4] at b1 b2 hsub ⊢
    simp only[Nat.add_zero] at b1 b2 hsub ⊢
    rcases u1 with u1|⟨u1,d,u2,u3⟩
    ·simp only[go_sem,Nat.reduceLT,reduceCtorEq,Nat.reduceEqDiff,Nat.reduceBEq,Nat.reduceAdd,Nat.reduceLeDiff,aZ al,aE al,ar al,af ab aj,hr,fn,f0,f1,f4,f6,f7,fb,g1,Int.natCast_nonneg,Int.toNat_natCast,e45,w1,w3,u1,dB,b1,b2,hsub,Tok.cells,d7]
    ·simp only[go_sem,Nat.reduceLT,reduceCtorEq,Nat.reduceEqDiff,Nat.reduceBEq,Nat.reduceAdd,Nat.reduceLeDiff,aZ al,aE al,ar al,af ab aj,hr,fn,f0,f1,f4,f6,f7,fb,g1,Int.natCast_nonneg,Int.toNat_natCast,e45,w1,w3,u1,u2,u3,dB,b1,b2,hsub,Tok.cells,d7]
   ·rw[hnb] at u4 dB
    simp only[if_true] at u4
    rw[←u4] at dN
    rcases u1 with u1|⟨u1,d,u2,u3⟩
    ·simp only[go_sem,Nat.reduceLT,reduceCtorEq,Nat.reduceEqDiff,Nat.reduceBEq,Nat.reduceAdd,Nat.reduceLeDiff,aZ al,aE al,ar al,af ab aj,hr,fn,f0,f1,f4,f6,f7,fb,g1,Int.natCast_nonneg,Int.toNat_natCast,e45,w1,w3,u1,dB,dN,b1,b2,hsub,Tok.cells,d7]
    ·simp only[go_sem,Nat.reduceLT,reduceCtorEq,Nat.reduceEqDiff,Nat.reduceBEq,Nat.reduceAdd,Nat.reduceLeDiff,aZ al,aE al,ar al,af ab aj,hr,fn,f0,f1,f4,f6,f7,fb,g1,Int.natCast_nonneg,Int.toNat_natCast,e45,w1,w3,u1,u2,u3,dB,dN,b1,b2,hsub,Tok.cells,d7]
 ·simp only[if_true] at hj ⊢
  subst hj
  simp only[go_sem,Nat.reduceLT,reduceCtorEq,Nat.reduceEqDiff,Nat.reduceBEq,Nat.reduceAdd,Nat.reduceSub,Nat.reduceLeDiff,aZ al,g1,Int.natCast_nonneg,Int.toNat_natCast,e45,wi]
  rw[aB]
  simp only[go_sem,reduceCtorEq,Nat.reduceEqDiff,Nat.reduceSub,Nat.reduceLeDiff]
  erw [w]
  rcases hunit with ⟨u1,⟨d,u2,u3⟩,u4⟩|⟨u1,u4⟩
  ·rw[u4] at b1 b2 hsub ⊢
   simp only[go_sem,Nat.reduceLT,reduceCtorEq,Nat.reduceEqDiff,Nat.reduceBEq,Nat.reduceAdd,Nat.reduceLeDiff,aZ al,aE al,ar al,af ab aj,hr,fn,f0,f1,f4,f6,f7,fb,g1,Int.natCast_nonneg,Int.toNat_natCast,e45,w1,w3,u1,u2,u3,b1,b2,hsub,Tok.cells,d7]
  ·cases hnb:Tk.dR (l.drop k)
   ·rw[hnb] at u4 dB
    simp only[Bool.false_eq_true,if_false] at u4
    rw[u4] at b1 b2 hsub ⊢
    simp only[Nat.add_zero] at b1 b2 hsub ⊢
    rcases u1 with u1|⟨u1,d,u2,u3⟩
    ·simp only[go_sem,Nat.reduceLT,reduceCtorEq,Nat.reduceEqDiff,Nat.reduceBEq,Nat.reduceAdd,Nat.reduceLeDiff,aZ al,aE al,ar al,af ab aj,hr,fn,f0,f1,f4,f6,f7,fb,g1,Int.natCast_nonneg,Int.toNat_natCast,e45,w1,w3,u1,dB,b1,b2,hsub,Tok.cells,d7]
    ·simp only[go_sem,Nat.reduceLT,reduceCtorEq,Nat.reduceEqDiff,Nat.reduceBEq,Nat.reduceAdd,Nat.reduceLeDiff,aZ al,aE al,ar al,af ab aj,hr,fn,f0,f1,f4,f6,f7,fb,g1,Int.natCast_nonneg,Int.toNat_natCast,e45,w1,w3,u1,u2,u3,dB,b1,b2,hsub,Tok.cells,d7]
   ·rw[hnb] at u4 dB
    simp only[if_true] at u4
    rw[←u4] at dN
    rcases u1 with u1|⟨u1,d,u2,u3⟩
    ·simp only[go_sem,Nat.reduceLT,reduceCtorEq,Nat.reduceEqDiff,Nat.reduceBEq,Nat.reduceAdd,Nat.reduceLeDiff,aZ al,aE al,ar al,af ab aj,hr,fn,f0,f1,f4,f6,f7,fb,g1,Int.natCast_nonneg,Int.toNat_natCast,e45,w1,w3,u1,dB,dN,b1,b2,hsub,Tok.cells,d7]
    ·simp only[go_sem,Nat.reduceLT,reduceCtorEq,Nat.reduceEqDiff,Nat.reduceBEq,Nat.reduceAdd,Nat.reduceLeDiff,aZ al,aE al,ar al,af ab aj,hr,fn,f0,f1,f4,f6,f7,fb,g1,Int.natCast_nonneg,Int.toNat_natCast,e45,w1,w3,u1,u2,u3,dB,dN,b1,b2,hsub,Tok.cells,d7]
attribute [local go_sem] Ad fS g7 Er
theorem Kg (l:List Cpx) (i:Nat) (x:Cpx) (h:l[i]? = some x):(l.map Cpx.enc)[(i:Int).toNat]? = some [.sl (x.parts.map Prt.enc),.str x.pseudo]:=by
 rw[Int.toNat_natCast,List.getElem?_map,h];rfl
abbrev ixcH (l:List Cpx) (i:Nat) (fv:CV) (kb:Option (List CV)):St :=
  { sl:=upd (upd (upd (upd bot 8 (I i)) 7 (I l.length)) 1 (.c fv)) 0 (L ((l).map Cpx.enc)),bx:=upd nobox 100000 kb,nt:=19 }
noncomputable def ixclp:Code := .loop (ao Tryz.f104 2)
theorem yd {g:Nat} (hg:K.good g=true) (ho:K.ownRet g=false) {p:Cpx→Bool} {fv:CV} {xs:List AV} {kb:Option (List CV)} {kl:List (List CV)} (hc:Clo g fv xs kb kl) (l:List Cpx) (hl:l.length≤1000000000)
  (hp : ∀ x,x∈l→den K g (.agg [.pv (.sl (x.parts.map Prt.enc)),.pv (.str x.pseudo)]::xs) kl=some (.ret (B (p x)) kl)) : ∀ (rest:List Cpx) (i:Nat),l.drop i=rest→i≤l.length →
  Ends (exL K 104 ixclp (ixcH l i fv kb)) fun o S=>S.bx 100000=kb∧match rest.findIdx? p with
   | none=>o = .exit 0∧S.nt=19
   | some j=>o = .ret∧S.sl 4=I ((i+j:Nat):Int)
 | [],i,hd,hi=>by
  have hin:i=l.length:=by
   have:=List.drop_eq_nil_iff.1 hd
   omega
  subst hin
  have hlt:decide ((l.length:Int)<(l.length:Int))=false:=decide_eq_false (by omega)
  unfold ixclp
  conv in ao _ _=>whnf
  rw[aw]
  cases hc
  all_goals simp only[go_sem,Nat.reduceLT,reduceCtorEq,Nat.reduceEqDiff,Nat.reduceBEq,ay,List.findIdx?_nil,kD]
 | x::rest,i,hd,hi=>by
  obtain ⟨g1,g2,g3⟩:=bS hd
  have hlt:decide ((i:Int)<(l.length:Int))=true:=decide_eq_true (by omega)
  have hget:=Kg l i x g1
  have ih:=yd hg ho hc l hl hp rest (i+1) g2 (by omega)
  have hm:=hp x (List.mem_of_getElem? g1)
  have hws:IntKind.i64.wrap ((i:Int)+1)=((i+1:Nat):Int):=bA i (by omega)
  unfold ixclp at ih ⊢
  conv at ih in ao _ _=>whnf
  rw[List.findIdx?_cons]
  conv in ao _ _=>whnf
  rw[aw]
  cases hv:p x
  ·rw[if_neg (by simp)]
   rw[hv] at hm
   cases hc
   all_goals
    simp only[go_sem,Nat.reduceLT,reduceCtorEq,Nat.reduceEqDiff,Nat.reduceBEq,Nat.reduceAdd,ae aP,hlt,hget,Int.natCast_nonneg,hm,hg,ho,hws,oM,kD]
    rw[aB]
    simp only[go_sem,reduceCtorEq,Nat.reduceEqDiff,kD]
    refine cm ih fun o S q=>⟨q.1,?_⟩
    have q2:=q.2
    cases hf:rest.findIdx? p with
    | none=>rw[hf] at q2;exact q2
    | some j =>
     rw[hf] at q2
     refine ⟨q2.1,q2.2.trans ?_⟩
     rw[show i+1+j=i+(j+1) by omega]
  ·rw[if_pos rfl]
   rw[hv] at hm
   cases hc
   all_goals simp only[go_sem,Nat.reduceLT,reduceCtorEq,Nat.reduceEqDiff,Nat.reduceBEq,Nat.reduceAdd,ae aP,hlt,hget,Int.natCast_nonneg,hm,hg,ho,ay,Nat.add_zero,oM,kD]
theorem Ay {g:Nat} (hg:K.good g=true) (ho:K.ownRet g=false) {p:Cpx→Bool} {fv:CV} {xs:List AV} {kb:Option (List CV)} {kl:List (List CV)} (hc:Clo g fv xs kb kl) (l:List Cpx) (hl:l.length≤1000000000)
  (hp : ∀ x,x∈l→den K g (.agg [.pv (.sl (x.parts.map Prt.enc)),.pv (.str x.pseudo)]::xs) kl=some (.ret (B (p x)) kl)) :
  den K 104 [L ((l).map Cpx.enc),.c fv] kl=some (.ret (I (ixI (l.findIdx? p))) kl):=by
 have hr:Tryz.f104.results = #[.tmp 4]:=rfl
 have h:=yd hg ho hc l hl hp l 0 rfl (Nat.zero_le _)
 unfold ixclp at h
 conv at h in ao _ _=>whnf
 obtain ⟨o,S',w,hb,hq⟩:=h
 have z0:((0:Nat):Int)=0:=rfl
 simp only[ixcH,z0] at w
 refine ai rfl rfl Tryz.func104 rfl Tryz.ntmps104 ⟨by simp,by simp[LK]⟩ ?_
 cases hf:l.findIdx? p with
 | none =>
  rw[hf] at hq
  obtain ⟨rfl,hn⟩:=hq
  unfold ixI
  cases hc
  all_goals
   simp only[go_sem,Nat.reduceLT,reduceCtorEq,Nat.reduceEqDiff,Nat.reduceBEq,Nat.reduceAdd,ah aP,List.length_map]
   rw[aB]
   simp only[go_sem,reduceCtorEq,Nat.reduceEqDiff,kD]
   erw [w]
   simp only[go_sem,Nat.reduceLT,Nat.reduceBEq,hr,hn,hb,oM]
 | some j =>
  rw[hf] at hq
  obtain ⟨rfl,h4⟩:=hq
  rw[Nat.zero_add] at h4
  unfold ixI
  cases hc
  all_goals
   simp only[go_sem,Nat.reduceLT,reduceCtorEq,Nat.reduceEqDiff,Nat.reduceBEq,Nat.reduceAdd,ah aP,List.length_map]
   rw[aB]
   simp only[go_sem,reduceCtorEq,Nat.reduceEqDiff,kD]
   erw [w]
   simp only[go_sem,hr,h4,hb,oM]
theorem th {g:Nat} (hg:K.good g=true) (ho:K.ownRet g=false) {p:Cpx→Bool} {fv:CV} {xs:List AV} {kb:Option (List CV)} {kl:List (List CV)} (hc:Clo g fv xs kb kl) (l:List Cpx) (hl:l.length≤1000000000)
  (hp : ∀ x,x∈l→den K g (.agg [.pv (.sl (x.parts.map Prt.enc)),.pv (.str x.pseudo)]::xs) kl=some (.ret (B (p x)) kl)) :
  den K 53 [L ((l).map Cpx.enc),.c fv] kl=some (.ret (B (l.any p)) kl):=by
 have hr:Tryz.f53.results = #[.tmp 4]:=rfl
 have h:=Ay hg ho hc l hl hp
 rw[←Eu]
 refine ai rfl rfl Tryz.func53 rfl Tryz.ntmps53 ⟨by simp,by simp[LK]⟩ ?_
 cases hc
 all_goals simp only[go_sem,Nat.reduceLT,reduceCtorEq,Nat.reduceEqDiff,Nat.reduceBEq,Nat.reduceAdd,hr,h,oM,gq]
attribute [local go_sem] m6 gg cS cx bC dG aI b7 dI d9 ed p9 Cl dS dw lZ eI fA eF HU fe jv g9 DB gJ jc dh ij fZ Co fg
theorem gG (k k' a a' b b':Int) (n n' v v':List UInt8):dt Tryz.prog 146 [.int .i64 k,.str n,.str v,.int .i64 a,.int .i64 b] [.int .i64 k',.str n',.str v',.int .i64 a',.int .i64 b']=some ((k==k')&&((n==n')&&((v==v')&&((a==a')&&((b==b')&&true))))):=by kernel_rfl
theorem aD (k a b:Int) (n v:List UInt8) (l:List (List PV)):den K 103 [.agg [.pv (.int .i64 k),.pv (.str n),.pv (.str v),.pv (.int .i64 a),.pv (.int .i64 b),.pv (.sl l)]] []=some (.ret (.agg [.pv (.int .i64 k),.pv (.str n),.pv (.str v),.pv (.int .i64 a),.pv (.int .i64 b)]) []):=by
 have hr:Tryz.f103.results = #[.cell 2 146]:=rfl
 refine ai rfl rfl Tryz.func103 rfl Tryz.ntmps103 ⟨by simp,by simp[LK]⟩ ?_
 simp only[go_sem,Nat.reduceLT,Nat.reduceEqDiff,Nat.reduceBEq,Nat.reduceAdd,Nat.reduceSub,Nat.reduceLeDiff,af gg lp,hr]
def Sim4Den (l:List Sim):Prop:=den K 52 [L (l.map Sim.enc),L (l.map Sim.enc)] []=some (.ret (B true) [])
abbrev si4H (l:List Sim) (i:Nat):St := { sl:=upd (upd (upd bot 5 (I i)) 1 (L (l.map Sim.enc))) 0 (L (l.map Sim.enc)),bx:=nobox,nt:=42 }
noncomputable def si4lp:Code := .loop (ao Tryz.f52 4)
set_option maxHeartbeats 8000000 in
theorem yC (l:List Sim) (hal:l.length≤100000000) (hin : ∀ x∈l, ∀ q n v a b l',x=Sim.mk q n v a b l'→Sim4Den l') : ∀ (rest:List Sim) (i:Nat),l.drop i=rest→i≤l.length →
  Ends (exL K 52 si4lp (si4H l i)) fun o S=>o = .exit 0∧S.nt=42
 | [],i,hd,hi=>by
  have hin:i=l.length:=by
   have:=List.drop_eq_nil_iff.1 hd
   omega
  subst hin
  have hlt:decide ((l.length:Int)<(l.length:Int))=false:=decide_eq_false (by omega)
  unfold si4lp
  conv in ao _ _=>whnf
  rw[aw]
  simp only[go_sem,Nat.reduceLT,reduceCtorEq,Nat.reduceEqDiff,Nat.reduceBEq,Nat.reduceAdd,ah aa,ay]
 | .mk q n v a b l'::rest,i,hd,hi=>by
  obtain ⟨h1,h2,h3⟩:=bS hd
  have hmem:Sim.mk q n v a b l'∈l:=List.mem_of_getElem? h1
  have hc:=hin _ hmem q n v a b l' rfl
  unfold Sim4Den at hc
  have hget:(l.map Sim.enc)[(i:Int).toNat]? = some [.int .i64 q,.str n,.str v,.int .i64 a,.int .i64 b,.sl (l'.map Sim.enc)]:=by simp[h1,Sim.enc_mk]
  have hlt:decide ((i:Int)<(l.length:Int))=true:=decide_eq_true (by omega)
  have hp:=aD q a b n v (l'.map Sim.enc)
  have hb:=gG q q a a b b n n v v
  simp only[beq_self_eq_true,Bool.and_true] at hb
  have hnext:=yC l hal hin rest (i+1) h2 (by omega)
  unfold si4lp at hnext ⊢
  conv at hnext in ao _ _=>whnf
  conv in ao _ _=>whnf
  rw[aw]
  simp only[go_sem,Nat.reduceLT,reduceCtorEq,Nat.reduceEqDiff,Nat.reduceBEq,Nat.reduceAdd,ah aa,ae aa,hlt,hget,Int.natCast_nonneg,hp,hb,hc,bA i (by omega)]
  rw[aB]
  simp only[go_sem,reduceCtorEq,Nat.reduceEqDiff]
  exact hnext
theorem AW (l:List Sim) (hal:l.length≤100000000) (hin : ∀ x∈l, ∀ q n v a b l',x=Sim.mk q n v a b l'→Sim4Den l'):Sim4Den l:=by
 unfold Sim4Den
 have hr:Tryz.f52.results = #[.tmp 4]:=rfl
 have hnext:=yC l hal hin l 0 rfl (Nat.zero_le _)
 unfold si4lp at hnext
 conv at hnext in ao _ _=>whnf
 obtain ⟨o,S',e,rfl,hn⟩:=hnext
 refine ai rfl rfl Tryz.func52 rfl Tryz.ntmps52 ⟨by simp,by simp[LK]⟩ ?_
 simp only[go_sem,Nat.reduceLT,reduceCtorEq,Nat.reduceEqDiff,Nat.reduceBEq,Nat.reduceAdd,ah aa,bne_self_eq_false]
 rw[aB]
 simp only[go_sem,reduceCtorEq,Nat.reduceEqDiff]
 erw [e]
 simp only[go_sem,Nat.reduceLT,Nat.reduceBEq,hr,hn]
inductive Fin4:Sim→Prop
 | mk {k:Int} {n v:List UInt8} {a b:Int} {l:List Sim} (hll:l.length≤100000000) (hl : ∀ x∈l,Fin4 x):Fin4 (Sim.mk k n v a b l)
theorem oA (l:List Sim) (hal:l.length≤100000000) (hok : ∀ x∈l,Fin4 x):Sim4Den l:=by
 have key : ∀ x:Sim,Fin4 x → ∀ q n v a b l',x=Sim.mk q n v a b l'→Sim4Den l':=by
  intro x hx
  induction hx with
  | @mk k n v a c l hll hl ih =>
   intro q n' v' a' b' l' e
   cases e
   exact AW l hll (fun y hy=>ih y hy)
 exact AW l hal (fun x hx=>key x (hok x hx))
abbrev sa4In (l:List Cpx) (i j:Nat):St := { sl:=upd (upd (upd (upd bot 6 (I j)) 5 (I i)) 1 (L (l.map Cpx.enc))) 0 (L (l.map Cpx.enc)),bx:=nobox,nt:=85 }
noncomputable def sa4lp:Code := .loop (ao Tryz.f22 9)
set_option maxHeartbeats 8000000 in
theorem FY (l:List Cpx) (i:Nat) (ps:List Prt) (s:List UInt8) (h1:l[i]? = some ⟨ps,s⟩) (hps:ps.length≤100000000) (hp : ∀ p∈ps,Sim4Den p.l) : ∀ (rest:List Prt) (j:Nat),ps.drop j=rest→j≤ps.length →
  Ends (exL K 22 sa4lp (sa4In l i j)) fun o S=>o = .exit 2∧S.nt=85∧S.sl 0=L (l.map Cpx.enc)∧S.sl 1=L (l.map Cpx.enc)∧S.sl 5=I i
 | [],j,hd,hj=>by
  have hin:j=ps.length:=by
   have:=List.drop_eq_nil_iff.1 hd
   omega
  subst hin
  have g1:(l.map Cpx.enc)[(i:Int).toNat]? = some [.sl (ps.map Prt.enc),.str s]:=by simp[h1,Cpx.enc]
  have hlt:decide ((ps.length:Int)<(ps.length:Int))=false:=decide_eq_false (by omega)
  unfold sa4lp
  conv in ao _ _=>whnf
  rw[aw]
  simp only[go_sem,Nat.reduceLT,reduceCtorEq,Nat.reduceEqDiff,Nat.reduceBEq,Nat.reduceAdd,ae aP,ah aN,ay,g1,Int.natCast_nonneg]
 | ⟨k,ls⟩::rest,j,hd,hj=>by
  obtain ⟨g3,g4,g5⟩:=bS hd
  have hs:Sim4Den ls:=hp ⟨k,ls⟩ (List.mem_of_getElem? g3)
  unfold Sim4Den at hs
  have g1:(l.map Cpx.enc)[(i:Int).toNat]? = some [.sl (ps.map Prt.enc),.str s]:=by simp[h1,Cpx.enc]
  have g2:(ps.map Prt.enc)[(j:Int).toNat]? = some [.int .i64 k,.sl (ls.map Sim.enc)]:=by simp[g3,Prt.enc]
  have hlt:decide ((j:Int)<(ps.length:Int))=true:=decide_eq_true (by omega)
  have hnext:=FY l i ps s h1 hps hp rest (j+1) g4 (by omega)
  unfold sa4lp at hnext ⊢
  conv at hnext in ao _ _=>whnf
  conv in ao _ _=>whnf
  rw[aw]
  simp only[go_sem,Nat.reduceLT,reduceCtorEq,Nat.reduceEqDiff,Nat.reduceBEq,Nat.reduceAdd,ae aP,ah aN,ae aN,g1,g2,hlt,Int.natCast_nonneg]
  first|rw[aO]|rw[aJ]|rw[aK]
  rotate_left
  ·kernel_rfl
  simp only[go_sem,Nat.reduceLT,reduceCtorEq,Nat.reduceEqDiff,Nat.reduceBEq,Nat.reduceAdd,hs,bA j (by omega),bne_self_eq_false]
  rw[aB]
  simp only[go_sem,reduceCtorEq,Nat.reduceEqDiff]
  exact hnext
abbrev sa4Out (l:List Cpx) (i:Nat):St := { sl:=upd (upd (upd bot 5 (I i)) 1 (L (l.map Cpx.enc))) 0 (L (l.map Cpx.enc)),bx:=nobox,nt:=85 }
noncomputable def sa4op:Code := .loop (ao Tryz.f22 4)
set_option maxHeartbeats 8000000 in
theorem A9 (l:List Cpx) (hal:l.length≤100000000) (hl : ∀ c∈l,c.parts.length≤100000000 ∧ ∀ p∈c.parts,Sim4Den p.l) : ∀ (rest:List Cpx) (i:Nat),l.drop i=rest→i≤l.length →
  Ends (exL K 22 sa4op (sa4Out l i)) fun o S=>o = .exit 0∧S.nt=85
 | [],i,hd,hi=>by
  have hin:i=l.length:=by
   have:=List.drop_eq_nil_iff.1 hd
   omega
  subst hin
  have hlt:decide ((l.length:Int)<(l.length:Int))=false:=decide_eq_false (by omega)
  unfold sa4op
  conv in ao _ _=>whnf
  rw[aw]
  simp only[go_sem,Nat.reduceLT,reduceCtorEq,Nat.reduceEqDiff,Nat.reduceBEq,Nat.reduceAdd,ah aP,ay]
 | ⟨ps,s⟩::rest,i,hd,hi=>by
  obtain ⟨h1,h2,h3⟩:=bS hd
  obtain ⟨hps,hp⟩:=hl ⟨ps,s⟩ (List.mem_of_getElem? h1)
  have g1:(l.map Cpx.enc)[(i:Int).toNat]? = some [.sl (ps.map Prt.enc),.str s]:=by simp[h1,Cpx.enc]
  have hlt:decide ((i:Int)<(l.length:Int))=true:=decide_eq_true (by omega)
  have hin:=FY l i ps s h1 hps hp ps 0 rfl (Nat.zero_le _)
  unfold sa4lp at hin
  conv at hin in ao _ _=>whnf
  have z0:((0:Nat):Int)=0:=rfl
  obtain ⟨o,S',e,rfl,gn,q0,q1,q5⟩:=hin
  simp only[sa4In,z0] at e
  have hnext:=A9 l hal hl rest (i+1) h2 (by omega)
  unfold sa4op at hnext ⊢
  conv at hnext in ao _ _=>whnf
  conv in ao _ _=>whnf
  rw[aw]
  simp only[go_sem,Nat.reduceLT,reduceCtorEq,Nat.reduceEqDiff,Nat.reduceBEq,Nat.reduceAdd,ah aP,ae aP,ah aN,g1,hlt,Int.natCast_nonneg,bne_self_eq_false]
  rw[aB]
  simp only[go_sem,reduceCtorEq,Nat.reduceEqDiff]
  erw [e]
  simp only[go_sem,Nat.reduceLT,Nat.reduceEqDiff,Nat.reduceBEq,Nat.reduceAdd,gn,q5,bA i (by omega)]
  rw[aB]
  simp only[go_sem,reduceCtorEq,Nat.reduceEqDiff,q0,q1,q5]
  exact hnext
theorem tX (l:List Cpx) (hal:l.length≤100000000) (hl : ∀ c∈l,c.parts.length≤100000000 ∧ ∀ p∈c.parts,Sim4Den p.l):den K 22 [L (l.map Cpx.enc),L (l.map Cpx.enc)] []=some (.ret (B true) []):=by
 have hr:Tryz.f22.results = #[.tmp 4]:=rfl
 have hnext:=A9 l hal hl l 0 rfl (Nat.zero_le _)
 unfold sa4op at hnext
 conv at hnext in ao _ _=>whnf
 obtain ⟨o,S',e,rfl,hn⟩:=hnext
 refine ai rfl rfl Tryz.func22 rfl Tryz.ntmps22 ⟨by simp,by simp[LK]⟩ ?_
 simp only[go_sem,Nat.reduceLT,reduceCtorEq,Nat.reduceEqDiff,Nat.reduceBEq,Nat.reduceAdd,ah aP,bne_self_eq_false]
 rw[aB]
 simp only[go_sem,reduceCtorEq,Nat.reduceEqDiff]
 erw [e]
 simp only[go_sem,Nat.reduceLT,Nat.reduceBEq,hr,hn]
end Go.Abs
namespace Go.Abs
open Go
theorem iC (k:Int) (n v:List UInt8) (a b:Int):Fin4 (.mk k n v a b []) := .mk (by simp) fun x hx=>by cases hx
theorem F1 {l:List Val} {x:Sim} (h:Sl.attr l=some x):Fin4 x:=by
 unfold Sl.attr at h
 split at h
 ·split at h
  ·cases h;exact iC ..
  ·cases h
 ·split at h
  ·cases h;exact iC ..
  ·cases h
 ·cases h
theorem tj {s:List UInt8} {x:Sim} (h:Sl.fX s=some x):Fin4 x:=by
 unfold Sl.fX at h
 repeat' split at h
 all_goals first|(cases h;done)|(cases h;exact iC ..)
theorem CW {g:List Val→Option (Sim×List Val)} (hg : ∀ m x r,g m=some (x,r)→Fin4 x) {l r:List Val} {x:Sim} (h:Sl.colon g l=some (x,r)):Fin4 x:=by
 unfold Sl.colon at h
 split at h
 ·split at h
  ·rw[Option.map_eq_some_iff] at h
   obtain ⟨y,_,e⟩:=h
   cases e
   exact iC ..
  ·split at h
   ·split at h
    ·rename_i y hy
     split at h
     ·cases h
     ·cases h
      exact .mk (by simp) fun z hz=>by
       obtain rfl:=List.mem_singleton.1 hz
       exact hg _ _ _ hy
    ·cases h
   ·cases h
 ·split at h
  ·rw[Option.map_eq_some_iff] at h
   obtain ⟨y,hy,e⟩:=h
   cases e
   exact tj hy
  ·cases h
theorem rN : ∀ (f:Nat) (first:Bool) (l:List Val) (x:Sim) (r:List Val),Sl.simple f first l=some (x,r)→Fin4 x
 | 0,_,_,_,_,h=>by cases h
 | f+1,first,l,x,r,h=>by
  rw[Sl.simple] at h
  split at h
  ·cases h;exact iC ..
  split at h
  ·cases h;exact iC ..
  split at h
  ·cases h;exact iC ..
  split at h
  ·rw[Option.map_eq_some_iff] at h
   obtain ⟨y,_,e⟩:=h
   cases e
   exact iC ..
  split at h
  ·exact CW (fun m x r hm=>rN f true m x r hm) h
  split at h
  ·rw[Option.map_eq_some_iff] at h
   obtain ⟨y,hy,e⟩:=h
   cases e
   exact F1 hy
  ·cases h
theorem wW : ∀ (f:Nat) (first:Bool) (l:List Val) (ps:List Sim) (r:List Val),Sl.part f first l=some (ps,r) → ∀ x∈ps,Fin4 x
 | 0,_,_,_,_,h=>by cases h
 | f+1,first,l,ps,r,h=>by
  rw[Sl.part] at h
  split at h
  ·cases h;intro x hx;cases hx
  ·split at h
   ·cases h
   ·rename_i y m hs
    rw[Option.map_eq_some_iff] at h
    obtain ⟨⟨qs,r'⟩,hp,e⟩:=h
    cases e
    intro x hx
    rcases List.mem_cons.1 hx with rfl|hx
    ·exact rN _ _ _ _ _ hs
    ·exact wW f false m qs _ hp x hx
theorem xy : ∀ (n:Nat) (c:Int) (l:List Val) (x:Cpx),Sl.cpx n c l=some x→x.parts.length≤n ∧ ∀ p∈x.parts,p.l.length≤8 ∧ ∀ y∈p.l,Fin4 y
 | 0,_,_,_,h=>by cases h
 | n+1,c,l,x,h=>by
  rw[Sl.cpx] at h
  split at h
  ·cases h
  rename_i ps r hp
  have hf:=wW _ _ _ _ _ hp
  split at h
  ·split at h
   ·split at h
    ·rename_i hh
     cases h
     refine ⟨by simp,fun p hp => ?_⟩
     obtain rfl:=List.mem_singleton.1 hp
     exact ⟨hh.2,hf⟩
    ·cases h
   ·cases h
  split at h
  ·cases h
  rename_i h8
  split at h
  ·cases h
   refine ⟨by simp,fun p hp => ?_⟩
   obtain rfl:=List.mem_singleton.1 hp
   exact ⟨by show ps.length≤8;omega,hf⟩
  ·rw[Option.map_eq_some_iff] at h
   obtain ⟨y,hy,e⟩:=h
   cases e
   obtain ⟨h1,h2⟩:=xy n _ _ y hy
   refine ⟨by simp;omega,fun p hp => ?_⟩
   rcases List.mem_cons.1 hp with rfl|hp
   ·exact ⟨by show ps.length≤8;omega,hf⟩
   ·exact h2 p hp
theorem xg : ∀ {ps:List (List Val)} {l:List Cpx},Sl.all_ ps=some l → ∀ x∈l,x.parts.length≤16 ∧ ∀ p∈x.parts,p.l.length≤8 ∧ ∀ y∈p.l,Fin4 y
 | [],l,h=>by rw[Sl.all_nil] at h;cases h;intro x hx;cases hx
 | p::ps,l,h=>by
  rw[Sl.all_cons] at h
  split at h
  ·rename_i c cs hc hcs
   cases h
   intro x hx
   rcases List.mem_cons.1 hx with rfl|hx
   ·exact xy _ _ _ _ hc
   ·exact xg hcs x hx
  ·cases h
theorem il {v:List Val} {l:List Cpx} (h:Sl.parse v=some l):l.length≤32 ∧ ∀ x∈l,x.parts.length≤16 ∧ ∀ p∈x.parts,p.l.length≤8 ∧ ∀ y∈p.l,Fin4 y:=by
 unfold Sl.parse at h
 split at h
 ·rename_i h32
  have:=Sl.jd h
  exact ⟨by omega,xg h⟩
 ·cases h
end Go.Abs
