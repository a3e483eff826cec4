/-
  WHAT THE FUNCTIONS COMPUTE, layer 4, the program's reader of selectors: a compound selector.
  WHAT THE DOCUMENT'S ANSWER COMPUTES, layer 1: digits, a token's text.
  WHAT THE FUNCTIONS COMPUTE, layer 4, the document's 'Same', of selectors and themselves: true.
  Layer 4: what 'Small' says of selectors' parts and texts; that what is read of any values has few parts.
-/
import Derived.Lib.ItoaLen
import Derived.Lib.Join
import Derived.Test.YtlomcifkckgneaaGreatDoorRn4
import Derived.Test.YtlomcifkckgneaaGreatDoorRn6
import Derived.Test.YtlomcifkckgneaaGreatDoorRn7
import Derived.Test.YtlomcifkckgneaaGreatDoorRn13
set_option linter.unusedSimpArgs false
set_option linter.unusedVariables false
namespace Go.Abs
open Go Go.Proofs
set_option maxRecDepth 10000
attribute [local go_sem] cX bA ce bJ bL cU ci cg aN bD bt bR cz bE opd avOf cvOf St.degAt St.put okPV dQ okAV dc dh dp cG aD if_true Bool.false_eq_true if_false Option.map_some Option.map_none Option.bind_some Option.bind_none dL dG upd List.toList_toArray bX steal bd mvB dx cE co AV.deg CV.deg AV.gv AV.isIter cv cj bK List.length_nil List.length_cons List.filterMap_cons List.filterMap_nil beq_iff_eq List.getElem?_cons_zero List.getElem?_cons_succ Option.getD_some d8 eS Bool.false_and Bool.and_false Bool.and_self K_P fO bO cd bc lend back idx dedup AV.ren CV.ren TV.ren AV.ptrs CV.ptrs cD AV.flat CV.flat bU bH aR cA cQ dV bM aK bS bh bw bI bg ep CV.pv? content bo ownT aV reps pvs chunks bC leave ee cm c9 bF a8 TV.deg TV.av LK CV.plain CV.noBld cK ei bound List.map_cons List.map_nil List.all_cons List.all_nil List.any_cons List.any_nil List.contains_cons List.contains_nil List.elem_cons List.elem_nil List.cons_append List.nil_append List.append_nil List.flatMap_cons List.flatMap_nil List.zip_cons_cons List.zip_nil_left List.zip_nil_right List.take_succ_cons List.take_zero List.take_nil List.drop_succ_cons List.drop_zero List.drop_nil List.isEmpty_nil List.isEmpty_cons Bool.and_true Bool.true_and Bool.or_true Bool.true_or Bool.or_false Bool.false_or Bool.not_true Bool.not_false Nat.add_zero Nat.zero_add Option.isNone_none Option.isNone_some Option.getD_none true_and and_true not_true_eq_false not_false_eq_true decide_true decide_false Nat.le_refl and_self Bool.not_eq_true Nat.sub_self or_true true_or Option.some.injEq List.length_map List.nil_eq and_false false_and AV.live CV.live CV.liveIn dW aO Option.orElse_some Option.orElse_none head a7 aY Int.lt_irrefl List.length_append ite_self dR bQ cF br Key.clash Key.sees Key.writes Nat.lt_irrefl gt_iff_lt cf dD false_or or_false beq_self_eq_true Bool.true_beq Bool.false_beq EX BC DA jZ wg
theorem tR (l:List Val) (first:Bool) (hsz:Ne.size l≤100000000) (hts:TSh l) (hne:l≠[]) {x:Sim} {r:List Val} (h:Sl.simple (Ne.size l) first l=some (x,r)):r.length<l.length ∧ ∃ p,l=p++r :=
 Sl.rh _ _ _ _ _ h
abbrev cmH (l:List Val) (e:Nat) (acc:List Sim):St :=
  { sl:=upd (upd bot 4 (.c (.own e (Sim.encL acc)))) 0 P0,bx:=upd nobox 100000 (some (rdB l)),nt:=32 }
noncomputable def cmlp:Code := .loop (ap Tryz.f91 2)
theorem HN (l:List Val) (e:Nat) (acc:List Sim) (hl:l.length≤60000000) (h:Sl.nH l=true) :
  Ends (exL K 91 cmlp (cmH l e acc)) fun o S=>o = .exit 0∧S.nt=32∧S.sl 0=P0∧S.sl 4 = .c (.own e (Sim.encL acc))∧S.bx 100000=some (rdB l):=by
 have he:=jG l hl
 rw[h] at he
 simp only[rdB] at he
 unfold cmlp
 conv in ap _ _=>whnf
 rw[aw]
 simp only[go_sem,Nat.reduceLT,reduceCtorEq,Nat.reduceEqDiff,Nat.reduceBEq,Nat.reduceAdd,he,aB]
set_option maxHeartbeats 4000000 in
theorem FO (l:List Val) (e:Nat) (acc:List Sim) (hl:l.length≤60000000) (h:Sl.nH l=false) (hd:Sl.double l=true):match Sl.ly l with
  | some (s,r)=>Ends (exL K 91 cmlp (cmH l e acc)) fun o S=>o = .ret∧S.nt=32∧S.sl 2=L (Sim.encL acc)∧S.sl 3=T s∧S.bx 100000=some (rdB r)
  | none=>Ends (exL K 91 cmlp (cmH l e acc)) fun o S=>o = .pan cZ∧S.bx 100000=some (rdB l):=by
 have he:=jG l hl
 rw[h] at he
 have hx:=Dq l hl hd
 cases hm:Sl.ly l with
 | none =>
  rw[hm] at hx
  dsimp only
  simp only[rdB] at he hx
  unfold cmlp
  conv in ap _ _=>whnf
  rw[aw]
  simp only[go_sem,Nat.reduceLT,reduceCtorEq,Nat.reduceEqDiff,Nat.reduceBEq,Nat.reduceAdd,he,hx,aB]
 | some y =>
  obtain ⟨s,r⟩:=y
  rw[hm] at hx
  have hs:(s==[])=false:=by
   unfold Sl.ly at hm
   split at hm
   ·split at hm
    ·rename_i hh
     cases hm
     rcases hh with rfl|rfl<;>rfl
    ·cases hm
   ·cases hm
  dsimp only
  simp only[rdB] at he hx
  unfold cmlp
  conv in ap _ _=>whnf
  rw[aw]
  simp only[go_sem,Nat.reduceLT,reduceCtorEq,Nat.reduceEqDiff,Nat.reduceBEq,Nat.reduceAdd,he,hx,hs,bne,aB]
set_option maxHeartbeats 4000000 in
theorem G8 (l:List Val) (e:Nat) (acc:List Sim) (hl:l.length≤60000000) (h:Sl.nH l=false) (hd:Sl.double l=false) (h8 : ¬ acc.length<8) :
  Ends (exL K 91 cmlp (cmH l e acc)) fun o S=>o = .pan cZ∧S.bx 100000=some (rdB l):=by
 have he:=jG l hl
 rw[h] at he
 have hx:=uJ l hl hd
 have q0:(([]:List UInt8)==[])=true:=rfl
 have e8:decide ((acc.length:Int)<8)=false:=decide_eq_false (by omega)
 have hmn:=fM
 simp only[rdB] at he hx
 unfold cmlp
 conv in ap _ _=>whnf
 rw[aw]
 simp only[go_sem,Nat.reduceLT,reduceCtorEq,Nat.reduceEqDiff,Nat.reduceBEq,Nat.reduceAdd,ai bG,he,hx,q0,bne,nM,e8,hmn,aB]
set_option maxHeartbeats 4000000 in
theorem Hu (l m:List Val) (e:Nat) (acc:List Sim) (hl:l.length≤60000000) (h:Sl.nH l=false) (hd:Sl.double l=false) (h8:acc.length<8)
  (hs:den K 140 [P0,B acc.isEmpty] [rdB l]=some (.pan cZ [rdB m])) :
  Ends (exL K 91 cmlp (cmH l e acc)) fun o S=>o = .pan cZ∧S.bx 100000=some (rdB m):=by
 have he:=jG l hl
 rw[h] at he
 have hx:=uJ l hl hd
 have q0:(([]:List UInt8)==[])=true:=rfl
 have e8:decide ((acc.length:Int)<8)=true:=decide_eq_true (by omega)
 have hmy:=dP
 simp only[rdB] at he hx hs
 unfold cmlp
 conv in ap _ _=>whnf
 rw[aw]
 simp only[go_sem,Nat.reduceLT,reduceCtorEq,Nat.reduceEqDiff,Nat.reduceBEq,Nat.reduceAdd,ai bG,he,hx,q0,bne,nM,e8,o5,hmy,hs,aB]
set_option maxHeartbeats 8000000 in
theorem GM (l r:List Val) (e:Nat) (acc:List Sim) (x:Sim) (hl:l.length≤60000000) (h:Sl.nH l=false) (hd:Sl.double l=false) (h8:acc.length<8) (he:e=52∨acc=[])
  (hs:den K 140 [P0,B acc.isEmpty] [rdB l]=some (.ret (simE x) [rdB r])) :
  exL K 91 cmlp (cmH l e acc)=exL K 91 cmlp (cmH r 52 (acc++[x])):=by
 have hn:=jG l hl
 rw[h] at hn
 have hx:=uJ l hl hd
 have q0:(([]:List UInt8)==[])=true:=rfl
 have e8:decide ((acc.length:Int)<8)=true:=decide_eq_true (by omega)
 have hmy:=dP
 have hown:e=52∨(Sim.encL acc).isEmpty=true:=by
  rcases he with rfl|rfl
  ·exact .inl rfl
  ·exact .inr rfl
 have hlim:acc.length+1<cJ:=by unfold cJ;omega
 have hlv:=Ct acc
 obtain ⟨k,n,v,a,b,xl⟩:=x
 unfold cmlp
 conv in ap _ _=>whnf
 conv in ap _ _=>whnf
 cases xl
 all_goals
  simp only[rdB,simE,b7,d6] at hn hx hs
  conv in exL _ _ _ (cmH l e acc)=>rw[aw]
  simp only[go_sem,Nat.reduceLT,reduceCtorEq,Nat.reduceEqDiff,Nat.reduceBEq,Nat.reduceAdd,Nat.reduceMul,ai bG,af (len:=1) bG eN ar ⟨rfl,by decide,by decide⟩,bV r5,bf bG,hn,hx,q0,bne,nM,e8,o5,hmy,hs,hown,hlim,hlv,E0,GV,FH]
  rw[az]
  simp only[go_sem,reduceCtorEq,Nat.reduceEqDiff]
theorem zE : ∀ (f:Nat) (l:List Val) (e:Nat) (acc:List Sim),l.length<f→Ne.size l≤60000000→TSh l→(e=52∨acc=[]) →
  Ends (exL K 91 cmlp (cmH l e acc)) fun o S=>match Sl.lb f acc l with
   | none=>(∃ m,o = .pan cZ∧S.bx 100000=some (rdB m))∨(∃ m e',o = .exit 0∧S.nt=32∧S.sl 0=P0∧S.sl 4 = .c (.own e' (Sim.encL []))∧S.bx 100000=some (rdB m))
   | some ((ps,s),r)=>(s≠[]∧o = .ret∧S.nt=32∧S.sl 2=L (Sim.encL ps)∧S.sl 3=T s∧S.bx 100000=some (rdB r)) ∨
    (s=[]∧ps≠[] ∧ ∃ e',o = .exit 0∧S.nt=32∧S.sl 0=P0∧S.sl 4 = .c (.own e' (Sim.encL ps))∧S.bx 100000=some (rdB r))
 | 0,_,_,_,h,_,_,_=>absurd h (Nat.not_lt_zero _)
 | f+1,l,e,acc,hf,hsz,hts,he=>by
  have hl:l.length≤60000000:=Nat.le_trans (Ne.bW l) hsz
  rw[Sl.lb]
  cases h:Sl.nH l with
  | true =>
   simp only[if_true]
   refine bN (HN l e acc hl h) fun o S q => ?_
   obtain ⟨q1,q2,q3,q4,q5⟩:=q
   cases acc with
   | nil=>exact .inr ⟨l,e,q1,q2,q3,q4,q5⟩
   | cons x acc=>exact .inr ⟨rfl,by simp,e,q1,q2,q3,q4,q5⟩
  | false =>
   simp only[Bool.false_eq_true,if_false]
   cases hd:Sl.double l with
   | true =>
    simp only[if_true]
    have hx:=FO l e acc hl h hd
    cases hm:Sl.ly l with
    | none =>
     rw[hm] at hx
     exact bN hx fun o S q => .inl ⟨l,q⟩
    | some y =>
     obtain ⟨s,r⟩:=y
     rw[hm] at hx
     refine bN hx fun o S q => .inl ⟨?_,q⟩
     unfold Sl.ly at hm
     split at hm
     ·split at hm
      ·rename_i hh
       cases hm
       rcases hh with rfl|rfl
       ·show Sl.lH≠[];decide
       ·show Sl.oD≠[];decide
      ·cases hm
     ·cases hm
   | false =>
    simp only[Bool.false_eq_true,if_false]
    by_cases h8:acc.length<8
    ·rw[if_pos h8]
     have hne:l≠[]:=by rintro rfl;cases h
     have hs:=tF l acc.isEmpty hsz hts hne
     cases hx:Sl.simple (Ne.size l) acc.isEmpty l with
     | none =>
      rw[hx] at hs
      obtain ⟨m,hs⟩:=dZ hs
      exact bN (Hu l m e acc hl h hd h8 hs) fun o S q => .inl ⟨m,q⟩
     | some y =>
      obtain ⟨x,r⟩:=y
      rw[hx] at hs
      obtain ⟨g1,p,g2⟩:=tR l acc.isEmpty (by omega) hts hne hx
      rw[GM l r e acc x hl h hd h8 he (de hs)]
      simp only
      have hsr:Ne.size r≤Ne.size l:=by rw[g2,jA];omega
      exact zE f r 52 (acc++[x]) (by omega) (by omega) (t8 hts fun v hv=>by rw[g2];simp[hv]) (.inl rfl)
    ·rw[if_neg h8]
     exact bN (G8 l e acc hl h hd h8) fun o S q => .inl ⟨l,q⟩
abbrev oY (x:List Sim×List UInt8):AV := .tup [.c (.pv (.sl (Sim.encL x.1))),.c (.pv (.str x.2))]
set_option maxHeartbeats 8000000 in
theorem BG (l:List Val) (hsz:Ne.size l≤60000000) (hts:TSh l):fQ oY (Sl.lb (l.length+1) [] l) (den K 91 [P0] [rdB l]):=by
 have hr:Tryz.f91.results = #[.tmp 2,.tmp 3]:=rfl
 have h:=zE (l.length+1) l 0 [] (by omega) hsz hts (.inr rfl)
 have hmy:=dP
 have hmn:=fM
 unfold cmlp at h
 conv at h in ap _ _=>whnf
 obtain ⟨o,S,w,hq⟩:=h
 have e0:Sim.encL []=[]:=rfl
 simp only[cmH,rdB,e0] at w
 cases hc:Sl.lb (l.length+1) [] l with
 | none =>
  rw[hc] at hq
  rcases hq with ⟨m,rfl,q1⟩|⟨m,e',rfl,q1,q2,q3,q4⟩
  ·refine ⟨m,?_⟩
   simp only[rdB] at q1 ⊢
   refine ab rfl rfl Tryz.func91 rfl Tryz.ntmps91 ⟨by simp,by simp[LK]⟩ ?_
   simp only[go_sem,Nat.reduceLT,Nat.reduceBEq,Nat.reduceAdd]
   rw[az]
   simp only[go_sem,reduceCtorEq,Nat.reduceEqDiff]
   erw [w]
   simp only[go_sem,hr,q1]
  ·refine ⟨m,?_⟩
   have d0:decide ((0:Int)<((0:Nat):Int))=false:=rfl
   simp only[rdB,e0] at q3 q4 ⊢
   refine ab rfl rfl Tryz.func91 rfl Tryz.ntmps91 ⟨by simp,by simp[LK]⟩ ?_
   simp only[go_sem,Nat.reduceLT,Nat.reduceBEq,Nat.reduceAdd]
   rw[az]
   simp only[go_sem,reduceCtorEq,Nat.reduceEqDiff]
   erw [w]
   simp only[go_sem,Nat.reduceLT,Nat.reduceEqDiff,Nat.reduceBEq,ai bG,hr,q1,q3,q4,d0,hmn]
 | some y =>
  obtain ⟨⟨ps,s⟩,r⟩:=y
  rw[hc] at hq
  show den K 91 [P0] [rdB l]=some (.ret (oY (ps,s)) [rdB r])
  rcases hq with ⟨_,rfl,q0,q1,q2,q3⟩|⟨rfl,hne,e',rfl,q1,q2,q3,q4⟩
  ·simp only[rdB] at q3 ⊢
   refine ab rfl rfl Tryz.func91 rfl Tryz.ntmps91 ⟨by simp,by simp[LK]⟩ ?_
   simp only[go_sem,Nat.reduceLT,Nat.reduceBEq,Nat.reduceAdd]
   rw[az]
   simp only[go_sem,reduceCtorEq,Nat.reduceEqDiff]
   erw [w]
   simp only[go_sem,hr,q1,q2,q3]
  ·have d0:decide ((0:Int)<(ps.length:Int))=true:=decide_eq_true (by
    have:ps.length≠0:=fun h=>hne (List.eq_nil_of_length_eq_zero h)
    omega)
   simp only[rdB] at q4 ⊢
   refine ab rfl rfl Tryz.func91 rfl Tryz.ntmps91 ⟨by simp,by simp[LK]⟩ ?_
   simp only[go_sem,Nat.reduceLT,Nat.reduceBEq,Nat.reduceAdd]
   rw[az]
   simp only[go_sem,reduceCtorEq,Nat.reduceEqDiff]
   erw [w]
   simp only[go_sem,Nat.reduceLT,Nat.reduceEqDiff,Nat.reduceBEq,Nat.reduceAdd,ai bG,hr,q1,q3,q4,nM,d0,hmy]
attribute [local go_sem] FF cR ck bB c8 aE cy fF
theorem io {u:Nat} (h:u<10):Lib.decDigits u=[UInt8.ofNat (48+u)]:=by rw[Lib.decDigits,dif_pos h]
theorem md {u:Nat} (h : ¬ u<10):Lib.decDigits u=Lib.decDigits (u / 10)++[UInt8.ofNat (48+u % 10)]:=by rw[Lib.decDigits,dif_neg h]
theorem wn (u:Nat):(u:Int).tdiv 10=((u / 10:Nat):Int):=rfl
theorem Dz (u:Nat):(u:Int).tmod 10=((u % 10:Nat):Int):=rfl
theorem qL:((10:Int)=0)=False:=by simp
theorem sl0:(0+1<aU)=True:=by simp[aU]
theorem sl1:(1+1<aU)=True:=by simp[aU]
theorem DM {n:Int} (h:n<0):Lib.itoa n=45::Lib.decDigits n.natAbs:=by unfold Lib.itoa;rw[if_pos h]
theorem nK {n:Int} (h:0≤n):Lib.itoa n=Lib.decDigits n.toNat:=by unfold Lib.itoa;rw[if_neg (by omega)]
set_option maxHeartbeats 4000000 in
theorem xY : ∀ (k:Nat) (n:Int),n.natAbs≤k→I64 n→den K 27 [I n] []=some (.ret (T (Lib.itoa n)) []):=by
 intro k
 induction k with
 | zero =>
  intro n hk hn
  have:n=0:=by omega
  subst this
  refine ab rfl rfl Tryz.func27 rfl Tryz.ntmps27 ⟨by simp,by simp[LK]⟩ ?_
  have hr:Tryz.f27.results = #[.tmp 2]:=rfl
  have e:Lib.itoa 0=[48]:=by rw[nK (by omega)];exact io (by omega)
  rw[e]
  have w1:IntKind.i64.wrap 48=48:=by decide
  have w2:IntKind.u8.wrap 48=48:=by decide
  simp[go_sem,Nat.reduceLT,reduceCtorEq,Nat.reduceEqDiff,Nat.reduceBEq,cW c7 dt,af (len:=1) dA jM fk ⟨rfl,by decide,by decide⟩,fq dA aa,bytesOf,qL,w1,w2]
 | succ k ih =>
  intro n hk hn
  have hr:Tryz.f27.results = #[.tmp 2]:=rfl
  have hlen:=qB hn
  by_cases hneg:n<0
  ·have hl:decide (n<0)=true:=decide_eq_true hneg
   have hq:n.tdiv 10 = -(((n.natAbs / 10:Nat)):Int):=by
    obtain ⟨u,rfl⟩ : ∃ u:Nat,n = -(u:Int):=⟨n.natAbs,by omega⟩
    rw[Int.neg_tdiv,wn];simp only[Int.natAbs_neg,Int.natAbs_natCast]
   have hm:n.tmod 10 = -(((n.natAbs % 10:Nat)):Int):=by
    obtain ⟨u,rfl⟩ : ∃ u:Nat,n = -(u:Int):=⟨n.natAbs,by omega⟩
    rw[Int.neg_tmod,Dz];simp only[Int.natAbs_neg,Int.natAbs_natCast]
   have w1:IntKind.i64.wrap (n.tdiv 10)=n.tdiv 10:=IntWalk.i64_in _ (by have:=hn.1;have:=hn.2;omega)
   have w3:IntKind.i64.wrap (48 - n.tmod 10)=((48+n.natAbs % 10:Nat):Int):=by rw[IntWalk.i64_in _ (by omega),hm];omega
   have w4:IntKind.u8.wrap ((48+n.natAbs % 10:Nat):Int)=((48+n.natAbs % 10:Nat):Int):=IntWalk.u8_in _ (by omega)
   rw[DM hneg] at hlen ⊢
   by_cases hs:n.natAbs<10
   ·have hq0:decide (n.tdiv 10<0)=false:=decide_eq_false (by omega)
    rw[io hs]
    have hmm:n.natAbs % 10=n.natAbs:=Nat.mod_eq_of_lt hs
    rw[hmm] at w3 w4
    refine ab rfl rfl Tryz.func27 rfl Tryz.ntmps27 ⟨by simp,by simp[LK]⟩ ?_
    simp only[go_sem,Nat.reduceLT,reduceCtorEq,Nat.reduceEqDiff,Nat.reduceBEq,Nat.reduceAdd,Nat.reduceMul,cW c7 dt,af (len:=1) dA jM fk ⟨rfl,by decide,by decide⟩,fq dA aa,hr,bytesOf,qL,Int.toNat_natCast,sl0,sl1,hl,hq0,w1,w3,w4]
   ·have hq1:decide (n.tdiv 10<0)=true:=decide_eq_true (by omega)
    have w2:IntKind.i64.wrap (0 - n.tdiv 10)=((n.natAbs / 10:Nat):Int):=by rw[IntWalk.i64_in _ (by have:=hn.1;have:=hn.2;omega)];omega
    have hc:=ih ((n.natAbs / 10:Nat):Int) (by omega) ⟨by omega,by have:=hn.1;have:=hn.2;omega⟩
    rw[nK (by omega),Int.toNat_natCast] at hc
    rw[md hs] at hlen ⊢
    have s1:1+(Lib.decDigits (n.natAbs / 10)).length<aU:=by simp at hlen;simp[aU];omega
    have s2:(Lib.decDigits (n.natAbs / 10)).length+1+1<aU:=by simp at hlen;simp[aU];omega
    refine ab rfl rfl Tryz.func27 rfl Tryz.ntmps27 ⟨by simp,by simp[LK]⟩ ?_
    simp only[go_sem,Nat.reduceLT,reduceCtorEq,Nat.reduceEqDiff,Nat.reduceBEq,Nat.reduceAdd,Nat.reduceMul,cW c7 dt,af (len:=1) dA jM fk ⟨rfl,by decide,by decide⟩,fq dA aa,hr,bytesOf,qL,Int.toNat_natCast,hl,hq1,w1,w2,w3,w4,hc,s1,s2]
  ·have hl:decide (n<0)=false:=decide_eq_false hneg
   obtain ⟨u,rfl⟩ : ∃ u:Nat,n=u:=⟨n.toNat,by omega⟩
   have hm:(u:Int).tmod 10=((u % 10:Nat):Int):=rfl
   have w3:IntKind.i64.wrap (48+(u:Int).tmod 10)=((48+u % 10:Nat):Int):=by rw[hm,IntWalk.i64_in _ (by omega)];omega
   have w4:IntKind.u8.wrap ((48+u % 10:Nat):Int)=((48+u % 10:Nat):Int):=IntWalk.u8_in _ (by omega)
   rw[nK (by omega),Int.toNat_natCast] at hlen ⊢
   by_cases hs:u<10
   ·have hg:decide ((10:Int)≤(u:Int))=false:=decide_eq_false (by omega)
    rw[io hs]
    have hmm:u % 10=u:=Nat.mod_eq_of_lt hs
    rw[hmm] at w3 w4
    refine ab rfl rfl Tryz.func27 rfl Tryz.ntmps27 ⟨by simp,by simp[LK]⟩ ?_
    simp only[go_sem,Nat.reduceLT,reduceCtorEq,Nat.reduceEqDiff,Nat.reduceBEq,Nat.reduceAdd,Nat.reduceMul,cW c7 dt,af (len:=1) dA jM fk ⟨rfl,by decide,by decide⟩,fq dA aa,hr,bytesOf,qL,Int.toNat_natCast,hl,hg,w3,w4]
   ·have hg:decide ((10:Int)≤(u:Int))=true:=decide_eq_true (by omega)
    have w1:IntKind.i64.wrap ((u:Int).tdiv 10)=((u / 10:Nat):Int):=by rw[wn,IntWalk.i64_in _ (by have:=hn.2;omega)]
    have hc:=ih ((u / 10:Nat):Int) (by omega) ⟨by omega,by have:=hn.2;omega⟩
    rw[nK (by omega),Int.toNat_natCast] at hc
    rw[md hs] at hlen ⊢
    have s1:(Lib.decDigits (u / 10)).length+1<aU:=by simp at hlen;simp[aU];omega
    refine ab rfl rfl Tryz.func27 rfl Tryz.ntmps27 ⟨by simp,by simp[LK]⟩ ?_
    simp only[go_sem,Nat.reduceLT,reduceCtorEq,Nat.reduceEqDiff,Nat.reduceBEq,Nat.reduceAdd,Nat.reduceMul,cW c7 dt,af (len:=1) dA jM fk ⟨rfl,by decide,by decide⟩,fq dA aa,hr,bytesOf,qL,Int.toNat_natCast,hl,hg,w1,w3,w4,hc,s1]
theorem Cr (n:Int) (h:I64 n):den K 27 [I n] []=some (.ret (T (Lib.itoa n)) []):=xY n.natAbs n (Nat.le_refl _) h
set_option maxHeartbeats 4000000 in
theorem xx (t:Tok) (hn:I64 t.n) (hl:t.text.length<1000000000000):den K 109 [.agg t.cells] []=some (.ret (T (oneS t)) []):=by
 obtain ⟨k,s,n⟩:=t
 refine ab rfl rfl Tryz.func109 rfl Tryz.ntmps109 ⟨by simp,by simp[LK]⟩ ?_
 have hr:Tryz.f109.results = #[.tmp 2]:=rfl
 have hit:=Cr n hn
 have hi:=qB hn
 simp only at hl hi
 have l1:s.length+1<aU:=by simp[aU];omega
 have l1':1+s.length<aU:=by simp[aU];omega
 have l2:(Lib.itoa n).length+s.length<aU:=by simp[aU];omega
 have l3:1+s.length+1<aU:=by simp[aU];omega
 have l4:s.length+5<aU:=by simp[aU];omega
 have l7:s.length+1+1<aU:=by simp[aU];omega
 have hk:k=1∨k=2∨k=3∨k=4∨k=5∨k=6∨k=7∨k=8∨(k≠1∧k≠2∧k≠3∧k≠4∧k≠5∧k≠6∧k≠7∧k≠8):=by omega
 rcases hk with rfl|rfl|rfl|rfl|rfl|rfl|rfl|rfl|⟨h1,h2,h3,h4,h5,h6,h7,h8⟩
 ·simp[go_sem,Nat.reduceLT,Nat.reduceEqDiff,Nat.reduceBEq,Nat.reduceAdd,Tok.cells,oneS]
 ·simp[go_sem,Nat.reduceLT,Nat.reduceEqDiff,Nat.reduceBEq,Nat.reduceAdd,Tok.cells,oneS,l1]
 ·simp[go_sem,Nat.reduceLT,Nat.reduceEqDiff,Nat.reduceBEq,Nat.reduceAdd,Tok.cells,oneS,l1']
 ·simp[go_sem,Nat.reduceLT,Nat.reduceEqDiff,Nat.reduceBEq,Nat.reduceAdd,Tok.cells,oneS,l1']
 ·simp[go_sem,Nat.reduceLT,reduceCtorEq,Nat.reduceEqDiff,Nat.reduceBEq,Nat.reduceAdd,Tok.cells,oneS,hit,l2]
 ·by_cases h:n=39<;>simp[go_sem,Nat.reduceLT,Nat.reduceEqDiff,Nat.reduceBEq,Nat.reduceAdd,Tok.cells,oneS,h,l1',l7]
 ·by_cases h:s=[34]
  ·simp[go_sem,Nat.reduceLT,Nat.reduceEqDiff,Nat.reduceBEq,Nat.reduceAdd,Tok.cells,oneS,h,aU]
  ·have e:(s==[34])=false:=by simp[h]
   by_cases h':s=[39]
   ·simp[go_sem,Nat.reduceLT,Nat.reduceEqDiff,Nat.reduceBEq,Nat.reduceAdd,Tok.cells,oneS,h',aU]
   ·have e':(s==[39])=false:=by simp[h']
    simp[go_sem,Nat.reduceLT,Nat.reduceEqDiff,Nat.reduceBEq,Nat.reduceAdd,Tok.cells,oneS,e,e',h,h']
 ·simp[go_sem,Nat.reduceLT,Nat.reduceEqDiff,Nat.reduceBEq,Nat.reduceAdd,Tok.cells,oneS]
 ·simp[go_sem,Nat.reduceLT,Nat.reduceEqDiff,Nat.reduceBEq,Nat.reduceAdd,Tok.cells,oneS,h1,h2,h3,h4,h5,h6,h7,h8]
attribute [local go_sem] rT jJ fG jT jY nY n9 wT BA eN fC EA nS mC km Gm f9 fB kx iA Bi gc mN cP nU gM BJ fI
theorem Gq (k k' a a' b b':Int) (n n' v v':List UInt8):g9 Tryz.prog 146 [.int .i64 k,.str n,.str v,.int .i64 a,.int .i64 b] [.int .i64 k',.str n',.str v',.int .i64 a',.int .i64 b']=some ((k==k')&&((n==n')&&((v==v')&&((a==a')&&((b==b')&&true))))):=by kernel_rfl
theorem Ce (k a b:Int) (n v:List UInt8) (l:List (List PV)):den K 103 [.agg [.pv (.int .i64 k),.pv (.str n),.pv (.str v),.pv (.int .i64 a),.pv (.int .i64 b),.pv (.sl l)]] []=some (.ret (.agg [.pv (.int .i64 k),.pv (.str n),.pv (.str v),.pv (.int .i64 a),.pv (.int .i64 b)]) []):=by
 have hr:Tryz.f103.results = #[.cell 2 146]:=rfl
 refine ab rfl rfl Tryz.func103 rfl Tryz.ntmps103 ⟨by simp,by simp[LK]⟩ ?_
 simp only[go_sem,Nat.reduceLT,Nat.reduceEqDiff,Nat.reduceBEq,Nat.reduceAdd,Nat.reduceSub,Nat.reduceLeDiff,ak jJ pu,hr]
def Sim4Den (l:List Sim):Prop:=den K 52 [L (l.map Sim.enc),L (l.map Sim.enc)] []=some (.ret (B true) [])
abbrev si4H (l:List Sim) (i:Nat):St := { sl:=upd (upd (upd bot 5 (I i)) 1 (L (l.map Sim.enc))) 0 (L (l.map Sim.enc)),bx:=nobox,nt:=42 }
noncomputable def si4lp:Code := .loop (ap Tryz.f52 4)
set_option maxHeartbeats 8000000 in
theorem xF (l:List Sim) (hal:l.length≤100000000) (hin : ∀ x∈l, ∀ q n v a b l',x=Sim.mk q n v a b l'→Sim4Den l') : ∀ (rest:List Sim) (i:Nat),l.drop i=rest→i≤l.length →
  Ends (exL K 52 si4lp (si4H l i)) fun o S=>o = .exit 0∧S.nt=42
 | [],i,hd,hi=>by
  have hin:i=l.length:=by
   have:=List.drop_eq_nil_iff.1 hd
   omega
  subst hin
  have hlt:decide ((l.length:Int)<(l.length:Int))=false:=decide_eq_false (by omega)
  unfold si4lp
  conv in ap _ _=>whnf
  rw[aw]
  simp only[go_sem,Nat.reduceLT,reduceCtorEq,Nat.reduceEqDiff,Nat.reduceBEq,Nat.reduceAdd,ai bG,aB]
 | .mk q n v a b l'::rest,i,hd,hi=>by
  obtain ⟨h1,h2,h3⟩:=bZ hd
  have hmem:Sim.mk q n v a b l'∈l:=List.mem_of_getElem? h1
  have hc:=hin _ hmem q n v a b l' rfl
  unfold Sim4Den at hc
  have hget:(l.map Sim.enc)[(i:Int).toNat]? = some [.int .i64 q,.str n,.str v,.int .i64 a,.int .i64 b,.sl (l'.map Sim.enc)]:=by simp[h1,Sim.enc_mk]
  have hlt:decide ((i:Int)<(l.length:Int))=true:=decide_eq_true (by omega)
  have hp:=Ce q a b n v (l'.map Sim.enc)
  have hb:=Gq q q a a b b n n v v
  simp only[beq_self_eq_true,Bool.and_true] at hb
  have hnext:=xF l hal hin rest (i+1) h2 (by omega)
  unfold si4lp at hnext ⊢
  conv at hnext in ap _ _=>whnf
  conv in ap _ _=>whnf
  rw[aw]
  simp only[go_sem,Nat.reduceLT,reduceCtorEq,Nat.reduceEqDiff,Nat.reduceBEq,Nat.reduceAdd,ai bG,am bG,hlt,hget,Int.natCast_nonneg,hp,hb,hc,bu i (by omega)]
  rw[az]
  simp only[go_sem,reduceCtorEq,Nat.reduceEqDiff]
  exact hnext
theorem zJ (l:List Sim) (hal:l.length≤100000000) (hin : ∀ x∈l, ∀ q n v a b l',x=Sim.mk q n v a b l'→Sim4Den l'):Sim4Den l:=by
 unfold Sim4Den
 have hr:Tryz.f52.results = #[.tmp 4]:=rfl
 have hnext:=xF l hal hin l 0 rfl (Nat.zero_le _)
 unfold si4lp at hnext
 conv at hnext in ap _ _=>whnf
 obtain ⟨o,S',e,rfl,hn⟩:=hnext
 refine ab rfl rfl Tryz.func52 rfl Tryz.ntmps52 ⟨by simp,by simp[LK]⟩ ?_
 simp only[go_sem,Nat.reduceLT,reduceCtorEq,Nat.reduceEqDiff,Nat.reduceBEq,Nat.reduceAdd,ai bG,bne_self_eq_false]
 rw[az]
 simp only[go_sem,reduceCtorEq,Nat.reduceEqDiff]
 erw [e]
 simp only[go_sem,Nat.reduceLT,Nat.reduceBEq,hr,hn]
inductive Fin4:Sim→Prop
 | mk {k:Int} {n v:List UInt8} {a b:Int} {l:List Sim} (hll:l.length≤100000000) (hl : ∀ x∈l,Fin4 x):Fin4 (Sim.mk k n v a b l)
theorem tU (l:List Sim) (hal:l.length≤100000000) (hok : ∀ x∈l,Fin4 x):Sim4Den l:=by
 have key : ∀ x:Sim,Fin4 x → ∀ q n v a b l',x=Sim.mk q n v a b l'→Sim4Den l':=by
  intro x hx
  induction hx with
  | @mk k n v a c l hll hl ih =>
   intro q n' v' a' b' l' e
   cases e
   exact zJ l hll (fun y hy=>ih y hy)
 exact zJ l hal (fun x hx=>key x (hok x hx))
abbrev sa4In (l:List Cpx) (i j:Nat):St := { sl:=upd (upd (upd (upd bot 6 (I j)) 5 (I i)) 1 (L (l.map Cpx.enc))) 0 (L (l.map Cpx.enc)),bx:=nobox,nt:=85 }
noncomputable def sa4lp:Code := .loop (ap Tryz.f22 9)
set_option maxHeartbeats 8000000 in
theorem C0 (l:List Cpx) (i:Nat) (ps:List Prt) (s:List UInt8) (h1:l[i]? = some ⟨ps,s⟩) (hps:ps.length≤100000000) (hp : ∀ p∈ps,Sim4Den p.l) : ∀ (rest:List Prt) (j:Nat),ps.drop j=rest→j≤ps.length →
  Ends (exL K 22 sa4lp (sa4In l i j)) fun o S=>o = .exit 2∧S.nt=85∧S.sl 0=L (l.map Cpx.enc)∧S.sl 1=L (l.map Cpx.enc)∧S.sl 5=I i
 | [],j,hd,hj=>by
  have hin:j=ps.length:=by
   have:=List.drop_eq_nil_iff.1 hd
   omega
  subst hin
  have g1:(l.map Cpx.enc)[(i:Int).toNat]? = some [.sl (ps.map Prt.enc),.str s]:=by simp[h1,Cpx.enc]
  have hlt:decide ((ps.length:Int)<(ps.length:Int))=false:=decide_eq_false (by omega)
  unfold sa4lp
  conv in ap _ _=>whnf
  rw[aw]
  simp only[go_sem,Nat.reduceLT,reduceCtorEq,Nat.reduceEqDiff,Nat.reduceBEq,Nat.reduceAdd,am aM,ai aQ,aB,g1,Int.natCast_nonneg]
 | ⟨k,ls⟩::rest,j,hd,hj=>by
  obtain ⟨g3,g4,g5⟩:=bZ hd
  have hs:Sim4Den ls:=hp ⟨k,ls⟩ (List.mem_of_getElem? g3)
  unfold Sim4Den at hs
  have g1:(l.map Cpx.enc)[(i:Int).toNat]? = some [.sl (ps.map Prt.enc),.str s]:=by simp[h1,Cpx.enc]
  have g2:(ps.map Prt.enc)[(j:Int).toNat]? = some [.int .i64 k,.sl (ls.map Sim.enc)]:=by simp[g3,Prt.enc]
  have hlt:decide ((j:Int)<(ps.length:Int))=true:=decide_eq_true (by omega)
  have hnext:=C0 l i ps s h1 hps hp rest (j+1) g4 (by omega)
  unfold sa4lp at hnext ⊢
  conv at hnext in ap _ _=>whnf
  conv in ap _ _=>whnf
  rw[aw]
  simp only[go_sem,Nat.reduceLT,reduceCtorEq,Nat.reduceEqDiff,Nat.reduceBEq,Nat.reduceAdd,am aM,ai aQ,am aQ,g1,g2,hlt,Int.natCast_nonneg]
  first|rw[qG]|rw[sn]|rw[AU]
  rotate_left
  ·kernel_rfl
  simp only[go_sem,Nat.reduceLT,reduceCtorEq,Nat.reduceEqDiff,Nat.reduceBEq,Nat.reduceAdd,hs,bu j (by omega),bne_self_eq_false]
  rw[az]
  simp only[go_sem,reduceCtorEq,Nat.reduceEqDiff]
  exact hnext
abbrev sa4Out (l:List Cpx) (i:Nat):St := { sl:=upd (upd (upd bot 5 (I i)) 1 (L (l.map Cpx.enc))) 0 (L (l.map Cpx.enc)),bx:=nobox,nt:=85 }
noncomputable def sa4op:Code := .loop (ap Tryz.f22 4)
set_option maxHeartbeats 8000000 in
theorem z6 (l:List Cpx) (hal:l.length≤100000000) (hl : ∀ c∈l,c.parts.length≤100000000 ∧ ∀ p∈c.parts,Sim4Den p.l) : ∀ (rest:List Cpx) (i:Nat),l.drop i=rest→i≤l.length →
  Ends (exL K 22 sa4op (sa4Out l i)) fun o S=>o = .exit 0∧S.nt=85
 | [],i,hd,hi=>by
  have hin:i=l.length:=by
   have:=List.drop_eq_nil_iff.1 hd
   omega
  subst hin
  have hlt:decide ((l.length:Int)<(l.length:Int))=false:=decide_eq_false (by omega)
  unfold sa4op
  conv in ap _ _=>whnf
  rw[aw]
  simp only[go_sem,Nat.reduceLT,reduceCtorEq,Nat.reduceEqDiff,Nat.reduceBEq,Nat.reduceAdd,ai aM,aB]
 | ⟨ps,s⟩::rest,i,hd,hi=>by
  obtain ⟨h1,h2,h3⟩:=bZ hd
  obtain ⟨hps,hp⟩:=hl ⟨ps,s⟩ (List.mem_of_getElem? h1)
  have g1:(l.map Cpx.enc)[(i:Int).toNat]? = some [.sl (ps.map Prt.enc),.str s]:=by simp[h1,Cpx.enc]
  have hlt:decide ((i:Int)<(l.length:Int))=true:=decide_eq_true (by omega)
  have hin:=C0 l i ps s h1 hps hp ps 0 rfl (Nat.zero_le _)
  unfold sa4lp at hin
  conv at hin in ap _ _=>whnf
  have z0:((0:Nat):Int)=0:=rfl
  obtain ⟨o,S',e,rfl,gn,q0,q1,q5⟩:=hin
  simp only[sa4In,z0] at e
  have hnext:=z6 l hal hl rest (i+1) h2 (by omega)
  unfold sa4op at hnext ⊢
  conv at hnext in ap _ _=>whnf
  conv in ap _ _=>whnf
  rw[aw]
  simp only[go_sem,Nat.reduceLT,reduceCtorEq,Nat.reduceEqDiff,Nat.reduceBEq,Nat.reduceAdd,ai aM,am aM,ai aQ,g1,hlt,Int.natCast_nonneg,bne_self_eq_false]
  rw[az]
  simp only[go_sem,reduceCtorEq,Nat.reduceEqDiff]
  erw [e]
  simp only[go_sem,Nat.reduceLT,Nat.reduceEqDiff,Nat.reduceBEq,Nat.reduceAdd,gn,q5,bu i (by omega)]
  rw[az]
  simp only[go_sem,reduceCtorEq,Nat.reduceEqDiff,q0,q1,q5]
  exact hnext
theorem AZ (l:List Cpx) (hal:l.length≤100000000) (hl : ∀ c∈l,c.parts.length≤100000000 ∧ ∀ p∈c.parts,Sim4Den p.l):den K 22 [L (l.map Cpx.enc),L (l.map Cpx.enc)] []=some (.ret (B true) []):=by
 have hr:Tryz.f22.results = #[.tmp 4]:=rfl
 have hnext:=z6 l hal hl l 0 rfl (Nat.zero_le _)
 unfold sa4op at hnext
 conv at hnext in ap _ _=>whnf
 obtain ⟨o,S',e,rfl,hn⟩:=hnext
 refine ab rfl rfl Tryz.func22 rfl Tryz.ntmps22 ⟨by simp,by simp[LK]⟩ ?_
 simp only[go_sem,Nat.reduceLT,reduceCtorEq,Nat.reduceEqDiff,Nat.reduceBEq,Nat.reduceAdd,ai aM,bne_self_eq_false]
 rw[az]
 simp only[go_sem,reduceCtorEq,Nat.reduceEqDiff]
 erw [e]
 simp only[go_sem,Nat.reduceLT,Nat.reduceBEq,hr,hn]
end Go.Abs
namespace Go.Abs
open Go
theorem hZ (k:Int) (n v:List UInt8) (a b:Int):Fin4 (.mk k n v a b []) := .mk (by simp) fun x hx=>by cases hx
theorem CR {l:List Val} {x:Sim} (h:Sl.attr l=some x):Fin4 x:=by
 unfold Sl.attr at h
 split at h
 ·split at h
  ·cases h;exact hZ ..
  ·cases h
 ·split at h
  ·cases h;exact hZ ..
  ·cases h
 ·cases h
theorem rV {s:List UInt8} {x:Sim} (h:Sl.jD s=some x):Fin4 x:=by
 unfold Sl.jD at h
 repeat' split at h
 all_goals first|(cases h;done)|(cases h;exact hZ ..)
theorem Cu {g:List Val→Option (Sim×List Val)} (hg : ∀ m x r,g m=some (x,r)→Fin4 x) {l r:List Val} {x:Sim} (h:Sl.colon g l=some (x,r)):Fin4 x:=by
 unfold Sl.colon at h
 split at h
 ·split at h
  ·rw[Option.map_eq_some_iff] at h
   obtain ⟨y,_,e⟩:=h
   cases e
   exact hZ ..
  ·split at h
   ·split at h
    ·rename_i y hy
     split at h
     ·cases h
     ·cases h
      exact .mk (by simp) fun z hz=>by
       obtain rfl:=List.mem_singleton.1 hz
       exact hg _ _ _ hy
    ·cases h
   ·cases h
 ·split at h
  ·rw[Option.map_eq_some_iff] at h
   obtain ⟨y,hy,e⟩:=h
   cases e
   exact rV hy
  ·cases h
theorem qR : ∀ (f:Nat) (first:Bool) (l:List Val) (x:Sim) (r:List Val),Sl.simple f first l=some (x,r)→Fin4 x
 | 0,_,_,_,_,h=>by cases h
 | f+1,first,l,x,r,h=>by
  rw[Sl.simple] at h
  split at h
  ·cases h;exact hZ ..
  split at h
  ·cases h;exact hZ ..
  split at h
  ·cases h;exact hZ ..
  split at h
  ·rw[Option.map_eq_some_iff] at h
   obtain ⟨y,_,e⟩:=h
   cases e
   exact hZ ..
  split at h
  ·exact Cu (fun m x r hm=>qR f true m x r hm) h
  split at h
  ·rw[Option.map_eq_some_iff] at h
   obtain ⟨y,hy,e⟩:=h
   cases e
   exact CR hy
  ·cases h
theorem xm : ∀ (f:Nat) (first:Bool) (l:List Val) (ps:List Sim) (r:List Val),Sl.part f first l=some (ps,r) → ∀ x∈ps,Fin4 x
 | 0,_,_,_,_,h=>by cases h
 | f+1,first,l,ps,r,h=>by
  rw[Sl.part] at h
  split at h
  ·cases h;intro x hx;cases hx
  ·split at h
   ·cases h
   ·rename_i y m hs
    rw[Option.map_eq_some_iff] at h
    obtain ⟨⟨qs,r'⟩,hp,e⟩:=h
    cases e
    intro x hx
    rcases List.mem_cons.1 hx with rfl|hx
    ·exact qR _ _ _ _ _ hs
    ·exact xm f false m qs _ hp x hx
theorem ww : ∀ (n:Nat) (c:Int) (l:List Val) (x:Cpx),Sl.cpx n c l=some x→x.parts.length≤n ∧ ∀ p∈x.parts,p.l.length≤8 ∧ ∀ y∈p.l,Fin4 y
 | 0,_,_,_,h=>by cases h
 | n+1,c,l,x,h=>by
  rw[Sl.cpx] at h
  split at h
  ·cases h
  rename_i ps r hp
  have hf:=xm _ _ _ _ _ hp
  split at h
  ·split at h
   ·split at h
    ·rename_i hh
     cases h
     refine ⟨by simp,fun p hp => ?_⟩
     obtain rfl:=List.mem_singleton.1 hp
     exact ⟨hh.2,hf⟩
    ·cases h
   ·cases h
  split at h
  ·cases h
  rename_i h8
  split at h
  ·cases h
   refine ⟨by simp,fun p hp => ?_⟩
   obtain rfl:=List.mem_singleton.1 hp
   exact ⟨by show ps.length≤8;omega,hf⟩
  ·rw[Option.map_eq_some_iff] at h
   obtain ⟨y,hy,e⟩:=h
   cases e
   obtain ⟨h1,h2⟩:=ww n _ _ y hy
   refine ⟨by simp;omega,fun p hp => ?_⟩
   rcases List.mem_cons.1 hp with rfl|hp
   ·exact ⟨by show ps.length≤8;omega,hf⟩
   ·exact h2 p hp
theorem vI : ∀ {ps:List (List Val)} {l:List Cpx},Sl.all_ ps=some l → ∀ x∈l,x.parts.length≤16 ∧ ∀ p∈x.parts,p.l.length≤8 ∧ ∀ y∈p.l,Fin4 y
 | [],l,h=>by rw[Sl.all_nil] at h;cases h;intro x hx;cases hx
 | p::ps,l,h=>by
  rw[Sl.all_cons] at h
  split at h
  ·rename_i c cs hc hcs
   cases h
   intro x hx
   rcases List.mem_cons.1 hx with rfl|hx
   ·exact ww _ _ _ _ hc
   ·exact vI hcs x hx
  ·cases h
theorem yX {v:List Val} {l:List Cpx} (h:Sl.parse v=some l):l.length≤32 ∧ ∀ x∈l,x.parts.length≤16 ∧ ∀ p∈x.parts,p.l.length≤8 ∧ ∀ y∈p.l,Fin4 y:=by
 unfold Sl.parse at h
 split at h
 ·rename_i h32
  have:=Sl.i7 h
  exact ⟨by omega,vI h⟩
 ·cases h
end Go.Abs
