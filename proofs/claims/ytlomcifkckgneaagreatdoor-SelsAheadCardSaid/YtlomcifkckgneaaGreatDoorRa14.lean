/-
  WHAT THE FUNCTIONS COMPUTE, layer 4, the program's reader of selectors: a compound selector.
-/
import Derived.Test.YtlomcifkckgneaaGreatDoorRa6
import Derived.Test.YtlomcifkckgneaaGreatDoorRa7
import Derived.Test.YtlomcifkckgneaaGreatDoorRa13
set_option linter.unusedSimpArgs false
set_option linter.unusedVariables false
namespace Go.Abs
open Go Go.Proofs
set_option maxRecDepth 10000
attribute [local go_sem] cA bm bU bD bB cz bQ bS aG bv bq bL cg br opd avOf cvOf St.degAt St.put okPV db okAV cN cM cO cd aq if_true Bool.false_eq_true if_false Option.map_some Option.map_none Option.bind_some Option.bind_none c9 c5 upd List.toList_toArray bO steal aZ mvB cR cf b7 AV.deg CV.deg AV.gv AV.isIter b9 bT bC List.length_nil List.length_cons List.filterMap_cons List.filterMap_nil beq_iff_eq List.getElem?_cons_zero List.getElem?_cons_succ Option.getD_some du d5 Bool.false_and Bool.and_false Bool.and_self K_P eF bF bV aW lend back idx dedup AV.ren CV.ren TV.ren AV.ptrs CV.ptrs ce AV.flat CV.flat bM bz aJ cj cx dp bE aE bK a7 bh bA a8 dP CV.pv? content bf ownT aL reps pvs chunks bu leave dL bW cJ bt aX TV.deg TV.av LK CV.plain CV.noBld cm dF bound List.map_cons List.map_nil List.all_cons List.all_nil List.any_cons List.any_nil List.contains_cons List.contains_nil List.elem_cons List.elem_nil List.cons_append List.nil_append List.append_nil List.flatMap_cons List.flatMap_nil List.zip_cons_cons List.zip_nil_left List.zip_nil_right List.take_succ_cons List.take_zero List.take_nil List.drop_succ_cons List.drop_zero List.drop_nil List.isEmpty_nil List.isEmpty_cons Bool.and_true Bool.true_and Bool.or_true Bool.true_or Bool.or_false Bool.false_or Bool.not_true Bool.not_false Nat.add_zero Nat.zero_add Option.isNone_none Option.isNone_some Option.getD_none true_and and_true not_true_eq_false not_false_eq_true decide_true decide_false Nat.le_refl and_self Bool.not_eq_true Nat.sub_self or_true true_or Option.some.injEq List.length_map List.nil_eq and_false false_and AV.live CV.live CV.liveIn dh aI Option.orElse_some Option.orElse_none head aO aN Int.lt_irrefl List.length_append ite_self dc bI ck bg Key.clash Key.sees Key.writes Nat.lt_irrefl gt_iff_lt bR cW false_or or_false beq_self_eq_true Bool.true_beq Bool.false_beq B6 yW Cn ja vD
theorem sF (l:List Val) (first:Bool) (hsz:Ne.size l≤100000000) (hts:TSh l) (hne:l≠[]) {x:Sim} {r:List Val} (h:Sl.simple (Ne.size l) first l=some (x,r)):r.length<l.length ∧ ∃ p,l=p++r :=
 Sl.oC _ _ _ _ _ h
abbrev cmH (l:List Val) (e:Nat) (acc:List Sim):St :=
  { sl:=upd (upd bot 4 (.c (.own e (Sim.encL acc)))) 0 P0,bx:=upd nobox 100000 (some (rdB l)),nt:=32 }
noncomputable def cmlp:Code := .loop (au Tryz.f91 2)
theorem E7 (l:List Val) (e:Nat) (acc:List Sim) (hl:l.length≤60000000) (h:Sl.mq l=true) :
  Ends (exL K 91 cmlp (cmH l e acc)) fun o S=>o = .exit 0∧S.nt=32∧S.sl 0=P0∧S.sl 4 = .c (.own e (Sim.encL acc))∧S.bx 100000=some (rdB l):=by
 have he:=iQ l hl
 rw[h] at he
 simp only[rdB] at he
 unfold cmlp
 conv in au _ _=>whnf
 rw[aD]
 simp only[go_sem,Nat.reduceLT,reduceCtorEq,Nat.reduceEqDiff,Nat.reduceBEq,Nat.reduceAdd,he,aV]
set_option maxHeartbeats 4000000 in
theorem DN (l:List Val) (e:Nat) (acc:List Sim) (hl:l.length≤60000000) (h:Sl.mq l=false) (hd:Sl.double l=true):match Sl.kt l with
  | some (s,r)=>Ends (exL K 91 cmlp (cmH l e acc)) fun o S=>o = .ret∧S.nt=32∧S.sl 2=L (Sim.encL acc)∧S.sl 3=T s∧S.bx 100000=some (rdB r)
  | none=>Ends (exL K 91 cmlp (cmH l e acc)) fun o S=>o = .pan cI∧S.bx 100000=some (rdB l):=by
 have he:=iQ l hl
 rw[h] at he
 have hx:=Bu l hl hd
 cases hm:Sl.kt l with
 | none =>
  rw[hm] at hx
  dsimp only
  simp only[rdB] at he hx
  unfold cmlp
  conv in au _ _=>whnf
  rw[aD]
  simp only[go_sem,Nat.reduceLT,reduceCtorEq,Nat.reduceEqDiff,Nat.reduceBEq,Nat.reduceAdd,he,hx,aV]
 | some y =>
  obtain ⟨s,r⟩:=y
  rw[hm] at hx
  have hs:(s==[])=false:=by
   unfold Sl.kt at hm
   split at hm
   ·split at hm
    ·rename_i hh
     cases hm
     rcases hh with rfl|rfl<;>rfl
    ·cases hm
   ·cases hm
  dsimp only
  simp only[rdB] at he hx
  unfold cmlp
  conv in au _ _=>whnf
  rw[aD]
  simp only[go_sem,Nat.reduceLT,reduceCtorEq,Nat.reduceEqDiff,Nat.reduceBEq,Nat.reduceAdd,he,hx,hs,bne,aV]
set_option maxHeartbeats 4000000 in
theorem EN (l:List Val) (e:Nat) (acc:List Sim) (hl:l.length≤60000000) (h:Sl.mq l=false) (hd:Sl.double l=false) (h8 : ¬ acc.length<8) :
  Ends (exL K 91 cmlp (cmH l e acc)) fun o S=>o = .pan cI∧S.bx 100000=some (rdB l):=by
 have he:=iQ l hl
 rw[h] at he
 have hx:=r7 l hl hd
 have q0:(([]:List UInt8)==[])=true:=rfl
 have e8:decide ((acc.length:Int)<8)=false:=decide_eq_false (by omega)
 have hmn:=e7
 simp only[rdB] at he hx
 unfold cmlp
 conv in au _ _=>whnf
 rw[aD]
 simp only[go_sem,Nat.reduceLT,reduceCtorEq,Nat.reduceEqDiff,Nat.reduceBEq,Nat.reduceAdd,ai bX,he,hx,q0,bne,lA,e8,hmn,aV]
set_option maxHeartbeats 4000000 in
theorem FS (l m:List Val) (e:Nat) (acc:List Sim) (hl:l.length≤60000000) (h:Sl.mq l=false) (hd:Sl.double l=false) (h8:acc.length<8)
  (hs:den K 140 [P0,B acc.isEmpty] [rdB l]=some (.pan cI [rdB m])) :
  Ends (exL K 91 cmlp (cmH l e acc)) fun o S=>o = .pan cI∧S.bx 100000=some (rdB m):=by
 have he:=iQ l hl
 rw[h] at he
 have hx:=r7 l hl hd
 have q0:(([]:List UInt8)==[])=true:=rfl
 have e8:decide ((acc.length:Int)<8)=true:=decide_eq_true (by omega)
 have hmy:=dq
 simp only[rdB] at he hx hs
 unfold cmlp
 conv in au _ _=>whnf
 rw[aD]
 simp only[go_sem,Nat.reduceLT,reduceCtorEq,Nat.reduceEqDiff,Nat.reduceBEq,Nat.reduceAdd,ai bX,he,hx,q0,bne,lA,e8,ny,hmy,hs,aV]
set_option maxHeartbeats 8000000 in
theorem EW (l r:List Val) (e:Nat) (acc:List Sim) (x:Sim) (hl:l.length≤60000000) (h:Sl.mq l=false) (hd:Sl.double l=false) (h8:acc.length<8) (he:e=52∨acc=[])
  (hs:den K 140 [P0,B acc.isEmpty] [rdB l]=some (.ret (simE x) [rdB r])) :
  exL K 91 cmlp (cmH l e acc)=exL K 91 cmlp (cmH r 52 (acc++[x])):=by
 have hn:=iQ l hl
 rw[h] at hn
 have hx:=r7 l hl hd
 have q0:(([]:List UInt8)==[])=true:=rfl
 have e8:decide ((acc.length:Int)<8)=true:=decide_eq_true (by omega)
 have hmy:=dq
 have hown:e=52∨(Sim.encL acc).isEmpty=true:=by
  rcases he with rfl|rfl
  ·exact .inl rfl
  ·exact .inr rfl
 have hlim:acc.length+1<dl:=by unfold dl;omega
 have hlv:=AJ acc
 obtain ⟨k,n,v,a,b,xl⟩:=x
 unfold cmlp
 conv in au _ _=>whnf
 conv in au _ _=>whnf
 cases xl
 all_goals
  simp only[rdB,simE,bZ,dE] at hn hx hs
  conv in exL _ _ _ (cmH l e acc)=>rw[aD]
  simp only[go_sem,Nat.reduceLT,reduceCtorEq,Nat.reduceEqDiff,Nat.reduceBEq,Nat.reduceAdd,Nat.reduceMul,ai bX,ae (len:=1) bX dJ ag ⟨rfl,by decide,by decide⟩,dR qx,cK bX,hn,hx,q0,bne,lA,e8,ny,hmy,hs,hown,hlim,hlv,B0,Ez,DL]
  rw[aY]
  simp only[go_sem,reduceCtorEq,Nat.reduceEqDiff]
theorem xX : ∀ (f:Nat) (l:List Val) (e:Nat) (acc:List Sim),l.length<f→Ne.size l≤60000000→TSh l→(e=52∨acc=[]) →
  Ends (exL K 91 cmlp (cmH l e acc)) fun o S=>match Sl.jQ f acc l with
   | none=>(∃ m,o = .pan cI∧S.bx 100000=some (rdB m))∨(∃ m e',o = .exit 0∧S.nt=32∧S.sl 0=P0∧S.sl 4 = .c (.own e' (Sim.encL []))∧S.bx 100000=some (rdB m))
   | some ((ps,s),r)=>(s≠[]∧o = .ret∧S.nt=32∧S.sl 2=L (Sim.encL ps)∧S.sl 3=T s∧S.bx 100000=some (rdB r)) ∨
    (s=[]∧ps≠[] ∧ ∃ e',o = .exit 0∧S.nt=32∧S.sl 0=P0∧S.sl 4 = .c (.own e' (Sim.encL ps))∧S.bx 100000=some (rdB r))
 | 0,_,_,_,h,_,_,_=>absurd h (Nat.not_lt_zero _)
 | f+1,l,e,acc,hf,hsz,hts,he=>by
  have hl:l.length≤60000000:=Nat.le_trans (Ne.cB l) hsz
  rw[Sl.jQ]
  cases h:Sl.mq l with
  | true =>
   simp only[if_true]
   refine cX (E7 l e acc hl h) fun o S q => ?_
   obtain ⟨q1,q2,q3,q4,q5⟩:=q
   cases acc with
   | nil=>exact .inr ⟨l,e,q1,q2,q3,q4,q5⟩
   | cons x acc=>exact .inr ⟨rfl,by simp,e,q1,q2,q3,q4,q5⟩
  | false =>
   simp only[Bool.false_eq_true,if_false]
   cases hd:Sl.double l with
   | true =>
    simp only[if_true]
    have hx:=DN l e acc hl h hd
    cases hm:Sl.kt l with
    | none =>
     rw[hm] at hx
     exact cX hx fun o S q => .inl ⟨l,q⟩
    | some y =>
     obtain ⟨s,r⟩:=y
     rw[hm] at hx
     refine cX hx fun o S q => .inl ⟨?_,q⟩
     unfold Sl.kt at hm
     split at hm
     ·split at hm
      ·rename_i hh
       cases hm
       rcases hh with rfl|rfl
       ·show Sl.kE≠[];decide
       ·show Sl.mt≠[];decide
      ·cases hm
     ·cases hm
   | false =>
    simp only[Bool.false_eq_true,if_false]
    by_cases h8:acc.length<8
    ·rw[if_pos h8]
     have hne:l≠[]:=by rintro rfl;cases h
     have hs:=sa l acc.isEmpty hsz hts hne
     cases hx:Sl.simple (Ne.size l) acc.isEmpty l with
     | none =>
      rw[hx] at hs
      obtain ⟨m,hs⟩:=dH hs
      exact cX (FS l m e acc hl h hd h8 hs) fun o S q => .inl ⟨m,q⟩
     | some y =>
      obtain ⟨x,r⟩:=y
      rw[hx] at hs
      obtain ⟨g1,p,g2⟩:=sF l acc.isEmpty (by omega) hts hne hx
      rw[EW l r e acc x hl h hd h8 he (cS hs)]
      simp only
      have hsr:Ne.size r≤Ne.size l:=by rw[g2,iK];omega
      exact xX f r 52 (acc++[x]) (by omega) (by omega) (r6 hts fun v hv=>by rw[g2];simp[hv]) (.inl rfl)
    ·rw[if_neg h8]
     exact cX (EN l e acc hl h hd h8) fun o S q => .inl ⟨l,q⟩
abbrev nr (x:List Sim×List UInt8):AV := .tup [.c (.pv (.sl (Sim.encL x.1))),.c (.pv (.str x.2))]
set_option maxHeartbeats 8000000 in
theorem y3 (l:List Val) (hsz:Ne.size l≤60000000) (hts:TSh l):fh nr (Sl.jQ (l.length+1) [] l) (den K 91 [P0] [rdB l]):=by
 have hr:Tryz.f91.results = #[.tmp 2,.tmp 3]:=rfl
 have h:=xX (l.length+1) l 0 [] (by omega) hsz hts (.inr rfl)
 have hmy:=dq
 have hmn:=e7
 unfold cmlp at h
 conv at h in au _ _=>whnf
 obtain ⟨o,S,w,hq⟩:=h
 have e0:Sim.encL []=[]:=rfl
 simp only[cmH,rdB,e0] at w
 cases hc:Sl.jQ (l.length+1) [] l with
 | none =>
  rw[hc] at hq
  rcases hq with ⟨m,rfl,q1⟩|⟨m,e',rfl,q1,q2,q3,q4⟩
  ·refine ⟨m,?_⟩
   simp only[rdB] at q1 ⊢
   refine ab rfl rfl Tryz.func91 rfl Tryz.ntmps91 ⟨by simp,by simp[LK]⟩ ?_
   simp only[go_sem,Nat.reduceLT,Nat.reduceBEq,Nat.reduceAdd]
   rw[aY]
   simp only[go_sem,reduceCtorEq,Nat.reduceEqDiff]
   erw [w]
   simp only[go_sem,hr,q1]
  ·refine ⟨m,?_⟩
   have d0:decide ((0:Int)<((0:Nat):Int))=false:=rfl
   simp only[rdB,e0] at q3 q4 ⊢
   refine ab rfl rfl Tryz.func91 rfl Tryz.ntmps91 ⟨by simp,by simp[LK]⟩ ?_
   simp only[go_sem,Nat.reduceLT,Nat.reduceBEq,Nat.reduceAdd]
   rw[aY]
   simp only[go_sem,reduceCtorEq,Nat.reduceEqDiff]
   erw [w]
   simp only[go_sem,Nat.reduceLT,Nat.reduceEqDiff,Nat.reduceBEq,ai bX,hr,q1,q3,q4,d0,hmn]
 | some y =>
  obtain ⟨⟨ps,s⟩,r⟩:=y
  rw[hc] at hq
  show den K 91 [P0] [rdB l]=some (.ret (nr (ps,s)) [rdB r])
  rcases hq with ⟨_,rfl,q0,q1,q2,q3⟩|⟨rfl,hne,e',rfl,q1,q2,q3,q4⟩
  ·simp only[rdB] at q3 ⊢
   refine ab rfl rfl Tryz.func91 rfl Tryz.ntmps91 ⟨by simp,by simp[LK]⟩ ?_
   simp only[go_sem,Nat.reduceLT,Nat.reduceBEq,Nat.reduceAdd]
   rw[aY]
   simp only[go_sem,reduceCtorEq,Nat.reduceEqDiff]
   erw [w]
   simp only[go_sem,hr,q1,q2,q3]
  ·have d0:decide ((0:Int)<(ps.length:Int))=true:=decide_eq_true (by
    have:ps.length≠0:=fun h=>hne (List.eq_nil_of_length_eq_zero h)
    omega)
   simp only[rdB] at q4 ⊢
   refine ab rfl rfl Tryz.func91 rfl Tryz.ntmps91 ⟨by simp,by simp[LK]⟩ ?_
   simp only[go_sem,Nat.reduceLT,Nat.reduceBEq,Nat.reduceAdd]
   rw[aY]
   simp only[go_sem,reduceCtorEq,Nat.reduceEqDiff]
   erw [w]
   simp only[go_sem,Nat.reduceLT,Nat.reduceEqDiff,Nat.reduceBEq,Nat.reduceAdd,ai bX,hr,q1,q3,q4,lA,d0,hmy]
end Go.Abs
