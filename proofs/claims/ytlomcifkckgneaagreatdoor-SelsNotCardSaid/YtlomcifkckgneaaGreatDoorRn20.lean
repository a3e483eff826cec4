/-
  WHAT THE FUNCTIONS COMPUTE, layer 3: the text of values, the values of a text.
  WHAT THE FUNCTIONS COMPUTE, layer 4, the program's reader of selectors: lists of them; texts.
  Layer 3: bounds on the texts of values that the laws meet.
-/
import Derived.Test.YtlomcifkckgneaaGreatDoorRn4
import Derived.Test.YtlomcifkckgneaaGreatDoorRn6
import Derived.Test.YtlomcifkckgneaaGreatDoorRn18
import Derived.Test.YtlomcifkckgneaaGreatDoorRn19
set_option linter.unusedSimpArgs false
set_option linter.unusedVariables false
namespace Go.Abs
open Go Go.Proofs
set_option maxRecDepth 10000
attribute [local go_sem] cX bA ce bJ bL cU ci cg aN bD bt bR cz bE opd avOf cvOf St.degAt St.put okPV dQ okAV dc dh dp cG aD if_true Bool.false_eq_true if_false Option.map_some Option.map_none Option.bind_some Option.bind_none dL dG upd List.toList_toArray bX steal bd mvB dx cE co AV.deg CV.deg AV.gv AV.isIter cv cj bK List.length_nil List.length_cons List.filterMap_cons List.filterMap_nil beq_iff_eq List.getElem?_cons_zero List.getElem?_cons_succ Option.getD_some d8 eS Bool.false_and Bool.and_false Bool.and_self K_P fO bO cd bc lend back idx dedup AV.ren CV.ren TV.ren AV.ptrs CV.ptrs cD AV.flat CV.flat bU bH aR cA cQ dV bM aK bS bh bw bI bg ep CV.pv? content bo ownT aV reps pvs chunks bC leave ee cm c9 bF a8 TV.deg TV.av LK CV.plain CV.noBld cK ei bound List.map_cons List.map_nil List.all_cons List.all_nil List.any_cons List.any_nil List.contains_cons List.contains_nil List.elem_cons List.elem_nil List.cons_append List.nil_append List.append_nil List.flatMap_cons List.flatMap_nil List.zip_cons_cons List.zip_nil_left List.zip_nil_right List.take_succ_cons List.take_zero List.take_nil List.drop_succ_cons List.drop_zero List.drop_nil List.isEmpty_nil List.isEmpty_cons Bool.and_true Bool.true_and Bool.or_true Bool.true_or Bool.or_false Bool.false_or Bool.not_true Bool.not_false Nat.add_zero Nat.zero_add Option.isNone_none Option.isNone_some Option.getD_none true_and and_true not_true_eq_false not_false_eq_true decide_true decide_false Nat.le_refl and_self Bool.not_eq_true Nat.sub_self or_true true_or Option.some.injEq List.length_map List.nil_eq and_false false_and AV.live CV.live CV.liveIn dW aO Option.orElse_some Option.orElse_none head a7 aY Int.lt_irrefl List.length_append ite_self dR bQ cF br Key.clash Key.sees Key.writes Nat.lt_irrefl gt_iff_lt cf dD false_or or_false beq_self_eq_true Bool.true_beq Bool.false_beq zT GG Gi G6 FA zQ Hc G4
theorem yK (l:List Val) (hs:Ne.size l≤400000) (hok : ∀ t∈Ne.flat l,Ht t) (hlen:(Sl.kJ l).length<kQ):den K 28 [L (encL l)] []=some (.ret (T (Sl.kJ l)) []):=by
 have hfl:=Ne.gH l
 have h1:=Cz l (by omega)
 have h2:=Bt (Ne.flat l) (by unfold Ah;omega) hok hlen
 refine ab rfl rfl Tryz.func28 rfl Tryz.ntmps28 ⟨by simp,by simp[LK]⟩ ?_
 have hr:Tryz.f28.results = #[.tmp 2]:=rfl
 simp only[go_sem,Nat.reduceLT,reduceCtorEq,Nat.reduceEqDiff,Nat.reduceBEq,Nat.reduceAdd,hr,h1,h2]
 rfl
def yy (s:List UInt8):AV:=match Sl.jd s with
 | some a => .tup [.c (.pv (.sl (encL a))),.c (.pv (.int .i64 0))]
 | none => .tup [.c (.pv (.sl [])),.c (.pv (.int .i64 20))]
def ul (s:List UInt8):AV:=match Sl.jd s with
 | some a => .tup [.c (.pv (.sl (encL a))),.c (.pv (.int .i64 0))]
 | none => .tup [.c .nils,.c (.pv (.int .i64 20))]
theorem AE (s:List UInt8) (hs:s.length<4000000000) (hal:(Tk.all s).length≤1000000):den K 49 [T s] []=some (.ret (yy s) []):=by
 have h1:=Gl s hs
 have h2:=CA (Tk.all s) (by omega) 60
 unfold yy Sl.jd
 refine ab rfl rfl Tryz.func49 rfl Tryz.ntmps49 ⟨by simp,by simp[LK]⟩ ?_
 have hr:Tryz.f49.results = #[.tmp 2,.tmp 3]:=rfl
 cases hp:Ne.parse 60 (Tk.all s) with
 | none =>
  rw[xL (deep:=60) (by decide) (by decide) hp] at h2
  have h3:=iK [] (by simp)
  have e0:encL []=[]:=rfl
  have e1:Sl.trim []=[]:=rfl
  rw[e1,e0] at h3
  simp only[go_sem,Nat.reduceLT,reduceCtorEq,Nat.reduceEqDiff,Nat.reduceBEq,Nat.reduceAdd,hr,h1,h2,h3,Option.map_none,TV.flat]
 | some vs =>
  rw[zx (deep:=60) (by decide) (by decide) hp] at h2
  obtain ⟨_,_,hsz,_⟩:=Ne.fi hp
  have hl:=Ne.bW vs
  have h3:=iK vs (by omega)
  simp only[go_sem,Nat.reduceLT,reduceCtorEq,Nat.reduceEqDiff,Nat.reduceBEq,Nat.reduceAdd,hr,h1,h2,h3,Option.map_some,TV.flat]
theorem vm {deep:Int} {l:List Tok} {vs:List Val} (h1:1≤deep) (h2:deep≤60) (h:Ne.parse deep.toNat l=some vs):lR deep l = .tup [.c (.pv (.sl (encL vs))),.c (.pv (.int .i64 0))]:=by
 unfold lR
 rw[if_neg (by omega)]
 unfold Ne.parse at h
 cases hu:Ne.cM 0 deep.toNat l with
 | some x=>rw[hu] at h;cases h;rfl
 | none=>rw[hu] at h;cases h
theorem wk {deep:Int} {l:List Tok} (h1:1≤deep) (h2:deep≤60) (h:Ne.parse deep.toNat l=none):lR deep l = .tup [.c .nils,.c (.pv (.int .i64 20))]:=by
 unfold lR
 rw[if_neg (by omega)]
 unfold Ne.parse at h
 cases hu:Ne.cM 0 deep.toNat l with
 | some x=>rw[hu] at h;cases h
 | none=>rfl
theorem xK (s:List UInt8) (hs:s.length<4000000000) (hal:(Tk.all s).length≤1000000):den K 11 [T s] []=some (.ret (ul s) []):=by
 have h1:=wE s hs
 have h2:=yD (Tk.all s) (by omega) 60
 unfold ul Sl.jd
 have e20:((20:Int) != 0)=true:=by decide
 have e00:((0:Int) != 0)=false:=by decide
 refine ab rfl rfl Tryz.func11 rfl Tryz.ntmps11 ⟨by simp,by simp[LK]⟩ ?_
 have hr:Tryz.f11.results = #[.tmp 2,.tmp 3]:=rfl
 cases hp:Ne.parse 60 (Tk.all s) with
 | none =>
  rw[wk (deep:=60) (by decide) (by decide) hp] at h2
  simp only[go_sem,Nat.reduceLT,reduceCtorEq,Nat.reduceEqDiff,Nat.reduceBEq,Nat.reduceAdd,hr,h1,h2,e20,Option.map_none,TV.flat]
 | some vs =>
  rw[vm (deep:=60) (by decide) (by decide) hp] at h2
  obtain ⟨_,_,hsz,_⟩:=Ne.fi hp
  have hl:=Ne.bW vs
  have h3:=Fc vs (by omega)
  simp only[go_sem,Nat.reduceLT,reduceCtorEq,Nat.reduceEqDiff,Nat.reduceBEq,Nat.reduceAdd,hr,h1,h2,h3,e00,Option.map_some,TV.flat]
attribute [local go_sem] Au dK dS tL kf pq Hb Gg Aa
theorem xC {m m2:List Val} {out:List Cpx} {e:Nat} {c:Cpx} (he:e=47∨out=[]) (ho:out.length≤1000) (h:den K 47 [P0] [rdB m]=some (.ret (cpxE c) [rdB m2])) :
  den K 46 [P0,P1] [rdB m,[.own e (encC out)]]=some (.ret (.tup []) [rdB m2,[.own 47 (encC (out++[c]))]]):=by
 rw[jX (K:=K) (F:=parse1P) rfl rfl]
 have h1:e=47∨(encC out).isEmpty=true:=by
  rcases he with rfl|rfl
  ·exact .inl rfl
  ·exact .inr rfl
 have h2:(encC out).length+1<cJ:=by rw[List.length_map];unfold cJ;omega
 have h:=h
 simp only[cpxE] at h
 unfold parse1P
 simp only[and_self,if_true,Plan.run,h]
 rw[if_pos ⟨h1,CL out,h2⟩]
 simp only[Plan.run,E8]
theorem wt {m m2:List Val} {out:List Cpx} {e:Nat} (h:den K 47 [P0] [rdB m]=some (.pan cZ [rdB m2])) :
  den K 46 [P0,P1] [rdB m,[.own e (encC out)]]=some (.pan cZ [rdB m2,[.top]]):=by
 rw[jX (K:=K) (F:=parse1P) rfl rfl]
 unfold parse1P
 simp only[and_self,if_true,Plan.run,h]
abbrev prpH (parts:List (List Val)) (i e:Nat) (out:List Cpx):St :=
  { sl:=upd (upd (upd (upd bot 11 (I i)) 10 (I parts.length)) 9 (L (encP parts))) 4 (.c (.loc 4 0)),bx:=upd nobox 4 (some [.own e (encC out)]),nt:=27 }
noncomputable def prplp:Code := .loop (ap Tryz.f17 3)
theorem Hg (parts:List (List Val)) (e:Nat) (out:List Cpx) :
  Ends (exL K 17 prplp (prpH parts parts.length e out)) fun o S=>o = .exit 0∧S.nt=27∧S.sl 4 = .c (.loc 4 0)∧S.bx 4=some [.own e (encC out)]:=by
 have hlt:decide ((parts.length:Int)<(parts.length:Int))=false:=decide_eq_false (by omega)
 unfold prplp
 conv in ap _ _=>whnf
 rw[aw]
 simp only[go_sem,Nat.reduceLT,Nat.reduceEqDiff,Nat.reduceBEq,aB]
set_option maxHeartbeats 4000000 in
theorem Gf (parts:List (List Val)) (i e:Nat) (out:List Cpx) (p:List Val) (hi:parts[i]? = some p) (hpl:parts.length≤200000000) (b:List CV) (hb : ∃ v:CV,b=[v])
  (hw:den K 37 [L (encL p),.c (.fn 46 [(100000,0)])] [[.own e (encC out)]]=some (.ret (I 40) [b])) :
  Ends (exL K 17 prplp (prpH parts i e out)) fun o S=>o = .ret∧S.sl 2 = .c .nils∧S.sl 3=I 40:=by
 have hil:i<parts.length:=(List.getElem?_eq_some_iff.1 hi).1
 have hlt:decide ((i:Int)<(parts.length:Int))=true:=decide_eq_true (by omega)
 have hget:(encP parts)[(i:Int).toNat]? = some [.sl (encL p)]:=by simp[hi]
 obtain ⟨v,rfl⟩:=hb
 unfold prplp
 conv in ap _ _=>whnf
 rw[aw]
 simp only[go_sem,Nat.reduceLT,Nat.reduceEqDiff,Nat.reduceBEq,Nat.reduceAdd,am fL,hlt,hget,Int.natCast_nonneg,hw,gy,locs,iz,aB,Int.reduceBNe]
set_option maxHeartbeats 4000000 in
theorem Fe (parts:List (List Val)) (i e e':Nat) (out out':List Cpx) (p:List Val) (hi:parts[i]? = some p) (hpl:parts.length≤200000000) (ho:32<out'.length)
  (hw:den K 37 [L (encL p),.c (.fn 46 [(100000,0)])] [[.own e (encC out)]]=some (.ret (I 0) [[.own e' (encC out')]])) :
  Ends (exL K 17 prplp (prpH parts i e out)) fun o S=>o = .ret∧S.sl 2 = .c .nils∧S.sl 3=I 40:=by
 have hil:i<parts.length:=(List.getElem?_eq_some_iff.1 hi).1
 have hlt:decide ((i:Int)<(parts.length:Int))=true:=decide_eq_true (by omega)
 have h32:decide ((32:Int)<(out'.length:Int))=true:=decide_eq_true (by omega)
 have hget:(encP parts)[(i:Int).toNat]? = some [.sl (encL p)]:=by simp[hi]
 unfold prplp
 conv in ap _ _=>whnf
 rw[aw]
 simp only[go_sem,Nat.reduceLT,Nat.reduceEqDiff,Nat.reduceBEq,Nat.reduceAdd,am fL,ai aM,hlt,hget,Int.natCast_nonneg,hw,h32,gy,locs,iz,aB,bne_self_eq_false]
set_option maxHeartbeats 4000000 in
theorem Fs (parts:List (List Val)) (i e e':Nat) (out out':List Cpx) (p:List Val) (hi:parts[i]? = some p) (hpl:parts.length≤200000000) (ho : ¬ 32<out'.length)
  (hw:den K 37 [L (encL p),.c (.fn 46 [(100000,0)])] [[.own e (encC out)]]=some (.ret (I 0) [[.own e' (encC out')]])) :
  exL K 17 prplp (prpH parts i e out)=exL K 17 prplp (prpH parts (i+1) e' out'):=by
 have hil:i<parts.length:=(List.getElem?_eq_some_iff.1 hi).1
 have hlt:decide ((i:Int)<(parts.length:Int))=true:=decide_eq_true (by omega)
 have h32:decide ((32:Int)<(out'.length:Int))=false:=decide_eq_false (by omega)
 have hget:(encP parts)[(i:Int).toNat]? = some [.sl (encL p)]:=by simp[hi]
 have hws:IntKind.i64.wrap ((i:Int)+1)=((i+1:Nat):Int):=bu i (by omega)
 unfold prplp
 conv in ap _ _=>whnf
 conv in ap _ _=>whnf
 conv in exL _ _ _ (prpH parts i e out)=>rw[aw]
 simp only[go_sem,Nat.reduceLT,Nat.reduceEqDiff,Nat.reduceBEq,Nat.reduceAdd,am fL,ai aM,hlt,hget,Int.natCast_nonneg,hw,h32,hws,gy,locs,iz,bne_self_eq_false]
 rw[az]
 simp only[go_sem,Nat.reduceEqDiff]
theorem uM (e:Nat) (c:List (List PV)) (f:Nat→Option Nat):([CV.own e c]).map (CV.ren f)=[CV.own e c]:=rfl
theorem Fy (f:Nat→Option Nat):([CV.top]).map (CV.ren f)=[CV.top]:=rfl
theorem y7 (p:List Val) (e:Nat) (out:List Cpx) (hsz:Ne.size p≤60000000) (hts:TSh p) (hc:Sl.dH [44] p=false) (he:e=47∨out=[]) (ho:out.length≤1000):match Sl.cpx 16 0 (Sl.trim p) with
  | some c=>den K 37 [L (encL p),.c (.fn 46 [(100000,0)])] [[.own e (encC out)]]=some (.ret (I 0) [[.own 47 (encC (out++[c]))]])
  | none => ∃ v:CV,den K 37 [L (encL p),.c (.fn 46 [(100000,0)])] [[.own e (encC out)]]=some (.ret (I 40) [[v]]):=by
 have hl:p.length≤60000000:=Nat.le_trans (Ne.bW p) hsz
 have hg:goods.contains 46=true:=by kernel_rfl
 have hx:=FL (Sl.trim p) (Nat.le_trans (j6 p) hsz) (nh hts)
 rw[←Sl.B2 hc]
 unfold Sl.eK
 cases hp:Sl.cpxP 16 0 [] (Sl.trim p) with
 | none =>
  rw[hp] at hx
  obtain ⟨m,hx⟩:=dZ hx
  exact ⟨.top,rt hg (by omega) (uM _ _) Fy (wt hx)⟩
 | some y =>
  obtain ⟨c,m⟩:=y
  rw[hp] at hx
  have hw:=pW hg (by omega) (uM _ _) (uM _ _) (xC he ho (de hx))
  cases m with
  | nil=>exact hw
  | cons v m=>exact ⟨_,hw⟩
theorem rg (parts:List (List Val)) (hpl:parts.length≤200000000) (hp : ∀ p∈parts,Ne.size p≤60000000∧TSh p∧Sl.dH [44] p=false) : ∀ (rest:List (List Val)) (i e:Nat) (out:List Cpx),parts.drop i=rest→i≤parts.length→i≤32→out.length=i→(e=47∨out=[]) →
  Ends (exL K 17 prplp (prpH parts i e out)) fun o S=>match Sl.all_ rest with
   | some cs=>if i+rest.length≤32 then (o = .exit 0∧S.nt=27∧S.sl 4 = .c (.loc 4 0) ∧ ∃ e',S.bx 4=some [.own e' (encC (out++cs))]) else (o = .ret∧S.sl 2 = .c .nils∧S.sl 3=I 40)
   | none=>o = .ret∧S.sl 2 = .c .nils∧S.sl 3=I 40
 | [],i,e,out,hd,hi,h32,ho,he=>by
  have hin:i=parts.length:=by
   have:=List.drop_eq_nil_iff.1 hd
   omega
  subst hin
  refine bN (Hg parts e out) fun o S q => ?_
  rw[Sl.all_nil]
  simp only
  rw[if_pos (by simpa using h32)]
  exact ⟨q.1,q.2.1,q.2.2.1,e,by rw[List.append_nil];exact q.2.2.2⟩
 | p::rest,i,e,out,hd,hi,h32,ho,he=>by
  obtain ⟨g1,g2,g3⟩:=bZ hd
  obtain ⟨k1,k2,k3⟩:=hp p (List.mem_of_getElem? g1)
  have hw:=y7 p e out k1 k2 k3 he (by omega)
  rw[Sl.all_cons]
  cases hc:Sl.cpx 16 0 (Sl.trim p) with
  | none =>
   rw[hc] at hw
   obtain ⟨v,hw⟩:=hw
   exact Gf parts i e out p g1 hpl [v] ⟨v,rfl⟩ hw
  | some c =>
   rw[hc] at hw
   simp only at hw
   by_cases h:i<32
   ·rw[Fs parts i e _ out _ p g1 hpl (by rw[List.length_append,List.length_singleton];omega) hw]
    refine bN (rg parts hpl hp rest (i+1) _ (out++[c]) g2 (by omega) (by omega) (by rw[List.length_append,List.length_singleton];omega) (.inl rfl)) fun o S q => ?_
    cases hr:Sl.all_ rest with
    | none=>rw[hr] at q;exact q
    | some cs =>
     rw[hr] at q
     simp only at q ⊢
     rw[List.length_cons]
     by_cases h2:i+1+rest.length≤32
     ·rw[if_pos h2] at q
      rw[if_pos (by omega)]
      obtain ⟨q1,q2,q3,e',q4⟩:=q
      exact ⟨q1,q2,q3,e',by rw[q4,List.append_assoc];rfl⟩
     ·rw[if_neg h2] at q
      rw[if_neg (by omega)]
      exact q
   ·refine bN (Fe parts i e _ out _ p g1 hpl (by rw[List.length_append,List.length_singleton];omega) hw) fun o S q => ?_
    cases hr:Sl.all_ rest with
    | none=>exact q
    | some cs =>
     simp only
     rw[List.length_cons,if_neg (by omega)]
     exact q
set_option maxHeartbeats 8000000 in
theorem rf (l:List Val) (hsz:Ne.size l≤60000000) (hts:TSh l):den K 17 [L (encL l)] []=some (.ret (gD (Sl.parse l)) []):=by
 have hr:Tryz.f17.results = #[.tmp 2,.tmp 3]:=rfl
 have hat:=FC l [44] (by omega)
 have hal:=B5 [44] l
 have hll:=Ne.bW l
 have hpl:(Sl.at_ [44] l).length≤200000000:=by omega
 have h:=rg (Sl.at_ [44] l) hpl (fun p hp=>⟨Nat.le_trans (Et [44] l p hp) hsz,t8 hts (Sl.lD [44] l p hp).1,(Sl.lD [44] l p hp).2⟩) _ 0 0 [] rfl (Nat.zero_le _) (by omega) rfl (.inr rfl)
 rw[List.drop_zero] at h
 unfold prplp at h
 conv at h in ap _ _=>whnf
 obtain ⟨o,S,w,hq⟩:=h
 have z0:((0:Nat):Int)=0:=rfl
 have e0:encC []=[]:=rfl
 simp only[prpH,z0,e0] at w
 have err:o = .ret∧S.sl 2 = .c .nils∧S.sl 3=I 40→den K 17 [L (encL l)] []=some (.ret (gD none) []):=by
  rintro ⟨rfl,q1,q2⟩
  unfold gD
  refine ab rfl rfl Tryz.func17 rfl Tryz.ntmps17 ⟨by simp,by simp[LK]⟩ ?_
  simp only[go_sem,Nat.reduceLT,reduceCtorEq,Nat.reduceEqDiff,Nat.reduceBEq,Nat.reduceAdd,Nat.reduceSub,Nat.reduceLeDiff,ai fL,hat,tj]
  rw[az]
  simp only[go_sem,Nat.reduceEqDiff,Nat.reduceSub,Nat.reduceLeDiff]
  erw [w]
  simp only[go_sem,hr,q1,q2]
 unfold Sl.parse
 cases hx:Sl.all_ (Sl.at_ [44] l) with
 | none =>
  rw[hx] at hq
  rw[ite_self]
  exact err hq
 | some cs =>
  rw[hx] at hq
  simp only[Nat.zero_add] at hq
  by_cases h32:(Sl.at_ [44] l).length≤32
  ·rw[if_pos h32] at hq ⊢
   obtain ⟨rfl,q1,q2,e',q3⟩:=hq
   rw[List.nil_append] at q3
   unfold gD
   refine ab rfl rfl Tryz.func17 rfl Tryz.ntmps17 ⟨by simp,by simp[LK]⟩ ?_
   simp only[go_sem,Nat.reduceLT,reduceCtorEq,Nat.reduceEqDiff,Nat.reduceBEq,Nat.reduceAdd,Nat.reduceSub,Nat.reduceLeDiff,ai fL,hat,tj]
   rw[az]
   simp only[go_sem,Nat.reduceEqDiff,Nat.reduceSub,Nat.reduceLeDiff]
   erw [w]
   simp only[go_sem,Nat.reduceLT,Nat.reduceEqDiff,Nat.reduceBEq,Nat.reduceAdd,hr,q1,q2,q3]
  ·rw[if_neg h32] at hq ⊢
   exact err hq
set_option maxHeartbeats 8000000 in
theorem y5:den K 17 [.c .nils] []=some (.ret (gD none) []):=by
 have hr:Tryz.f17.results = #[.tmp 2,.tmp 3]:=rfl
 have hat:den K 45 [.c .nils,T [44]] []=some (.ret (L (encP [[]])) []):=eE (F:=pAt) rfl rfl
 have h:=rg [[]] (by simp) (fun p hp=>by
  obtain rfl:=List.mem_singleton.1 hp
  exact ⟨by rw[Ne.size];omega,(fun t ht=>by rw[Sl.nx] at ht;cases ht),rfl⟩) [[]] 0 0 [] rfl (Nat.zero_le _) (by omega) rfl (.inr rfl)
 have hx:Sl.all_ [[]]=none:=rfl
 rw[hx] at h
 unfold prplp at h
 conv at h in ap _ _=>whnf
 obtain ⟨o,S,w,rfl,q1,q2⟩:=h
 have z0:((0:Nat):Int)=0:=rfl
 have z1:(([[]]:List (List Val)).length:Int)=1:=rfl
 have e0:encC []=[]:=rfl
 simp only[prpH,z0,z1,e0] at w
 have z2:(((encP [[]]).length:Nat):Int)=1:=rfl
 unfold gD
 refine ab rfl rfl Tryz.func17 rfl Tryz.ntmps17 ⟨by simp,by simp[LK]⟩ ?_
 simp only[go_sem,Nat.reduceLT,reduceCtorEq,Nat.reduceEqDiff,Nat.reduceBEq,Nat.reduceAdd,Nat.reduceSub,Nat.reduceLeDiff,ai fL,hat]
 rw[az]
 simp only[go_sem,Nat.reduceEqDiff,Nat.reduceSub,Nat.reduceLeDiff]
 erw [w]
 simp only[go_sem,hr,q1,q2]
theorem Ew {s:List UInt8} {v:List Val} (h:Sl.jd s=some v) (hs:s.length≤500000):Ne.size v≤1000000∧TSh v:=by
 unfold Sl.jd at h
 rw[Option.map_eq_some_iff] at h
 obtain ⟨u,hu,rfl⟩:=h
 have hc:=ot s
 have hv:=(Ne.fi hu).2.2.1
 have hts:=zW hu (Tk.nj s) (by omega)
 exact ⟨Nat.le_trans (j6 u) (by omega),nh hts⟩
set_option maxHeartbeats 8000000 in
theorem uW (s:List UInt8) (hs:s.length≤500000):den K 19 [T s] []=some (.ret (gD (Sl.read s)) []):=by
 have hr:Tryz.f19.results = #[.tmp 2,.tmp 3]:=rfl
 have hc:=ot s
 have h1:=AE s (by omega) (by omega)
 unfold Sl.read
 unfold yy Sl.jd at h1
 cases hx:Ne.parse 60 (Tk.all s) with
 | none =>
  rw[hx] at h1
  unfold gD
  simp only[Option.map_none,Option.bind_none] at h1 ⊢
  refine ab rfl rfl Tryz.func19 rfl Tryz.ntmps19 ⟨by simp,by simp[LK]⟩ ?_
  simp only[go_sem,Nat.reduceLT,reduceCtorEq,Nat.reduceEqDiff,Nat.reduceBEq,Nat.reduceAdd,hr,h1,TV.flat,Int.reduceBNe]
 | some v =>
  have hv:=(Ne.fi hx).2.2.1
  have hts:=zW hx (Tk.nj s) (by omega)
  have h2:=rf (Sl.trim v) (Nat.le_trans (j6 v) (by omega)) (nh hts)
  rw[hx] at h1
  simp only[Option.map_some,Option.bind_some] at h1 ⊢
  unfold gD at h2 ⊢
  cases hy:Sl.parse (Sl.trim v) with
  | none =>
   rw[hy] at h2
   simp only at h2 ⊢
   refine ab rfl rfl Tryz.func19 rfl Tryz.ntmps19 ⟨by simp,by simp[LK]⟩ ?_
   simp only[go_sem,Nat.reduceLT,reduceCtorEq,Nat.reduceEqDiff,Nat.reduceBEq,Nat.reduceAdd,hr,h1,h2,TV.flat,Int.reduceBNe]
  | some cs =>
   rw[hy] at h2
   simp only at h2 ⊢
   refine ab rfl rfl Tryz.func19 rfl Tryz.ntmps19 ⟨by simp,by simp[LK]⟩ ?_
   simp only[go_sem,Nat.reduceLT,reduceCtorEq,Nat.reduceEqDiff,Nat.reduceBEq,Nat.reduceAdd,hr,h1,h2,TV.flat,Int.reduceBNe]
end Go.Abs
set_option linter.unusedSimpArgs true
namespace Go.Abs
open Go Go.Proofs
theorem tg {t:Tok} (h:Tk.Good t):I64 t.n:=by
 have:=Tk.DU h
 unfold I64;omega
theorem Fv {l:List Tok} {m:Nat} (hm:m<1000000000) (h : ∀ t∈l,I64 t.n∧t.text.length≤m) : ∀ t∈l,Ht t:=fun t ht=>⟨(h t ht).1,by have:=(h t ht).2;omega⟩
theorem Av {l:List Val} (hs:Ne.size l≤1000) {m:Nat} (hm:m≤1000) (h : ∀ t∈Ne.flat l,I64 t.n∧t.text.length≤m):(Sl.kJ l).length<1000000000:=by
 have hfl:=Ne.gH l
 refine yA (n:=2000) (m:=1000) (by omega) (fun t ht=>⟨(h t ht).1,by have:=(h t ht).2;omega⟩) (by decide)
theorem xJ {s:List UInt8} (hs:s.length≤1000) {a:List Val} (h:Sl.jd s=some a):Ne.size a≤1000 ∧ ∀ t∈Ne.flat a,I64 t.n∧t.text.length≤1000:=by
 have hr:=(Sl.uy h).1
 unfold Sl.jd at h
 rw[Option.map_eq_some_iff] at h
 obtain ⟨vs,h1,rfl⟩:=h
 obtain ⟨_,_,h2,c,e⟩:=Ne.fi h1
 have hal:=Tk.i7 s
 have hts:=tf vs
 refine ⟨by omega,fun t ht=>⟨tg (hr.tok t ht),?_⟩⟩
 obtain ⟨v,hv,ht⟩:=Sl.gG.1 ht
 have ht2:t∈Ne.flat vs:=Sl.gG.2 ⟨v,Sl.lN hv,ht⟩
 rw[e,List.mem_append,List.mem_map] at ht2
 rcases ht2 with ht2|⟨k,_,rfl⟩
 ·have:=Tk.nj s t ht2
  omega
 ·show (1:Nat)≤1000
  omega
end Go.Abs
