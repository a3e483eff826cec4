/-
  WHAT THE FUNCTIONS COMPUTE, layer 4, the program's reader of selectors: a complex selector.
  (And 5 texts more.)
-/
import Derived.Test.YtlomcifkckgneaaGreatDoorRd17
set_option maxHeartbeats 16000000
open Nat (reduceEqDiff reduceAdd reduceLT reduceLeDiff reduceSub reduceMul)
set_option linter.unusedSimpArgs false
set_option linter.unusedVariables false
namespace Go.Abs
open Go Go.Proofs
set_option maxRecDepth 10000
attribute [local go_sem] dP bZ de cB cK dL dh du bo ck ce cE dr ci opd avOf cvOf St.degAt St.put okPV fE okAV eL eP eV dM aP if_true Bool.false_eq_true if_false Option.map_some Option.map_none Option.bind_some Option.bind_none fo fw upd List.toList_toArray cM steal bI mvB fj dK db AV.deg CV.deg AV.gv AV.isIter dG dw cJ List.length_nil List.length_cons List.filterMap_cons List.filterMap_nil beq_iff_eq List.getElem?_cons_zero List.getElem?_cons_succ Option.getD_some fM gJ Bool.false_and Bool.and_false Bool.and_self K_P iJ cI dc bL lend back idx dedup AV.ren CV.ren TV.ren AV.ptrs CV.ptrs dE AV.flat CV.flat cQ cz br dD dY gi cL bf cS bV cu cH bU gS CV.pv? content bT ownT bv reps pvs chunks co leave gj cZ eD cm bB TV.deg TV.av LK CV.plain CV.noBld dR gD bound List.map_cons List.map_nil List.all_cons List.all_nil List.any_cons List.any_nil List.contains_cons List.contains_nil List.elem_cons List.elem_nil List.cons_append List.nil_append List.append_nil List.flatMap_cons List.flatMap_nil List.zip_cons_cons List.zip_nil_left List.zip_nil_right List.take_succ_cons List.take_zero List.take_nil List.drop_succ_cons List.drop_zero List.drop_nil List.isEmpty_nil List.isEmpty_cons Bool.and_true Bool.true_and Bool.or_true Bool.true_or Bool.or_false Bool.false_or Bool.not_true Bool.not_false Nat.add_zero Nat.zero_add Option.isNone_none Option.isNone_some Option.getD_none true_and and_true not_true_eq_false not_false_eq_true decide_true decide_false Nat.le_refl and_self Bool.not_eq_true Nat.sub_self or_true true_or Option.some.injEq List.length_map List.nil_eq and_false false_and AV.live CV.live CV.liveIn gk bu Option.orElse_some Option.orElse_none head bJ bG Int.lt_irrefl List.length_append ite_self fx cF dC cf Key.clash Key.sees Key.writes Nat.lt_irrefl gt_iff_lt dt fB false_or or_false beq_self_eq_true Bool.true_beq Bool.false_beq fT kw jb pL LJ TJ kh fU aN fy Tj aZ
abbrev cpxE (c:Cpx):AV:=.agg [.pv (.sl (encQ c.parts)),.pv (.str c.pseudo)]
abbrev cxpH (l:List Val)(cb:Int)(e:Nat)(ps:List Prt):St :=
  { sl:=upd (upd (upd (upd bot 4 (I cb)) 3 (.c (.loc 3 0))) 2 (.c (.loc 2 0))) 0 P0,
    bx:=upd (upd (upd nobox 100000 (some (rdB l))) 3 (some [.own e (encQ ps),.pv (.str [])])) 2 (some [.own 0 [],.pv (.str [])]),nt:=35 }
noncomputable def cxplp:Code:=.loop (ap Tryz.f47 3)
theorem Rf (l:List Val)(cb:Int)(e:Nat)(ps:List Prt)(h:¬ ps.length<16) :
  Ends (exL K 47 cxplp (cxpH l cb e ps)) fun o S=>o=.pan ey∧S.bx 100000=some (rdB l):=by
 have e1:decide ((ps.length:Int)<16)=false:=decide_eq_false (by omega)
 have hmn:=jk
 unfold cxplp
 conv in ap _ _=>whnf
 rw[aq];simp only[go_sem,reduceLT,reduceCtorEq,reduceEqDiff,Nat.reduceBEq,af ay,cx,e1,hmn,aw]
theorem RI (l m:List Val)(cb:Int)(e:Nat)(ps:List Prt)(h:ps.length<16)(hc:den K 91 [P0] [rdB l]=some (.pan ey [rdB m])) :
  Ends (exL K 47 cxplp (cxpH l cb e ps)) fun o S=>o=.pan ey∧S.bx 100000=some (rdB m):=by
 have e1:decide ((ps.length:Int)<16)=true:=decide_eq_true (by omega)
 have hmy:=fF
 simp only[rdB] at hc;unfold cxplp
 conv in ap _ _=>whnf
 rw[aq];simp only[go_sem,reduceLT,reduceCtorEq,reduceEqDiff,Nat.reduceBEq,reduceAdd,af ay,cx,e1,hmy,hc,aw]
def zx (ps:List Prt)(s:List UInt8)(r:List Val)(o:Out)(S:St):Prop:=o=.ret∧S.nt=35∧S.sl 2=.c (.loc 2 0)∧S.bx 2=some [.pv (.sl (encQ ps)),.pv (.str s)]∧S.bx 100000=some (rdB r)
theorem QH (l r:List Val)(cb:Int)(e:Nat)(ps:List Prt)(h:ps.length<16)(he:e=50∨ps=[])(ls:List Sim)(s:List UInt8)(hs:s≠[])(hc:den K 91 [P0] [rdB l]=some (.ret (uy (ls,s)) [rdB r])) :
  Ends (exL K 47 cxplp (cxpH l cb e ps)) fun o S=>zx (ps++[⟨cb,ls⟩]) s r o S:=by
 have e1:decide ((ps.length:Int)<16)=true:=decide_eq_true (by omega)
 have e2:(s==[])=false:=by rw[beq_eq_false_iff_ne];exact hs
 have hmy:=fF
 have hown:e=50∨(encQ ps).isEmpty=true:=by
  rcases he with rfl|rfl
  ·exact .inl rfl
  ·exact .inr rfl
 have hlim:ps.length+1<bS:=by unfold bS;omega
 have hlv:=jm ps
 simp only[rdB,uy] at hc;unfold zx;unfold cxplp
 conv in ap _ _=>whnf
 rw[aq];simp only[go_sem,reduceLT,reduceCtorEq,reduceEqDiff,Nat.reduceBEq,reduceAdd,reduceLeDiff,reduceMul,af ay,aa aO cq,ao (len:=1) ay cP aO ⟨rfl,by decide,by decide⟩,bq cG,aU ay,cx,e1,e2,hmy,hc,hown,hlim,hlv,fm,fD,bne,aw]
theorem QX (l r r2:List Val)(cb:Int)(e:Nat)(ps:List Prt)(h:ps.length<16)(he:e=50∨ps=[])(ls:List Sim)(hc:den K 91 [P0] [rdB l]=some (.ret (uy (ls,[])) [rdB r]))
  (hk:den K 92 [P0] [rdB r]=some (.ret (I 0) [rdB r2])) :
  Ends (exL K 47 cxplp (cxpH l cb e ps)) fun o S=>zx (ps++[⟨cb,ls⟩]) [] r2 o S:=by
 have e1:decide ((ps.length:Int)<16)=true:=decide_eq_true (by omega)
 have e2:(([]:List UInt8)==[])=true:=rfl
 have e3:((0:Int)==0)=true:=rfl
 have hmy:=fF
 have hown:e=50∨(encQ ps).isEmpty=true:=by
  rcases he with rfl|rfl
  ·exact .inl rfl
  ·exact .inr rfl
 have hlim:ps.length+1<bS:=by unfold bS;omega
 have hlv:=jm ps
 simp only[rdB,uy] at hc hk;unfold zx;unfold cxplp
 conv in ap _ _=>whnf
 rw[aq];simp only[go_sem,reduceLT,reduceCtorEq,reduceEqDiff,Nat.reduceBEq,reduceAdd,reduceLeDiff,reduceMul,af ay,aa aO cq,ao (len:=1) ay cP aO ⟨rfl,by decide,by decide⟩,bq cG,aU ay,cx,e1,e2,e3,hmy,hc,hk,hown,hlim,hlv,fm,fD,bne,aw]
theorem Qj (l r r2:List Val)(cb cb2:Int)(e:Nat)(ps:List Prt)(h:ps.length<16)(he:e=50∨ps=[])(ls:List Sim)(hc:den K 91 [P0] [rdB l]=some (.ret (uy (ls,[])) [rdB r]))
  (hk:den K 92 [P0] [rdB r]=some (.ret (I cb2) [rdB r2])) (h0:cb2≠0) :
  exL K 47 cxplp (cxpH l cb e ps)=exL K 47 cxplp (cxpH r2 cb2 50 (ps++[⟨cb,ls⟩])):=by
 have e1:decide ((ps.length:Int)<16)=true:=decide_eq_true (by omega)
 have e2:(([]:List UInt8)==[])=true:=rfl
 have e3:(cb2==0)=false:=by rw[beq_eq_false_iff_ne];exact h0
 have hmy:=fF
 have hown:e=50∨(encQ ps).isEmpty=true:=by
  rcases he with rfl|rfl
  ·exact .inl rfl
  ·exact .inr rfl
 have hlim:ps.length+1<bS:=by unfold bS;omega
 have hlv:=jm ps
 simp only[rdB,uy] at hc hk;unfold cxplp
 conv in ap _ _=>whnf
 conv in ap _ _=>whnf
 conv in exL _ _ _ (cxpH l cb e ps)=>rw[aq]
 simp only[go_sem,reduceLT,reduceCtorEq,reduceEqDiff,Nat.reduceBEq,reduceAdd,reduceLeDiff,reduceMul,af ay,aa aO cq,ao (len:=1) ay cP aO ⟨rfl,by decide,by decide⟩,bq cG,aU ay,cx,e1,e2,e3,hmy,hc,hk,hown,hlim,hlv,fm,fD,bne]
 rw[au];simp only[go_sem,reduceCtorEq,reduceEqDiff,Nat.reduceBEq]
theorem Ab:∀ (f:Nat) (acc:List Sim) (l:List Val) (y:List Sim×List UInt8) (r:List Val),Sl.pJ f acc l=some (y,r)→∃ p,l=p++r
 | 0,_,_,_,_,h=>by cases h
 | f+1,acc,l,y,r,h=>by
  rw[Sl.pJ] at h;split at h
  ·split at h
   ·cases h
   ·cases h;exact⟨[],rfl⟩
  ·split at h
   ·rw[Option.map_eq_some_iff] at h;obtain⟨z,hz,e⟩:=h;cases e;unfold Sl.pB at hz;split at hz
    ·rename_i s m hn;split at hz
     ·cases hz
      obtain⟨t,c,e,_⟩:=Sl.xF hn;exact⟨l.take 2++[.mk 1 t c],by rw[List.append_assoc];simp only[List.singleton_append];rw[←e,List.take_append_drop]⟩
     ·cases hz
    ·cases hz
   ·split at h
    ·split at h
     ·rename_i x m hs;obtain⟨p,rfl,_⟩:=Sl.qg _ _ _ _ _ hs;obtain⟨q,e⟩:=Ab f _ m y r h;exact⟨p++q,by rw[List.append_assoc,←e]⟩
     ·cases h
    ·cases h
theorem KD (l:List Val):∃ p,l=p++(Sl.mB l).2:=by
 obtain⟨p,hp⟩:=List.dropWhile_suffix Sl.ar (l:=l);have key:∀ {s:List UInt8} {x:List Val},Sl.sign s (l.dropWhile Sl.ar)=some x→∃ p,l=p++x.dropWhile Sl.ar:=fun {s x} h=>by
  obtain⟨v,e,_⟩:=Sl.gK h;obtain⟨q,hq⟩:=List.dropWhile_suffix Sl.ar (l:=x);exact⟨p++(v::q),by rw[←hp,e,List.append_assoc,List.cons_append,hq]⟩
 unfold Sl.mB;simp only;cases h1:Sl.sign [62] (l.dropWhile Sl.ar) with
 | some x=>exact key h1
 | none =>
  cases h2:Sl.sign [43] (l.dropWhile Sl.ar) with
  | some x=>exact key h2
  | none =>
   cases h3:Sl.sign [126] (l.dropWhile Sl.ar) with
   | some x=>exact key h3
   | none =>
    simp only;split
    ·exact⟨p,hp.symm⟩
    ·exact⟨p,hp.symm⟩
theorem CE:∀ (n:Nat) (l:List Val) (cb:Int) (e:Nat) (ps:List Prt),ps.length+n=16→Ne.size l≤60000000→TSh l→(e=50∨ps=[]) →
  Ends (exL K 47 cxplp (cxpH l cb e ps)) fun o S=>match Sl.cpxP n cb ps l with
   | some (c,r)=>zx c.parts c.pseudo r o S
   | none=>∃ m,o=.pan ey∧S.bx 100000=some (rdB m)
 | 0,l,cb,e,ps,h,hsz,hts,he=>aW (Rf l cb e ps (by omega)) fun o S q=>⟨l,q⟩
 | n+1,l,cb,e,ps,h,hsz,hts,he=>by
  have hl:l.length≤60000000:=Nat.le_trans (Ne.bD l) hsz
  have hc:=Kl l hsz hts
  rw[Sl.cpxP];cases hp:Sl.pJ (l.length+1) [] l with
  | none =>
   rw[hp] at hc;obtain⟨m,hc⟩:=gh hc;exact aW (RI l m cb e ps (by omega) hc) fun o S q=>⟨m,q⟩
  | some y =>
   obtain⟨⟨ls,s⟩,r⟩:=y;rw[hp] at hc;have hc:=eO hc
   obtain⟨p,hpl⟩:=Ab _ _ _ _ _ hp;simp only;by_cases hs:s=[]
   ·subst hs;rw[if_neg (by simp)]
    have hrl:r.length≤l.length:=by rw[hpl,List.length_append];omega
    have hk:=Mi r (by omega)
    by_cases h0:(Sl.mB r).1=0
    ·rw[if_pos h0];rw[h0] at hk;exact QX l r _ cb e ps (by omega) he ls hc hk
    ·rw[if_neg h0,Qj l r _ cb _ e ps (by omega) he ls hc hk h0]
     obtain⟨q,hq⟩:=KD r;have hsz2:Ne.size (Sl.mB r).2≤Ne.size l:=by
      have e1:Ne.size l=Ne.size p+Ne.size r:=by rw[hpl,nw]
      have e2:Ne.size r=Ne.size q+Ne.size (Sl.mB r).2:=by rw[←nw,←hq]
      omega
     exact CE n _ _ _ _ (by rw[List.length_append,List.length_singleton];omega) (by omega) (sU hts fun v hv=>by
      rw[hpl,List.mem_append]
      right
      rw[hq,List.mem_append];exact .inr hv) (.inl rfl)
   ·rw[if_pos hs];exact QH l r cb e ps (by omega) he ls s hs hc
theorem TC (l:List Val)(hsz:Ne.size l≤60000000)(hts:TSh l):jw cpxE (Sl.cpxP 16 0 [] l) (den K 47 [P0] [rdB l]):=by
 have hr:Tryz.f47.results=#[.cell 2 47]:=rfl
 have h:=CE 16 l 0 0 [] rfl hsz hts (.inr rfl)
 unfold cxplp at h
 conv at h in ap _ _=>whnf
 obtain⟨o,S,w,hq⟩:=h;have e0:encQ []=[]:=rfl
 simp only[cxpH,rdB,e0] at w
 cases hc:Sl.cpxP 16 0 [] l with
 | none =>
  rw[hc] at hq;obtain⟨m,rfl,q1⟩:=hq;refine⟨m,?_⟩
  simp only[rdB] at q1 ⊢
  refine ai rfl rfl Tryz.func47 rfl Tryz.ntmps47 ⟨by simp,by simp[LK]⟩ ?_
  simp only[go_sem,reduceLT,reduceEqDiff,Nat.reduceBEq,reduceSub,reduceLeDiff];rw[au];simp only[go_sem,reduceCtorEq,reduceEqDiff,Nat.reduceBEq,reduceSub,reduceLeDiff];erw [w];simp only[go_sem,hr,q1]
 | some y =>
  obtain⟨c,r⟩:=y;rw[hc] at hq;unfold zx at hq;obtain⟨rfl,q1,q2,q3,q4⟩:=hq
  show den K 47 [P0] [rdB l]=some (.ret (cpxE c) [rdB r])
  simp only[rdB,cpxE] at q4 ⊢
  refine ai rfl rfl Tryz.func47 rfl Tryz.ntmps47 ⟨by simp,by simp[LK]⟩ ?_
  simp only[go_sem,reduceLT,reduceEqDiff,Nat.reduceBEq,reduceSub,reduceLeDiff];rw[au];simp only[go_sem,reduceCtorEq,reduceEqDiff,Nat.reduceBEq,reduceSub,reduceLeDiff];erw [w];simp only[go_sem,reduceAdd,hr,q2,q3,q4]
theorem HN {deep:Int}{l:List Tok}{vs:List Val}(h1:1≤deep)(h2:deep≤60)(h:Ne.parse deep.toNat l=some vs):nZ deep l=.tup [.c (.pv (.sl (encL vs))),.c (.pv (.int .i64 0))]:=by
 unfold nZ;rw[if_neg (by omega)]
 unfold Ne.parse at h;cases hu:Ne.dT 0 deep.toNat l with
 | some x=>rw[hu] at h;cases h;rfl
 | none=>rw[hu] at h;cases h
theorem Gj {deep:Int}{l:List Tok}(h1:1≤deep)(h2:deep≤60)(h:Ne.parse deep.toNat l=none):nZ deep l=.tup [.c (.pv (.sl [])),.c (.pv (.int .i64 20))]:=by
 unfold nZ;rw[if_neg (by omega)]
 unfold Ne.parse at h;cases hu:Ne.dT 0 deep.toNat l with
 | some x=>rw[hu] at h;cases h
 | none=>rfl
attribute [local go_sem] SN Te TH
def Hc (s:List UInt8):AV:=match Sl.OV s with
 | some a=>.tup [.c (.pv (.sl (encL a))),.c (.pv (.int .i64 0))]
 | none=>.tup [.c (.pv (.sl [])),.c (.pv (.int .i64 20))]
theorem Mh (s:List UInt8)(hs:s.length<4000000000)(hal:(Tk.all s).length≤1000000):den K 49 [T s] []=some (.ret (Hc s) []):=by
 have h1:=Rz s hs
 have h2:=KZ (Tk.all s) (by omega) 60
 unfold Hc Sl.OV;refine ai rfl rfl Tryz.func49 rfl Tryz.ntmps49 ⟨by simp,by simp[LK]⟩ ?_
 have hr:Tryz.f49.results=#[.tmp 2,.tmp 3]:=rfl
 cases hp:Ne.parse 60 (Tk.all s) with
 | none =>
  rw[Gj (deep:=60) (by decide) (by decide) hp] at h2
  have h3:=lD [] (by simp)
  have e0:encL []=[]:=rfl
  have e1:Sl.trim []=[]:=rfl
  rw[e1,e0] at h3;simp only[go_sem,reduceLT,reduceCtorEq,reduceEqDiff,Nat.reduceBEq,reduceAdd,hr,h1,h2,h3,Option.map_none,TV.flat]
 | some vs =>
  rw[HN (deep:=60) (by decide) (by decide) hp] at h2
  obtain⟨_,_,hsz,_⟩:=Ne.lS hp;have hl:=Ne.bD vs
  have h3:=lD vs (by omega)
  simp only[go_sem,reduceLT,reduceCtorEq,reduceEqDiff,Nat.reduceBEq,reduceAdd,hr,h1,h2,h3,Option.map_some,TV.flat]
attribute [local go_sem] Ko ee fK AL nK uU SU Tm SS
theorem Ct {m m2:List Val}{out:List Cpx}{e:Nat}{c:Cpx}(he:e=47∨out=[])(ho:out.length≤1000)(h:den K 47 [P0] [rdB m]=some (.ret (cpxE c) [rdB m2])) :
  den K 46 [P0,P1] [rdB m,[.own e (encC out)]]=some (.ret (.tup []) [rdB m2,[.own 47 (encC (out++[c]))]]):=by
 rw[nh (K:=K) (F:=parse1P) rfl rfl];have h1:e=47∨(encC out).isEmpty=true:=by
  rcases he with rfl|rfl
  ·exact .inl rfl
  ·exact .inr rfl
 have h2:(encC out).length+1<bS:=by rw[List.length_map];unfold bS;omega
 have h:=h
 simp only[cpxE] at h;unfold parse1P;simp only[and_self,if_true,Plan.run,h];rw[if_pos ⟨h1,yR out,h2⟩];simp only[Plan.run,Fe]
theorem Dw {m m2:List Val}{out:List Cpx}{e:Nat}(h:den K 47 [P0] [rdB m]=some (.pan ey [rdB m2])) :
  den K 46 [P0,P1] [rdB m,[.own e (encC out)]]=some (.pan ey [rdB m2,[.top]]):=by
 rw[nh (K:=K) (F:=parse1P) rfl rfl];unfold parse1P;simp only[and_self,if_true,Plan.run,h]
abbrev prpH (parts:List (List Val))(i e:Nat)(out:List Cpx):St :=
  { sl:=upd (upd (upd (upd bot 11 (I i)) 10 (I parts.length)) 9 (L (encP parts))) 4 (.c (.loc 4 0)),bx:=upd nobox 4 (some [.own e (encC out)]),nt:=27 }
noncomputable def prplp:Code:=.loop (ap Tryz.f17 3)
theorem SF (parts:List (List Val))(e:Nat)(out:List Cpx) :
  Ends (exL K 17 prplp (prpH parts parts.length e out)) fun o S=>o=.exit 0∧S.nt=27∧S.sl 4=.c (.loc 4 0)∧S.bx 4=some [.own e (encC out)]:=by
 have hlt:decide ((parts.length:Int)<(parts.length:Int))=false:=decide_eq_false (by omega)
 unfold prplp
 conv in ap _ _=>whnf
 rw[aq];simp only[go_sem,reduceLT,reduceEqDiff,Nat.reduceBEq,aw]
theorem Sw (parts:List (List Val))(i e:Nat)(out:List Cpx)(p:List Val)(hi:parts[i]? = some p)(hpl:parts.length≤200000000)(b:List CV)(hb:∃ v:CV,b=[v])
  (hw:den K 37 [L (encL p),.c (.fn 46 [(100000,0)])] [[.own e (encC out)]]=some (.ret (I 40) [b])) :
  Ends (exL K 17 prplp (prpH parts i e out)) fun o S=>o=.ret∧S.sl 2=.c .nils∧S.sl 3=I 40:=by
 have hil:i<parts.length:=(List.getElem?_eq_some_iff.1 hi).1
 have hlt:decide ((i:Int)<(parts.length:Int))=true:=decide_eq_true (by omega)
 have hget:(encP parts)[(i:Int).toNat]? = some [.sl (encL p)]:=by simp[hi]
 obtain⟨v,rfl⟩:=hb;unfold prplp
 conv in ap _ _=>whnf
 rw[aq];simp only[go_sem,reduceLT,reduceEqDiff,Nat.reduceBEq,reduceAdd,aj cv,hlt,hget,Int.natCast_nonneg,hw,jZ,locs,lw,aw,Int.reduceBNe]
theorem Qa (parts:List (List Val))(i e e':Nat)(out out':List Cpx)(p:List Val)(hi:parts[i]? = some p)(hpl:parts.length≤200000000)(ho:32<out'.length)
  (hw:den K 37 [L (encL p),.c (.fn 46 [(100000,0)])] [[.own e (encC out)]]=some (.ret (I 0) [[.own e' (encC out')]])) :
  Ends (exL K 17 prplp (prpH parts i e out)) fun o S=>o=.ret∧S.sl 2=.c .nils∧S.sl 3=I 40:=by
 have hil:i<parts.length:=(List.getElem?_eq_some_iff.1 hi).1
 have hlt:decide ((i:Int)<(parts.length:Int))=true:=decide_eq_true (by omega)
 have h32:decide ((32:Int)<(out'.length:Int))=true:=decide_eq_true (by omega)
 have hget:(encP parts)[(i:Int).toNat]? = some [.sl (encL p)]:=by simp[hi]
 unfold prplp
 conv in ap _ _=>whnf
 rw[aq];simp only[go_sem,reduceLT,reduceEqDiff,Nat.reduceBEq,reduceAdd,aj cv,af aL,hlt,hget,Int.natCast_nonneg,hw,h32,jZ,locs,lw,aw,bne_self_eq_false]
theorem Ny (parts:List (List Val))(i e e':Nat)(out out':List Cpx)(p:List Val)(hi:parts[i]? = some p)(hpl:parts.length≤200000000)(ho:¬ 32<out'.length)
  (hw:den K 37 [L (encL p),.c (.fn 46 [(100000,0)])] [[.own e (encC out)]]=some (.ret (I 0) [[.own e' (encC out')]])) :
  exL K 17 prplp (prpH parts i e out)=exL K 17 prplp (prpH parts (i+1) e' out'):=by
 have hil:i<parts.length:=(List.getElem?_eq_some_iff.1 hi).1
 have hlt:decide ((i:Int)<(parts.length:Int))=true:=decide_eq_true (by omega)
 have h32:decide ((32:Int)<(out'.length:Int))=false:=decide_eq_false (by omega)
 have hget:(encP parts)[(i:Int).toNat]? = some [.sl (encL p)]:=by simp[hi]
 have hws:IntKind.i64.wrap ((i:Int)+1)=((i+1:Nat):Int):=aX i (by omega)
 unfold prplp
 conv in ap _ _=>whnf
 conv in ap _ _=>whnf
 conv in exL _ _ _ (prpH parts i e out)=>rw[aq]
 simp only[go_sem,reduceLT,reduceEqDiff,Nat.reduceBEq,reduceAdd,aj cv,af aL,hlt,hget,Int.natCast_nonneg,hw,h32,hws,jZ,locs,lw,bne_self_eq_false];rw[au];simp only[go_sem,reduceEqDiff]
theorem BI (e:Nat)(c:List (List PV))(f:Nat→Option Nat):([CV.own e c]).map (CV.ren f)=[CV.own e c]:=rfl
theorem TT (f:Nat→Option Nat):([CV.top]).map (CV.ren f)=[CV.top]:=rfl
theorem FO (p:List Val)(e:Nat)(out:List Cpx)(hsz:Ne.size p≤60000000)(hts:TSh p)(hc:Sl.gq [44] p=false)(he:e=47∨out=[])(ho:out.length≤1000):match Sl.cpx 16 0 (Sl.trim p) with
  | some c=>den K 37 [L (encL p),.c (.fn 46 [(100000,0)])] [[.own e (encC out)]]=some (.ret (I 0) [[.own 47 (encC (out++[c]))]])
  | none=>∃ v:CV,den K 37 [L (encL p),.c (.fn 46 [(100000,0)])] [[.own e (encC out)]]=some (.ret (I 40) [[v]]):=by
 have hl:p.length≤60000000:=Nat.le_trans (Ne.bD p) hsz
 have hg:goods.contains 46=true:=by kernel_rfl
 have hx:=TC (Sl.trim p) (Nat.le_trans (jF p) hsz) (mq hts)
 rw[←Sl.Ly hc];unfold Sl.ic;cases hp:Sl.cpxP 16 0 [] (Sl.trim p) with
 | none =>
  rw[hp] at hx;obtain⟨m,hx⟩:=gh hx;exact⟨.top,xV hg (by omega) (BI _ _) TT (Dw hx)⟩
 | some y =>
  obtain⟨c,m⟩:=y;rw[hp] at hx;have hw:=wR hg (by omega) (BI _ _) (BI _ _) (Ct he ho (eO hx))
  cases m with
  | nil=>exact hw
  | cons v m=>exact⟨_,hw⟩
theorem Dj (parts:List (List Val))(hpl:parts.length≤200000000)(hp:∀ p∈parts,Ne.size p≤60000000∧TSh p∧Sl.gq [44] p=false):∀ (rest:List (List Val)) (i e:Nat) (out:List Cpx),parts.drop i=rest→i≤parts.length→i≤32→out.length=i→(e=47∨out=[]) →
  Ends (exL K 17 prplp (prpH parts i e out)) fun o S=>match Sl.all_ rest with
   | some cs=>if i+rest.length≤32 then(o=.exit 0∧S.nt=27∧S.sl 4=.c (.loc 4 0)∧∃ e',S.bx 4=some [.own e' (encC (out++cs))]) else(o=.ret∧S.sl 2=.c .nils∧S.sl 3=I 40)
   | none=>o=.ret∧S.sl 2=.c .nils∧S.sl 3=I 40
 | [],i,e,out,hd,hi,h32,ho,he=>by
  have hin:i=parts.length:=by
   have:=List.drop_eq_nil_iff.1 hd
   omega
  subst hin;refine aW (SF parts e out) fun o S q => ?_
  rw[Sl.all_nil];simp only;rw[if_pos (by simpa using h32)]
  exact⟨q.1,q.2.1,q.2.2.1,e,by rw[List.append_nil];exact q.2.2.2⟩
 | p::rest,i,e,out,hd,hi,h32,ho,he=>by
  obtain⟨g1,g2,g3⟩:=bH hd;obtain⟨k1,k2,k3⟩:=hp p (List.mem_of_getElem? g1)
  have hw:=FO p e out k1 k2 k3 he (by omega)
  rw[Sl.all_cons];cases hc:Sl.cpx 16 0 (Sl.trim p) with
  | none =>
   rw[hc] at hw;obtain⟨v,hw⟩:=hw;exact Sw parts i e out p g1 hpl [v] ⟨v,rfl⟩ hw
  | some c =>
   rw[hc] at hw;simp only at hw;by_cases h:i<32
   ·rw[Ny parts i e _ out _ p g1 hpl (by rw[List.length_append,List.length_singleton];omega) hw]
    refine aW (Dj parts hpl hp rest (i+1) _ (out++[c]) g2 (by omega) (by omega) (by rw[List.length_append,List.length_singleton];omega) (.inl rfl)) fun o S q => ?_
    cases hr:Sl.all_ rest with
    | none=>rw[hr] at q;exact q
    | some cs =>
     rw[hr] at q
     simp only at q ⊢
     rw[List.length_cons];by_cases h2:i+1+rest.length≤32
     ·rw[if_pos h2] at q
      rw[if_pos (by omega)]
      obtain⟨q1,q2,q3,e',q4⟩:=q;exact⟨q1,q2,q3,e',by rw[q4,List.append_assoc];rfl⟩
     ·rw[if_neg h2] at q
      rw[if_neg (by omega)]
      exact q
   ·refine aW (Qa parts i e _ out _ p g1 hpl (by rw[List.length_append,List.length_singleton];omega) hw) fun o S q => ?_
    cases hr:Sl.all_ rest with
    | none=>exact q
    | some cs =>
     simp only;rw[List.length_cons,if_neg (by omega)]
     exact q
theorem GD (l:List Val)(hsz:Ne.size l≤60000000)(hts:TSh l):den K 17 [L (encL l)] []=some (.ret (ky (Sl.parse l)) []):=by
 have hr:Tryz.f17.results=#[.tmp 2,.tmp 3]:=rfl
 have hat:=SB l [44] (by omega)
 have hal:=Li [44] l
 have hll:=Ne.bD l
 have hpl:(Sl.at_ [44] l).length≤200000000:=by omega
 have h:=Dj (Sl.at_ [44] l) hpl (fun p hp=>⟨Nat.le_trans (On [44] l p hp) hsz,sU hts (Sl.rj [44] l p hp).1,(Sl.rj [44] l p hp).2⟩) _ 0 0 [] rfl (Nat.zero_le _) (by omega) rfl (.inr rfl)
 rw[List.drop_zero] at h;unfold prplp at h
 conv at h in ap _ _=>whnf
 obtain⟨o,S,w,hq⟩:=h;have z0:((0:Nat):Int)=0:=rfl
 have e0:encC []=[]:=rfl
 simp only[prpH,z0,e0] at w
 have err:o=.ret∧S.sl 2=.c .nils∧S.sl 3=I 40→den K 17 [L (encL l)] []=some (.ret (ky none) []):=by
  rintro ⟨rfl,q1,q2⟩
  unfold ky;refine ai rfl rfl Tryz.func17 rfl Tryz.ntmps17 ⟨by simp,by simp[LK]⟩ ?_
  simp only[go_sem,reduceLT,reduceCtorEq,reduceEqDiff,Nat.reduceBEq,reduceAdd,reduceSub,reduceLeDiff,af cv,hat,lL];rw[au];simp only[go_sem,reduceEqDiff,reduceSub,reduceLeDiff];erw [w];simp only[go_sem,hr,q1,q2]
 unfold Sl.parse;cases hx:Sl.all_ (Sl.at_ [44] l) with
 | none =>
  rw[hx] at hq;rw[ite_self];exact err hq
 | some cs =>
  rw[hx] at hq;simp only[Nat.zero_add] at hq;by_cases h32:(Sl.at_ [44] l).length≤32
  ·rw[if_pos h32] at hq ⊢;obtain⟨rfl,q1,q2,e',q3⟩:=hq;rw[List.nil_append] at q3
   unfold ky;refine ai rfl rfl Tryz.func17 rfl Tryz.ntmps17 ⟨by simp,by simp[LK]⟩ ?_
   simp only[go_sem,reduceLT,reduceCtorEq,reduceEqDiff,Nat.reduceBEq,reduceAdd,reduceSub,reduceLeDiff,af cv,hat,lL];rw[au];simp only[go_sem,reduceEqDiff,reduceSub,reduceLeDiff];erw [w];simp only[go_sem,reduceLT,reduceEqDiff,Nat.reduceBEq,reduceAdd,hr,q1,q2,q3]
  ·rw[if_neg h32] at hq ⊢;exact err hq
theorem Dm (s:List UInt8)(hs:s.length≤500000):den K 19 [T s] []=some (.ret (ky (Sl.read s)) []):=by
 have hr:Tryz.f19.results=#[.tmp 2,.tmp 3]:=rfl
 have hc:=tg s
 have h1:=Mh s (by omega) (by omega)
 unfold Sl.read;unfold Hc Sl.OV at h1;cases hx:Ne.parse 60 (Tk.all s) with
 | none =>
  rw[hx] at h1;unfold ky;simp only[Option.map_none,Option.bind_none] at h1 ⊢;refine ai rfl rfl Tryz.func19 rfl Tryz.ntmps19 ⟨by simp,by simp[LK]⟩ ?_
  simp only[go_sem,reduceLT,reduceCtorEq,reduceEqDiff,Nat.reduceBEq,reduceAdd,hr,h1,TV.flat,Int.reduceBNe]
 | some v =>
  have hv:=(Ne.lS hx).2.2.1
  have hts:=Jh hx (Tk.CA s) (by omega)
  have h2:=GD (Sl.trim v) (Nat.le_trans (jF v) (by omega)) (mq hts)
  rw[hx] at h1;simp only[Option.map_some,Option.bind_some] at h1 ⊢;unfold ky at h2 ⊢;cases hy:Sl.parse (Sl.trim v) with
  | none =>
   rw[hy] at h2;simp only at h2 ⊢;refine ai rfl rfl Tryz.func19 rfl Tryz.ntmps19 ⟨by simp,by simp[LK]⟩ ?_
   simp only[go_sem,reduceLT,reduceCtorEq,reduceEqDiff,Nat.reduceBEq,reduceAdd,hr,h1,h2,TV.flat,Int.reduceBNe]
  | some cs =>
   rw[hy] at h2;simp only at h2 ⊢;refine ai rfl rfl Tryz.func19 rfl Tryz.ntmps19 ⟨by simp,by simp[LK]⟩ ?_
   simp only[go_sem,reduceLT,reduceCtorEq,reduceEqDiff,Nat.reduceBEq,reduceAdd,hr,h1,h2,TV.flat,Int.reduceBNe]
attribute [local go_sem] qC jd dz cy bK fc cj eF fQ fS uk sI
theorem az (k a b:Int)(n v:List UInt8):den K 103 [.agg [.pv (.int .i64 k),.pv (.str n),.pv (.str v),.pv (.int .i64 a),.pv (.int .i64 b),.nils]] []=some (.ret (.agg [.pv (.int .i64 k),.pv (.str n),.pv (.str v),.pv (.int .i64 a),.pv (.int .i64 b)]) []):=by
 have hr:Tryz.f103.results=#[.cell 2 146]:=rfl
 refine ai rfl rfl Tryz.func103 rfl Tryz.ntmps103 ⟨by simp,by simp[LK]⟩ ?_
 simp only[go_sem,reduceLT,reduceEqDiff,Nat.reduceBEq,reduceAdd,reduceSub,reduceLeDiff,aa jd oC,hr]
theorem su (k:Int)(s:List UInt8)(n:Int)(hn:I64 n)(hs:s.length<1000000000):den K 153 [.agg [.pv (.int .i64 k),.pv (.str s),.pv (.int .i64 n)]] []=some (.ret (B (Tk.may ⟨k,s,n⟩)) []):=NK ⟨k,s,n⟩ hn hs
theorem pV (s:List UInt8)(hs:s.length<1000000000):den K 152 [T s] []=some (.ret (B (Tk.may ⟨1,s,0⟩)) []):=by
 have hr:Tryz.f152.results=#[.tmp 2]:=rfl
 have h:=su 1 s 0 z64 hs
 refine ai rfl rfl Tryz.func152 rfl Tryz.ntmps152 ⟨by simp,by simp[LK]⟩ ?_
 simp only[go_sem,reduceLT,reduceCtorEq,reduceEqDiff,Nat.reduceBEq,reduceAdd,reduceLeDiff,aa ag al,hr,h]
attribute [local go_sem] ab dZ sB pb rX fL rP gO ib fI oQ
theorem VA (n v:List UInt8)(a b:Int)(lc:List (List PV))(Q:Bool)  (hq:eA Tryz.prog 146 [.int .i64 1,.str n,.str v,.int .i64 a,.int .i64 b] [.int .i64 1,.str [],.str [],.int .i64 0,.int .i64 0]=some Q) :
  den K 107 [.agg [.pv (.int .i64 1),.pv (.str n),.pv (.str v),.pv (.int .i64 a),.pv (.int .i64 b),.pv (.sl lc)]] []=some (.ret (B ((true)&&(Q&&((lc.length:Int)==0)))) []):=by
 have hr:Tryz.f107.results=#[.tmp 2]:=rfl
 cases Q
 ·refine ai rfl rfl Tryz.func107 rfl Tryz.ntmps107 ⟨by simp,by simp[LK]⟩ ?_
  simp (maxSteps:=2000000) only[go_sem,reduceLT,reduceEqDiff,Nat.reduceBEq,reduceAdd,reduceSub,reduceLeDiff,aa ab ah,aa ag al,hr,aD,az,Int.reduceBEq,hq]
  all_goals (repeat (first|(rw[bm];rotate_left;(· kernel_rfl))|(first|rw[aY]|rw[aR]|rw[aV];rotate_left;(· kernel_rfl);simp (maxSteps:=2000000) only[go_sem,reduceLT,reduceCtorEq,reduceEqDiff,Nat.reduceBEq,reduceAdd,reduceSub,reduceLeDiff,reduceMul,aa ab ah,aa ag al,af ae,aj ae,hr,e00,i00,aD,az,Int.reduceBEq,hq])))
 ·refine ai rfl rfl Tryz.func107 rfl Tryz.ntmps107 ⟨by simp,by simp[LK]⟩ ?_
  simp (maxSteps:=2000000) only[go_sem,reduceLT,reduceEqDiff,Nat.reduceBEq,reduceAdd,reduceSub,reduceLeDiff,aa ab ah,aa ag al,af ae,aj ae,hr,aD,az,Int.reduceBEq,hq]
  all_goals (repeat (first|(rw[bm];rotate_left;(· kernel_rfl))|(first|rw[aY]|rw[aR]|rw[aV];rotate_left;(· kernel_rfl);simp (maxSteps:=2000000) only[go_sem,reduceLT,reduceCtorEq,reduceEqDiff,Nat.reduceBEq,reduceAdd,reduceSub,reduceLeDiff,reduceMul,aa ab ah,aa ag al,af ae,aj ae,hr,e00,i00,aD,az,Int.reduceBEq,hq])))
theorem UI (n v:List UInt8)(a b:Int)(lc:List (List PV))(Q:Bool)  (hq:eA Tryz.prog 146 [.int .i64 9,.str n,.str v,.int .i64 a,.int .i64 b] [.int .i64 9,.str [],.str [],.int .i64 0,.int .i64 0]=some Q) :
  den K 107 [.agg [.pv (.int .i64 9),.pv (.str n),.pv (.str v),.pv (.int .i64 a),.pv (.int .i64 b),.pv (.sl lc)]] []=some (.ret (B ((true)&&(Q&&((lc.length:Int)==0)))) []):=by
 have hr:Tryz.f107.results=#[.tmp 2]:=rfl
 cases Q
 ·refine ai rfl rfl Tryz.func107 rfl Tryz.ntmps107 ⟨by simp,by simp[LK]⟩ ?_
  simp (maxSteps:=2000000) only[go_sem,reduceLT,reduceEqDiff,Nat.reduceBEq,reduceAdd,reduceSub,reduceLeDiff,aa ab ah,aa ag al,hr,aD,az,Int.reduceBEq,hq]
  all_goals (repeat (first|(rw[bm];rotate_left;(· kernel_rfl))|(first|rw[aY]|rw[aR]|rw[aV];rotate_left;(· kernel_rfl);simp (maxSteps:=2000000) only[go_sem,reduceLT,reduceCtorEq,reduceEqDiff,Nat.reduceBEq,reduceAdd,reduceSub,reduceLeDiff,reduceMul,aa ab ah,aa ag al,af ae,aj ae,hr,e00,i00,aD,az,Int.reduceBEq,hq])))
 ·refine ai rfl rfl Tryz.func107 rfl Tryz.ntmps107 ⟨by simp,by simp[LK]⟩ ?_
  simp (maxSteps:=2000000) only[go_sem,reduceLT,reduceEqDiff,Nat.reduceBEq,reduceAdd,reduceSub,reduceLeDiff,aa ab ah,aa ag al,af ae,aj ae,hr,aD,az,Int.reduceBEq,hq]
  all_goals (repeat (first|(rw[bm];rotate_left;(· kernel_rfl))|(first|rw[aY]|rw[aR]|rw[aV];rotate_left;(· kernel_rfl);simp (maxSteps:=2000000) only[go_sem,reduceLT,reduceCtorEq,reduceEqDiff,Nat.reduceBEq,reduceAdd,reduceSub,reduceLeDiff,reduceMul,aa ab ah,aa ag al,af ae,aj ae,hr,e00,i00,aD,az,Int.reduceBEq,hq])))
theorem So (n v:List UInt8)(a b:Int)(lc:List (List PV))(Q:Bool)  (hq:eA Tryz.prog 146 [.int .i64 10,.str n,.str v,.int .i64 a,.int .i64 b] [.int .i64 10,.str [],.str [],.int .i64 0,.int .i64 0]=some Q) :
  den K 107 [.agg [.pv (.int .i64 10),.pv (.str n),.pv (.str v),.pv (.int .i64 a),.pv (.int .i64 b),.pv (.sl lc)]] []=some (.ret (B ((true)&&(Q&&((lc.length:Int)==0)))) []):=by
 have hr:Tryz.f107.results=#[.tmp 2]:=rfl
 cases Q
 ·refine ai rfl rfl Tryz.func107 rfl Tryz.ntmps107 ⟨by simp,by simp[LK]⟩ ?_
  simp (maxSteps:=2000000) only[go_sem,reduceLT,reduceEqDiff,Nat.reduceBEq,reduceAdd,reduceSub,reduceLeDiff,aa ab ah,aa ag al,hr,aD,az,Int.reduceBEq,hq]
  all_goals (repeat (first|(rw[bm];rotate_left;(· kernel_rfl))|(first|rw[aY]|rw[aR]|rw[aV];rotate_left;(· kernel_rfl);simp (maxSteps:=2000000) only[go_sem,reduceLT,reduceCtorEq,reduceEqDiff,Nat.reduceBEq,reduceAdd,reduceSub,reduceLeDiff,reduceMul,aa ab ah,aa ag al,af ae,aj ae,hr,e00,i00,aD,az,Int.reduceBEq,hq])))
 ·refine ai rfl rfl Tryz.func107 rfl Tryz.ntmps107 ⟨by simp,by simp[LK]⟩ ?_
  simp (maxSteps:=2000000) only[go_sem,reduceLT,reduceEqDiff,Nat.reduceBEq,reduceAdd,reduceSub,reduceLeDiff,aa ab ah,aa ag al,af ae,aj ae,hr,aD,az,Int.reduceBEq,hq]
  all_goals (repeat (first|(rw[bm];rotate_left;(· kernel_rfl))|(first|rw[aY]|rw[aR]|rw[aV];rotate_left;(· kernel_rfl);simp (maxSteps:=2000000) only[go_sem,reduceLT,reduceCtorEq,reduceEqDiff,Nat.reduceBEq,reduceAdd,reduceSub,reduceLeDiff,reduceMul,aa ab ah,aa ag al,af ae,aj ae,hr,e00,i00,aD,az,Int.reduceBEq,hq])))
theorem UC (n v:List UInt8)(a b:Int)(lc:List (List PV))(Q:Bool)(hn:n.length<1000000000)(hq:eA Tryz.prog 146 [.int .i64 2,.str n,.str v,.int .i64 a,.int .i64 b] [.int .i64 2,.str n,.str [],.int .i64 0,.int .i64 0]=some Q) :
  den K 107 [.agg [.pv (.int .i64 2),.pv (.str n),.pv (.str v),.pv (.int .i64 a),.pv (.int .i64 b),.pv (.sl lc)]] []=some (.ret (B ((Tk.may ⟨1,n,0⟩&&Sl.low n==n)&&(Q&&((lc.length:Int)==0)))) []):=by
 have hr:Tryz.f107.results=#[.tmp 2]:=rfl
 have h1:=pV n hn
 have h2:=Jt n hn
 cases q1:Tk.may ⟨1,n,0⟩
 ·rw[q1] at h1;refine ai rfl rfl Tryz.func107 rfl Tryz.ntmps107 ⟨by simp,by simp[LK]⟩ ?_
  simp (maxSteps:=2000000) only[go_sem,reduceLT,reduceEqDiff,Nat.reduceBEq,reduceAdd,reduceSub,reduceLeDiff,aa ab ah,aa ag al,af ae,aj ae,hr,aD,az,Int.reduceBEq,h1]
  all_goals (repeat (first|(rw[bm];rotate_left;(· kernel_rfl))|(first|rw[aY]|rw[aR]|rw[aV];rotate_left;(· kernel_rfl);simp (maxSteps:=2000000) only[go_sem,reduceLT,reduceCtorEq,reduceEqDiff,Nat.reduceBEq,reduceAdd,reduceSub,reduceLeDiff,reduceMul,aa ab ah,aa ag al,af ae,aj ae,hr,e00,i00,aD,az,Int.reduceBEq,h1])))
 ·rw[q1] at h1;cases q2:(Sl.low n==n)
  ·refine ai rfl rfl Tryz.func107 rfl Tryz.ntmps107 ⟨by simp,by simp[LK]⟩ ?_
   simp (maxSteps:=2000000) only[go_sem,reduceLT,reduceEqDiff,Nat.reduceBEq,reduceAdd,reduceSub,reduceLeDiff,aa ab ah,aa ag al,af ae,aj ae,hr,aD,az,Int.reduceBEq,h1,h2,q2]
   all_goals (repeat (first|(rw[bm];rotate_left;(· kernel_rfl))|(first|rw[aY]|rw[aR]|rw[aV];rotate_left;(· kernel_rfl);simp (maxSteps:=2000000) only[go_sem,reduceLT,reduceCtorEq,reduceEqDiff,Nat.reduceBEq,reduceAdd,reduceSub,reduceLeDiff,reduceMul,aa ab ah,aa ag al,af ae,aj ae,hr,e00,i00,aD,az,Int.reduceBEq,h1,h2,q2])))
  ·cases Q
   ·refine ai rfl rfl Tryz.func107 rfl Tryz.ntmps107 ⟨by simp,by simp[LK]⟩ ?_
    simp (maxSteps:=2000000) only[go_sem,reduceLT,reduceEqDiff,Nat.reduceBEq,reduceAdd,reduceSub,reduceLeDiff,aa ab ah,aa ag al,af ae,aj ae,hr,aD,az,Int.reduceBEq,hq,h1,h2,q2]
    all_goals (repeat (first|(rw[bm];rotate_left;(· kernel_rfl))|(first|rw[aY]|rw[aR]|rw[aV];rotate_left;(· kernel_rfl);simp (maxSteps:=2000000) only[go_sem,reduceLT,reduceCtorEq,reduceEqDiff,Nat.reduceBEq,reduceAdd,reduceSub,reduceLeDiff,reduceMul,aa ab ah,aa ag al,af ae,aj ae,hr,e00,i00,aD,az,Int.reduceBEq,hq,h1,h2,q2])))
   ·refine ai rfl rfl Tryz.func107 rfl Tryz.ntmps107 ⟨by simp,by simp[LK]⟩ ?_
    simp (maxSteps:=2000000) only[go_sem,reduceLT,reduceEqDiff,Nat.reduceBEq,reduceAdd,reduceSub,reduceLeDiff,aa ab ah,aa ag al,af ae,aj ae,hr,aD,az,Int.reduceBEq,hq,h1,h2,q2]
    all_goals (repeat (first|(rw[bm];rotate_left;(· kernel_rfl))|(first|rw[aY]|rw[aR]|rw[aV];rotate_left;(· kernel_rfl);simp (maxSteps:=2000000) only[go_sem,reduceLT,reduceCtorEq,reduceEqDiff,Nat.reduceBEq,reduceAdd,reduceSub,reduceLeDiff,reduceMul,aa ab ah,aa ag al,af ae,aj ae,hr,e00,i00,aD,az,Int.reduceBEq,hq,h1,h2,q2])))
end Go.Abs
