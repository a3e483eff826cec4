/-
  WHAT THE DOCUMENT'S ANSWER COMPUTES, layer 1: the tokens of a text; whether tokens may be.
  (And 8 texts more.)
-/
import Derived.Test.YtlomcifkckgneaaGreatDoorRt17
import Derived.Test.YtlomcifkckgneaaGreatDoorRt19
import Derived.Test.YtlomcifkckgneaaGreatDoorRt20
set_option maxHeartbeats 8000000
open Nat (reduceEqDiff reduceAdd reduceLT reduceLeDiff reduceSub reduceMul)
set_option linter.unusedSimpArgs false
set_option linter.unusedVariables false
namespace Go.Abs
open Go Go.Proofs
set_option maxRecDepth 10000
attribute [local go_sem] c7 bF cD bW bZ db cJ cE a7 ck ce cF c8 bS opd avOf cvOf St.degAt St.put okPV d6 okAV du dv dt cU aM if_true Bool.false_eq_true if_false Option.map_some Option.map_none Option.bind_some Option.bind_none dY dV upd List.toList_toArray cR steal bz mvB dE cV cT AV.deg CV.deg AV.gv AV.isIter cN cI bU List.length_nil List.length_cons List.filterMap_cons List.filterMap_nil beq_iff_eq List.getElem?_cons_zero List.getElem?_cons_succ Option.getD_some d8 eV Bool.false_and Bool.and_false Bool.and_self K_P fq co cO bw lend back idx dedup AV.ren CV.ren TV.ren AV.ptrs CV.ptrs cX AV.flat CV.flat cz cg bc c9 dk eo cj aY cm bt bH cf br eF CV.pv? content bA ownT bd reps pvs chunks cd leave eB cK dr bT bv TV.deg TV.av LK CV.plain CV.noBld c5 eA bound List.map_cons List.map_nil List.all_cons List.all_nil List.any_cons List.any_nil List.contains_cons List.contains_nil List.elem_cons List.elem_nil List.cons_append List.nil_append List.append_nil List.flatMap_cons List.flatMap_nil List.zip_cons_cons List.zip_nil_left List.zip_nil_right List.take_succ_cons List.take_zero List.take_nil List.drop_succ_cons List.drop_zero List.drop_nil List.isEmpty_nil List.isEmpty_cons Bool.and_true Bool.true_and Bool.or_true Bool.true_or Bool.or_false Bool.false_or Bool.not_true Bool.not_false Nat.add_zero Nat.zero_add Option.isNone_none Option.isNone_some Option.getD_none true_and and_true not_true_eq_false not_false_eq_true decide_true decide_false Nat.le_refl and_self Bool.not_eq_true Nat.sub_self or_true true_or Option.some.injEq List.length_map List.nil_eq and_false false_and AV.live CV.live CV.liveIn dU bg Option.orElse_some Option.orElse_none head bm bh Int.lt_irrefl List.length_append ite_self dZ cA dc bC Key.clash Key.sees Key.writes Nat.lt_irrefl gt_iff_lt cH dH false_or or_false beq_self_eq_true Bool.true_beq Bool.false_beq Ft JT ai aZ dA cB bG bo FU Js
abbrev Iy (s:List UInt8) (i:Nat) (ys:List Tok):St := { sl:=upd (upd (upd bot 4 (I i)) 3 (.c (.own 91 (ys.map Tok.enc)))) 0 (T s),bx:=nobox,nt:=27 }
theorem Jn {t:Tok} (h:Tk.Good t):(t.kind != 0)=true:=by
 rw[bne_iff_ne];cases h<;>simp
theorem Fo (s:List UInt8) (hs:s.length<4000000000):∀ (l:List UInt8) (i:Nat) (ys:List Tok),s.drop i=l→i≤s.length→ys.length+l.length<4000000000 →
  Ends (exL K 33 (.loop (ap Tryz.f33 3)) (Iy s i ys)) fun o S=>o=.exit 0∧S.nt=27∧S.sl 3=.c (.own 91 ((ys++Tk.all l).map Tok.enc)):=by
 refine Tk.rm (Q:=fun l=>∀ (i:Nat) (ys:List Tok),s.drop i=l→i≤s.length→ys.length+l.length<4000000000 →
  Ends (exL K 33 (.loop (ap Tryz.f33 3)) (Iy s i ys)) fun o S=>o=.exit 0∧S.nt=27∧S.sl 3=.c (.own 91 ((ys++Tk.all l).map Tok.enc))) ?_ ?_
 ·intro i ys hd hi _;have hin:i=s.length:=by
   have:=List.drop_eq_nil_iff.1 hd
   omega
  subst hin;rw[Tk.all_nil,List.append_nil]
  conv in ap _ _=>whnf
  rw[aq];simp only[go_sem,reduceLT,reduceCtorEq,reduceEqDiff,Nat.reduceBEq,reduceAdd,aA al,ar]
 ·intro c r ih i ys hd hi hl;obtain⟨g1,g2,g3⟩:=bE hd;have hp:=Tk.kW c r
  have hle:=Tk.wP c r
  have hn:=Di s i c r hs hd
  have hlt:decide ((i:Int)<(s.length:Int))=true:=decide_eq_true (by omega)
  have hlen:(c::r).length=s.length - i:=by rw[←hd,List.length_drop]
  have hdd:s.drop (i+(Tk.step c r).2)=(c::r).drop (Tk.step c r).2:=by rw[←List.drop_drop,hd]
  have hall:=Tk.all_cons c r
  have ih':=ih (i+(Tk.step c r).2)
  simp only[eE,Tok.cells] at hn;cases hst:(Tk.step c r).1 with
  | none =>
   rw[hst] at hn hall;simp only[gi,Option.getD_none] at hn;simp only[Option.toList_none,List.nil_append] at hall;have e0:((0:Int) != 0)=false:=by decide
   have ih2:=ih' ys hdd (by omega) (by rw[List.length_drop];omega)
   rw[←hall] at ih2
   conv at ih2 in ap _ _=>whnf
   conv in ap _ _=>whnf
   rw[aq];simp only[go_sem,reduceLT,reduceCtorEq,reduceEqDiff,Nat.reduceBEq,reduceAdd,reduceMul,aA al,ao (len:=1) aE aZ ai ⟨rfl,by decide,by decide⟩,bB kS,aX aE,hlt,hn,e0,TV.flat]
   rw[au];simp only[go_sem,reduceCtorEq,reduceEqDiff];exact ih2
  | some t =>
   rw[hst] at hn hall;simp only[gi,Option.getD_some] at hn;simp only[Option.toList_some,List.cons_append,List.nil_append] at hall;have e0:=Jn (Tk.FE hst)
   have hla:ys.length+1<cw:=by simp[cw];simp only[List.length_cons] at hl;omega
   have ih2:=ih' (ys++[t]) hdd (by omega) (by rw[List.length_append,List.length_drop];simp only[List.length_cons,List.length_nil] at *;omega)
   rw[List.append_assoc,List.cons_append,List.nil_append,←hall] at ih2;have hys:(ys++[t]).map Tok.enc=ys.map Tok.enc++[[.int .i64 t.kind,.str t.text,.int .i64 t.n]]:=by simp[Tok.enc]
   simp only[Iy,hys] at ih2
   conv at ih2 in ap _ _=>whnf
   conv in ap _ _=>whnf
   rw[aq];simp only[go_sem,reduceLT,reduceCtorEq,reduceEqDiff,Nat.reduceBEq,reduceAdd,reduceMul,aA al,ao (len:=1) aE aZ ai ⟨rfl,by decide,by decide⟩,bB kS,aX aE,hlt,hn,e0,TV.flat,hla,jS,xC]
   rw[au];simp only[go_sem,reduceCtorEq,reduceEqDiff];exact ih2
theorem zy (s:List UInt8) (hs:s.length<4000000000):den K 33 [T s] []=some (.ret (L ((Tk.all s).map Tok.enc)) []):=by
 refine ah rfl rfl Tryz.func33 rfl Tryz.ntmps33 ⟨by simp,by simp[LK]⟩ ?_
 have hr:Tryz.f33.results=#[.tmp 2]:=rfl
 have hl:=Fo s hs s 0 [] rfl (Nat.zero_le _) (by simp;omega)
 conv at hl in ap _ _=>whnf
 obtain⟨o,S',e2,rfl,hn,h3⟩:=hl;simp only[List.nil_append] at h3;simp only[go_sem,reduceLT,reduceEqDiff,Nat.reduceBEq,reduceAdd,ao (len:=0) aE aZ ai ⟨rfl,by decide,by decide⟩]
 rw[au];simp only[go_sem,reduceCtorEq,reduceEqDiff];erw [e2];simp only[go_sem,reduceLT,reduceEqDiff,Nat.reduceBEq,reduceAdd,hr,hn,h3]
theorem Hr (t:Tok) (hn:I64 t.n) (hl:t.text.length<1000000000):den K 153 [.agg t.cells] []=some (.ret (B (Tk.may t)) []):=by
 have h1:=Ie t hn (by omega)
 have hlen:=Ca t hn
 have h2:=zy (oneS t) (by omega)
 have hal:=Tk.m8 (oneS t)
 unfold Tk.may;generalize Tk.all (oneS t)=a at h2 hal;simp only[Tok.cells] at h1 ⊢;refine ah rfl rfl Tryz.func153 rfl Tryz.ntmps153 ⟨by simp,by simp[LK]⟩ ?_
 have hr:Tryz.f153.results=#[.tmp 2]:=rfl
 match a with
 | [] =>
  have e:((0:Int)==1)=false:=by decide
  have e2:decide (([]:List Tok)=[t])=false:=by simp
  rw[e2];simp[go_sem,reduceLT,reduceEqDiff,Nat.reduceBEq,reduceAdd,af aE,h1,h2]
 | [y] =>
  have heq:=mH y.kind t.kind y.n t.n y.text t.text
  rw[nA] at heq;have e2:decide ([y]=[t])=decide (y=t):=by simp
  rw[e2];simp only[List.map_cons,List.map_nil,Tok.enc] at h2;have g0:([[PV.int .i64 y.kind,.str y.text,.int .i64 y.n]]:List (List PV))[(0:Int).toNat]? = some [.int .i64 y.kind,.str y.text,.int .i64 y.n]:=rfl
  have e1:(((0+1:Nat):Int)==1)=true:=by decide
  have e1':(((1:Nat):Int)==1)=true:=by decide
  cases hyt:decide (y=t)<;>rw[hyt] at heq<;>simp only[go_sem,reduceLT,reduceEqDiff,Nat.reduceBEq,reduceAdd,reduceSub,reduceLeDiff,af aE,ag aE,hr,h1,h2,g0,heq,Int.le_refl,e1]
 | y::z::l =>
  have e:(((y::z::l).length:Int)==1)=false:=by rw[beq_eq_false_iff_ne];simp only[List.length_cons];omega
  have e2:decide (y::z::l=[t])=false:=by simp
  rw[e2];generalize y::z::l=b at h2 e;simp only[go_sem,reduceLT,reduceEqDiff,Nat.reduceBEq,reduceAdd,reduceSub,reduceLeDiff,af aE,hr,h1,h2,e]
attribute [local go_sem] Cq gN ql kw jQ ju ky dP ff
theorem Jb (l:List Tok) (hl:l.length≤100000000):∀ (m:Nat) (i:Nat),l.length - i≤m→i≤l.length→∀ (kind:Int) (left:Nat),left<1000→∀ (e:Nat) (acc:List Val),acc.length≤i→(e=93∨acc=[]) →
  Ends (exL K 64 ulp2 (u2H l kind left i e acc)) (ULoop2 l kind left i acc):=by
 intro m
 induction m with
 | zero =>
  intro i hm hi kind left hleft e acc hacc he;obtain rfl:i=l.length:=by omega
  refine bu (Gj l kind left e acc) fun o S q => ?_
  unfold ULoop2;rw[List.drop_length,Ne.jM];refine⟨l.length,List.drop_length,Nat.le_refl _,Nat.le_refl _,.inr ?_⟩
  rw[List.append_nil];exact⟨q.1,q.2.1,q.2.2.1,q.2.2.2.1,q.2.2.2.2.1,e,q.2.2.2.2.2⟩
 | succ m ih =>
  intro i hm hi kind left hleft e acc hacc he;by_cases hil:i=l.length
  ·subst hil;refine bu (Gj l kind left e acc) fun o S q => ?_
   unfold ULoop2;rw[List.drop_length,Ne.jM];refine⟨l.length,List.drop_length,Nat.le_refl _,Nat.le_refl _,.inr ?_⟩
   rw[List.append_nil];exact⟨q.1,q.2.1,q.2.2.1,q.2.2.2.1,q.2.2.2.2.1,e,q.2.2.2.2.2⟩
  ·have hlt:i<l.length:=by omega
   have hd:l.drop i=l[i]::l.drop (i+1):=List.drop_eq_getElem_cons hlt
   have hg:l[i]? = some l[i]:=List.getElem?_eq_getElem hlt
   generalize l[i]=t at hd hg;have hu:=Ne.lG kind left t (l.drop (i+1))
   rw[←hd] at hu;cases hb:Ne.ef kind t with
   | true =>
    refine bu (Jd l kind left i e acc t hg hl hb) fun o S q => ?_
    rw[hb,if_pos rfl] at hu;unfold ULoop2;rw[hu];exact⟨i+1,rfl,hlt,by omega,.inl (by rw[List.append_nil];exact q)⟩
   | false =>
    rw[hb,if_neg (by simp)] at hu
    by_cases h0:Ne.opens t=0
    ·rw[if_pos h0] at hu;have hs:=LQ l kind left i e acc t hg hl hb he (by omega) h0
     rw[hs];have hacc2:(acc++[Val.mk 1 t []]).length≤i+1:=by rw[List.length_append,List.length_singleton];omega
     have hmm:l.length - (i+1)≤m:=by omega
     have hi:=ih (i+1) hmm hlt kind left hleft 93 (acc++[.mk 1 t []]) hacc2 (Or.inl rfl)
     refine bu hi fun o S q => ?_
     unfold ULoop2 at q ⊢
     rw[hu];cases hv:Ne.d7 kind left (l.drop (i+1)) with
     | none=>rw[hv] at q;exact q
     | some x =>
      rw[hv] at q
      obtain⟨j,q1,q2,q3,q4⟩:=q;have ha:acc++Val.mk 1 t []::x.1=acc++[Val.mk 1 t []]++x.1:=by simp
      refine⟨j,q1,q2,by omega,?_⟩
      show Ret2 (encL (acc++Val.mk 1 t []::x.1)) _ _ _ _∨_
      rw[ha];exact q4
    ·rw[if_neg h0] at hu;cases left with
     | zero =>
      refine bu (Jj l kind i e acc t hg hl hb h0) fun o S q => ?_
      unfold ULoop2;rw[hu];exact q
     | succ n =>
      have hn:n<1000:=by omega
      have hmm:l.length - (i+1)≤m:=by omega
      have hin:=F5 (ih (i+1) hmm hlt (Ne.opens t) n hn 0 [] (Nat.zero_le _) (Or.inr rfl))
      unfold UDen2 at hin;simp only at hu;cases hv:Ne.d7 (Ne.opens t) n (l.drop (i+1)) with
      | none =>
       rw[hv] at hin hu;obtain⟨a,b,hin⟩:=hin;refine bu (Mf l kind n i e acc t hg hl hn hb h0 a b hin) fun o S q => ?_
       unfold ULoop2;rw[hu];exact q
      | some x =>
       obtain⟨vs,rest⟩:=x;rw[hv] at hin hu;obtain⟨j,q1,q2,q3,hin⟩:=hin;have hs:=MA l kind n i j e acc t vs hg hl hn hb he (by omega) h0 hin
       rw[hs];have hacc2:(acc++[Val.mk (Ne.opens t) (if Ne.opens t=5 then t else Ne.tok0) vs]).length≤j:=by rw[List.length_append,List.length_singleton];omega
       have hmm2:l.length - j≤m:=by omega
       have hi:=ih j hmm2 q2 kind (n+1) hleft 93 (acc++[.mk (Ne.opens t) (if Ne.opens t=5 then t else Ne.tok0) vs]) hacc2 (Or.inl rfl)
       refine bu hi fun o S q => ?_
       unfold ULoop2 at q ⊢
       rw[q1] at q
       simp only at hu;rw[hu];cases hv2:Ne.d7 kind (n+1) rest with
       | none=>rw[hv2] at q;exact q
       | some y =>
        rw[hv2] at q
        obtain⟨j',r1,r2,r3,r4⟩:=q;have ha:acc++Val.mk (Ne.opens t) (if Ne.opens t=5 then t else Ne.tok0) vs::y.1=acc++[Val.mk (Ne.opens t) (if Ne.opens t=5 then t else Ne.tok0) vs]++y.1:=by simp
        refine⟨j',r1,r2,by omega,?_⟩
        show Ret2 (encL (acc++Val.mk (Ne.opens t) (if Ne.opens t=5 then t else Ne.tok0) vs::y.1)) _ _ _ _∨_
        rw[ha];exact r4
theorem B9 (l:List Tok) (hl:l.length≤100000000) (left:Nat) (hleft:left<1000):UDen2 l 0 left 0 :=
 F5 (Jb l hl l.length 0 (by omega) (Nat.zero_le _) 0 left hleft 0 [] (Nat.zero_le _) (Or.inr rfl))
def re (deep:Int) (l:List Tok):AV :=
 if deep<1∨60<deep then .tup [.c .nils,.c (.pv (.int .i64 1))]
 else match Ne.d7 0 deep.toNat l with
  | some x=>.tup [.c (.pv (.sl (encL x.1))),.c (.pv (.int .i64 0))]
  | none=>.tup [.c .nils,.c (.pv (.int .i64 20))]
theorem BP (l:List Tok) (hl:l.length≤100000000) (deep:Int):den K 32 [L (l.map Tok.enc),I deep] []=some (.ret (re deep l) []):=by
 refine ah rfl rfl Tryz.func32 rfl Tryz.ntmps32 ⟨by simp,by simp[LK]⟩ ?_
 have hr:Tryz.f32.results=#[.tmp 4,.tmp 5]:=rfl
 unfold re;by_cases h1:deep<1
 ·have e1:decide (deep<1)=true:=decide_eq_true h1
  rw[if_pos (.inl h1)];simp only[go_sem,reduceLT,reduceEqDiff,Nat.reduceBEq,reduceAdd,hr,e1]
 ·have e1:decide (deep<1)=false:=decide_eq_false h1
  by_cases h2:60<deep
  ·have e2:decide (60<deep)=true:=decide_eq_true h2
   rw[if_pos (.inr h2)];simp only[go_sem,reduceLT,reduceEqDiff,Nat.reduceBEq,reduceAdd,hr,e1,e2]
  ·have e2:decide (60<deep)=false:=decide_eq_false h2
   rw[if_neg (by omega)]
   obtain⟨d,rfl⟩:∃ d:Nat,deep=d:=⟨deep.toNat,by omega⟩
   rw[Int.toNat_natCast];have hu:=B9 l hl d (by omega)
   unfold UDen2 at hu;rw[List.drop_zero] at hu;have z0:((0:Nat):Int)=0:=rfl
   rw[z0] at hu;cases hv:Ne.d7 0 d l with
   | some x =>
    rw[hv] at hu;obtain⟨j,_,_,_,hu⟩:=hu;simp only[go_sem,reduceLT,reduceCtorEq,reduceEqDiff,Nat.reduceBEq,reduceAdd,reduceSub,reduceLeDiff,hr,e1,e2,hu]
   | none =>
    rw[hv] at hu;obtain⟨a,b,hu⟩:=hu;simp only[go_sem,reduceLT,reduceCtorEq,reduceEqDiff,Nat.reduceBEq,reduceAdd,reduceSub,reduceLeDiff,hr,e1,e2,hu]
theorem Fg (l:List Tok) (hl:l.length≤1000000) (deep:Int):den K 98 [L (l.map Tok.enc),I deep] []=some (.ret (lD deep l) []):=by
 refine fB (F:=rZ) rfl ?_
 unfold rZ;simp only[C1];rw[if_pos hl]
attribute [local go_sem] EL wt KK a6 fG gK Jg JG Jl wV
abbrev encC (l:List Cpx):List (List PV):=l.map Cpx.enc
theorem vM (l:List Cpx):lens 2 (encC l)=true:=by
 simp only[lens,List.all_map,List.all_eq_true];intro x _;rfl
theorem xG (l:List Cpx) (c:Cpx):encC l++[[.sl (encQ c.parts),.str c.pseudo]]=encC (l++[c]):=by
 show _=(l++[c]).map Cpx.enc
 rw[List.map_append];rfl
theorem jP (l:List (List Val)):(encP l).length=l.length:=List.length_map ..
abbrev psH (parts:List (List Val)) (i e:Nat) (out:List Cpx):St :=
  { sl:=upd (upd (upd bot 6 (I i)) 5 (L (encP parts))) 4 (.c (.own e (encC out))),bx:=nobox,nt:=38 }
noncomputable def pslp:Code:=.loop (ap Tryz.f18 4)
theorem Dy (parts:List (List Val)) (e:Nat) (out:List Cpx) :
  Ends (exL K 18 pslp (psH parts parts.length e out)) fun o S=>o=.exit 0∧S.nt=38∧S.sl 4=.c (.own e (encC out)):=by
 have hlt:decide ((parts.length:Int)<(parts.length:Int))=false:=decide_eq_false (by omega)
 unfold pslp
 conv in ap _ _=>whnf
 rw[aq];simp only[go_sem,reduceLT,reduceEqDiff,Nat.reduceBEq,reduceAdd,af cM,jP,ar]
theorem uU (parts:List (List Val)) (i e:Nat) (out:List Cpx) (p:List Val) (hi:parts[i]? = some p) (hpl:parts.length≤200000000) (hsz:Ne.size p≤100000000) (hts:TSh p)
  (h:Sl.cpx 16 0 (Sl.trim p)=none∨32≤i) :
  Ends (exL K 18 pslp (psH parts i e out)) fun o S=>o=.ret∧S.sl 2=.c .nils∧S.sl 3=I 40:=by
 have hil:i<parts.length:=(List.getElem?_eq_some_iff.1 hi).1
 have hlt:decide ((i:Int)<(parts.length:Int))=true:=decide_eq_true (by omega)
 have hget:(encP parts)[(i:Int).toNat]? = some [.sl (encL p)]:=by simp[hi]
 have ht:=mL p (Nat.le_trans (Ne.bM p) hsz)
 have hc:=o2 (Sl.trim p) (Nat.le_trans (iw p) hsz) (kF hts)
 unfold pslp
 conv in ap _ _=>whnf
 rw[aq];cases hx:Sl.cpx 16 0 (Sl.trim p) with
 | none =>
  rw[hx] at hc;unfold cpxA at hc;simp only at hc;simp only[go_sem,reduceLT,reduceEqDiff,Nat.reduceBEq,reduceAdd,af cM,ag cM,jP,hlt,hget,Int.natCast_nonneg,ht,hc,TV.flat,ar]
 | some c =>
  rw[hx] at hc h;unfold cpxA at hc;simp only at hc;have h32:32≤i:=by
   rcases h with h|h
   ·cases h
   ·exact h
  have e32:decide ((32:Int)≤(i:Int))=true:=decide_eq_true (by omega)
  simp only[go_sem,reduceLT,reduceEqDiff,Nat.reduceBEq,reduceAdd,af cM,ag cM,jP,hlt,hget,Int.natCast_nonneg,ht,hc,e32,TV.flat,ar]
theorem AZ (parts:List (List Val)) (i e:Nat) (out:List Cpx) (p:List Val) (hi:parts[i]? = some p) (hpl:parts.length≤200000000) (hsz:Ne.size p≤100000000) (hts:TSh p) (ho:out.length≤100) (he:e=47∨out=[])
  (c:Cpx) (hx:Sl.cpx 16 0 (Sl.trim p)=some c) (h32:i<32) :
  exL K 18 pslp (psH parts i e out)=exL K 18 pslp (psH parts (i+1) 47 (out++[c])):=by
 have hil:i<parts.length:=(List.getElem?_eq_some_iff.1 hi).1
 have hlt:decide ((i:Int)<(parts.length:Int))=true:=decide_eq_true (by omega)
 have hget:(encP parts)[(i:Int).toNat]? = some [.sl (encL p)]:=by simp[hi]
 have ht:=mL p (Nat.le_trans (Ne.bM p) hsz)
 have hc:=o2 (Sl.trim p) (Nat.le_trans (iw p) hsz) (kF hts)
 rw[hx] at hc;unfold cpxA at hc;simp only at hc;have e32:decide ((32:Int)≤(i:Int))=false:=decide_eq_false (by omega)
 have hw:IntKind.i64.wrap ((i:Int)+1)=((i+1:Nat):Int):=bf i (by omega)
 have hown:e=47∨(encC out).isEmpty=true:=by
  rcases he with rfl|rfl
  ·exact .inl rfl
  ·exact .inr rfl
 have hlim:out.length+1<cw:=by unfold cw;omega
 have hlv:=vM out
 unfold pslp
 conv in ap _ _=>whnf
 conv in ap _ _=>whnf
 conv in exL _ _ _ (psH parts i e out)=>rw[aq]
 simp only[go_sem,reduceLT,reduceCtorEq,reduceEqDiff,Nat.reduceBEq,reduceAdd,reduceMul,af cM,ag cM,ao (len:=1) aQ fG a6 ⟨rfl,by decide,by decide⟩,bB kP,aX aQ,jP,hlt,hget,Int.natCast_nonneg,ht,hc,e32,hw,hown,hlim,hlv,eT,xG,TV.flat]
 rw[au];simp only[go_sem,reduceEqDiff]
theorem rY (parts:List (List Val)) (hpl:parts.length≤200000000) (hp:∀ p∈parts,Ne.size p≤100000000∧TSh p):∀ (rest:List (List Val)) (i e:Nat) (out:List Cpx),parts.drop i=rest→i≤parts.length→i≤32→out.length=i→(e=47∨out=[]) →
  Ends (exL K 18 pslp (psH parts i e out)) fun o S=>match (if parts.length≤32 then Sl.all_ rest else none) with
   | some cs=>o=.exit 0∧S.nt=38∧∃ e',S.sl 4=.c (.own e' (encC (out++cs)))
   | none=>o=.ret∧S.sl 2=.c .nils∧S.sl 3=I 40
 | [],i,e,out,hd,hi,h32,hol,he=>by
  have hin:i=parts.length:=by
   have:=List.drop_eq_nil_iff.1 hd
   omega
  have h3:parts.length≤32:=by omega
  have hall:Sl.all_ []=some []:=rfl
  rw[if_pos h3,hall];subst hin;refine bu (Dy parts e out) fun o S q=>⟨q.1,q.2.1,e,?_⟩
  rw[List.append_nil];exact q.2.2
 | p::rest,i,e,out,hd,hi,h32,hol,he=>by
  obtain⟨g1,g2,g3⟩:=bE hd;have hpm:=hp p (List.mem_of_getElem? g1)
  cases hx:Sl.cpx 16 0 (Sl.trim p) with
  | none =>
   have hall:(if parts.length≤32 then Sl.all_ (p::rest) else none)=none:=by
    split
    ·rw[Sl.all_,hx]
    ·rfl
   rw[hall];exact uU parts i e out p g1 hpl hpm.1 hpm.2 (.inl hx)
  | some c =>
   by_cases hi32:32≤i
   ·have h3:¬ parts.length≤32:=by omega
    rw[if_neg h3];exact uU parts i e out p g1 hpl hpm.1 hpm.2 (.inr hi32)
   ·rw[AZ parts i e out p g1 hpl hpm.1 hpm.2 (by omega) he c hx (by omega)]
    refine bu (rY parts hpl hp rest (i+1) 47 (out++[c]) g2 (by omega) (by omega) (by rw[List.length_append,List.length_singleton];omega) (.inl rfl)) fun o S q => ?_
    by_cases h3:parts.length≤32
    ·rw[if_pos h3] at q ⊢
     rw[Sl.all_,hx];cases ha:Sl.all_ rest with
     | none=>rw[ha] at q;exact q
     | some cs =>
      rw[ha] at q
      simp only at q ⊢
      rw[List.append_assoc,List.singleton_append] at q
      exact q
    ·rw[if_neg h3] at q ⊢
     exact q
def jv (x:Option (List Cpx)):AV:=match x with
 | some cs=>.tup [.c (.pv (.sl (encC cs))),.c (.pv (.int .i64 0))]
 | none=>.tup [.c .nils,.c (.pv (.int .i64 40))]
theorem CL (s:List UInt8):∀ (l:List Val),(Sl.at_ s l).length≤l.length+1∧∀ p∈Sl.at_ s l,Ne.size p≤Ne.size l
 | []=>by
  refine⟨Nat.le_refl _,fun p hp => ?_⟩
  obtain rfl:p=[]:=by simpa[Sl.at_] using hp
  exact Nat.le_refl _
 | v::l=>by
  obtain⟨h1,h2⟩:=CL s l;rw[Sl.at_,Ne.size];split
  ·refine⟨by rw[List.length_cons,List.length_cons];omega,fun p hp => ?_⟩
   rcases List.mem_cons.1 hp with rfl|hp
   ·rw[Ne.size];omega
   ·have:=h2 p hp;omega
  ·split
   ·refine⟨by rw[List.length_singleton,List.length_cons];omega,fun p hp => ?_⟩
    obtain rfl:p=[v]:=by simpa using hp
    rw[Ne.size,Ne.size];omega
   ·rename_i q qs e;rw[e] at h1 h2;refine⟨by rw[List.length_cons] at h1 ⊢;rw[List.length_cons];omega,fun p hp => ?_⟩
    rcases List.mem_cons.1 hp with rfl|hp
    ·rw[Ne.size];have:=h2 q (by simp)
     omega
    ·have:=h2 p (by simp[hp]);omega
theorem tU (l:List Val) (hsz:Ne.size l≤100000000) (hts:TSh l):den K 18 [L (encL l)] []=some (.ret (jv (Sl.parse l)) []):=by
 have hr:Tryz.f18.results=#[.tmp 2,.tmp 3]:=rfl
 have hl:l.length≤100000000:=Nat.le_trans (Ne.bM l) hsz
 have hat:=Lf l [44] hl
 obtain⟨a1,a2⟩:=CL [44] l;have a3:=Sl.Hk [44] l
 unfold Sl.parse jv;generalize Sl.at_ [44] l=parts at hat a1 a2 a3;have z0:((0:Nat):Int)=0:=rfl
 have h:=rY parts (by omega) (fun p hp=>⟨Nat.le_trans (a2 p hp) hsz,qf hts (a3 p hp)⟩) parts 0 47 [] rfl (Nat.zero_le _) (by omega) rfl (.inl rfl)
 obtain⟨o,S,w,h⟩:=h;unfold pslp at w
 conv at w in ap _ _=>whnf
 have en:encC []=[]:=rfl
 simp only[psH,z0,en] at w
 cases hx:(if parts.length≤32 then Sl.all_ parts else none) with
 | some cs =>
  rw[hx] at h;obtain⟨rfl,hn,e',s4⟩:=h;rw[List.nil_append] at s4
  refine ah rfl rfl Tryz.func18 rfl Tryz.ntmps18 ⟨by simp,by simp[LK]⟩ ?_
  simp only[go_sem,reduceLT,reduceCtorEq,reduceEqDiff,Nat.reduceBEq,reduceAdd,ao (len:=0) aQ fG a6 ⟨rfl,by decide,by decide⟩,hat]
  rw[au];simp only[go_sem,reduceEqDiff];erw [w];simp only[go_sem,reduceLT,reduceEqDiff,Nat.reduceBEq,reduceAdd,hr,hn,s4]
 | none =>
  rw[hx] at h;obtain⟨rfl,s2,s3⟩:=h;refine ah rfl rfl Tryz.func18 rfl Tryz.ntmps18 ⟨by simp,by simp[LK]⟩ ?_
  simp only[go_sem,reduceLT,reduceCtorEq,reduceEqDiff,Nat.reduceBEq,reduceAdd,ao (len:=0) aQ fG a6 ⟨rfl,by decide,by decide⟩,hat]
  rw[au];simp only[go_sem,reduceEqDiff];erw [w];simp only[go_sem,hr,s2,s3]
def tZ (x:Option (List Val)):AV:=match x with
 | some v=>.tup [.c (.pv (.sl (encL v))),.c (.pv (.int .i64 0))]
 | none=>.tup [.c .nils,.c (.pv (.int .i64 20))]
theorem parse60 (l:List Tok):re 60 l=tZ (Ne.parse 60 l):=by
 unfold re tZ;rw[if_neg (by omega)]
 unfold Ne.parse
 show (match Ne.d7 0 60 l with|some x=>_|none=>_)=_
 cases Ne.d7 0 60 l<;>rfl
theorem pF (s:List UInt8):(Tk.all s).length≤s.length:=Tk.m8 s
theorem Ei (s:List UInt8) (hs:s.length≤100000000):den K 11 [T s] []=some (.ret (tZ ((Ne.parse 60 (Tk.all s)).map Sl.trim)) []):=by
 have hr:Tryz.f11.results=#[.tmp 2,.tmp 3]:=rfl
 have h1:=zy s (by omega)
 have hc:=pF s
 have h2:=BP (Tk.all s) (by omega) 60
 rw[parse60] at h2;cases hx:Ne.parse 60 (Tk.all s) with
 | none =>
  rw[hx] at h2;unfold tZ at h2 ⊢;simp only[Option.map_none] at h2 ⊢;refine ah rfl rfl Tryz.func11 rfl Tryz.ntmps11 ⟨by simp,by simp[LK]⟩ ?_
  simp only[go_sem,reduceLT,reduceCtorEq,reduceEqDiff,Nat.reduceBEq,reduceAdd,hr,h1,h2,TV.flat,Int.reduceBNe]
 | some v =>
  have hv:=(Ne.jT hx).2.2.1
  have h3:=mL v (Nat.le_trans (Ne.bM v) (by omega))
  rw[hx] at h2;unfold tZ at h2 ⊢;simp only[Option.map_some] at h2 ⊢;refine ah rfl rfl Tryz.func11 rfl Tryz.ntmps11 ⟨by simp,by simp[LK]⟩ ?_
  simp only[go_sem,reduceLT,reduceCtorEq,reduceEqDiff,Nat.reduceBEq,reduceAdd,hr,h1,h2,h3,TV.flat,Int.reduceBNe]
theorem Db {l:List Tok} {v:List Val} {n:Nat} (h:Ne.parse 60 l=some v) (hl:∀ t∈l,t.text.length≤n) (hn:n<1000000000):TSh v:=fun t ht=>by
 obtain⟨_,_,_,c,hc⟩:=Ne.jT h;rw[hc] at ht;rcases List.mem_append.1 ht with ht|ht
 ·have:=hl t ht;omega
 ·obtain⟨k,_,rfl⟩:=List.mem_map.1 ht;unfold Ne.iq;simp
theorem Fq (s:List UInt8) (hs:s.length≤100000000):den K 20 [T s] []=some (.ret (jv (Sl.read s)) []):=by
 have hr:Tryz.f20.results=#[.tmp 2,.tmp 3]:=rfl
 have h1:=Ei s hs
 unfold Sl.read;cases hx:Ne.parse 60 (Tk.all s) with
 | none =>
  rw[hx] at h1;unfold tZ at h1;unfold jv;simp only[Option.map_none,Option.bind_none] at h1 ⊢;refine ah rfl rfl Tryz.func20 rfl Tryz.ntmps20 ⟨by simp,by simp[LK]⟩ ?_
  simp only[go_sem,reduceLT,reduceCtorEq,reduceEqDiff,Nat.reduceBEq,reduceAdd,hr,h1,TV.flat,Int.reduceBNe]
 | some v =>
  have hv:=(Ne.jT hx).2.2.1
  have hc:=pF s
  have hts:=Db hx (Tk.ze s) (by omega)
  have h2:=tU (Sl.trim v) (Nat.le_trans (iw v) (by omega)) (kF hts)
  rw[hx] at h1;unfold tZ at h1;simp only[Option.map_some,Option.bind_some] at h1 ⊢;unfold jv at h2 ⊢;cases hy:Sl.parse (Sl.trim v) with
  | none =>
   rw[hy] at h2;simp only at h2 ⊢;refine ah rfl rfl Tryz.func20 rfl Tryz.ntmps20 ⟨by simp,by simp[LK]⟩ ?_
   simp only[go_sem,reduceLT,reduceCtorEq,reduceEqDiff,Nat.reduceBEq,reduceAdd,hr,h1,h2,TV.flat,Int.reduceBNe]
  | some cs =>
   rw[hy] at h2;simp only at h2 ⊢;refine ah rfl rfl Tryz.func20 rfl Tryz.ntmps20 ⟨by simp,by simp[LK]⟩ ?_
   simp only[go_sem,reduceLT,reduceCtorEq,reduceEqDiff,Nat.reduceBEq,reduceAdd,hr,h1,h2,TV.flat,Int.reduceBNe]
attribute [local go_sem] fj i7 gS lQ Dp Ks fk aL Jy
abbrev cpxE (c:Cpx):AV:=.agg [.pv (.sl (encQ c.parts)),.pv (.str c.pseudo)]
abbrev cxpH (l:List Val) (cb:Int) (e:Nat) (ps:List Prt):St :=
  { sl:=upd (upd (upd (upd bot 4 (I cb)) 3 (.c (.loc 3 0))) 2 (.c (.loc 2 0))) 0 P0,
    bx:=upd (upd (upd nobox 100000 (some (rdB l))) 3 (some [.own e (encQ ps),.pv (.str [])])) 2 (some [.own 0 [],.pv (.str [])]),nt:=35 }
noncomputable def cxplp:Code:=.loop (ap Tryz.f47 3)
theorem IT (l:List Val) (cb:Int) (e:Nat) (ps:List Prt) (h:¬ ps.length<16) :
  Ends (exL K 47 cxplp (cxpH l cb e ps)) fun o S=>o=.pan dW∧S.bx 100000=some (rdB l):=by
 have e1:decide ((ps.length:Int)<16)=false:=decide_eq_false (by omega)
 have hmn:=gR
 unfold cxplp
 conv in ap _ _=>whnf
 rw[aq];simp only[go_sem,reduceLT,reduceCtorEq,reduceEqDiff,Nat.reduceBEq,af aw,cP,e1,hmn,ar]
theorem Jc (l m:List Val) (cb:Int) (e:Nat) (ps:List Prt) (h:ps.length<16) (hc:den K 91 [P0] [rdB l]=some (.pan dW [rdB m])) :
  Ends (exL K 47 cxplp (cxpH l cb e ps)) fun o S=>o=.pan dW∧S.bx 100000=some (rdB m):=by
 have e1:decide ((ps.length:Int)<16)=true:=decide_eq_true (by omega)
 have hmy:=fe
 simp only[rdB] at hc;unfold cxplp
 conv in ap _ _=>whnf
 rw[aq];simp only[go_sem,reduceLT,reduceCtorEq,reduceEqDiff,Nat.reduceBEq,reduceAdd,af aw,cP,e1,hmy,hc,ar]
def vI (ps:List Prt) (s:List UInt8) (r:List Val) (o:Out) (S:St):Prop:=o=.ret∧S.nt=35∧S.sl 2=.c (.loc 2 0)∧S.bx 2=some [.pv (.sl (encQ ps)),.pv (.str s)]∧S.bx 100000=some (rdB r)
theorem FO (l r:List Val) (cb:Int) (e:Nat) (ps:List Prt) (h:ps.length<16) (he:e=50∨ps=[]) (ls:List Sim) (s:List UInt8) (hs:s≠[]) (hc:den K 91 [P0] [rdB l]=some (.ret (qP (ls,s)) [rdB r])) :
  Ends (exL K 47 cxplp (cxpH l cb e ps)) fun o S=>vI (ps++[⟨cb,ls⟩]) s r o S:=by
 have e1:decide ((ps.length:Int)<16)=true:=decide_eq_true (by omega)
 have e2:(s==[])=false:=by rw[beq_eq_false_iff_ne];exact hs
 have hmy:=fe
 have hown:e=50∨(encQ ps).isEmpty=true:=by
  rcases he with rfl|rfl
  ·exact .inl rfl
  ·exact .inr rfl
 have hlim:ps.length+1<cw:=by unfold cw;omega
 have hlv:=g8 ps
 simp only[rdB,qP] at hc;unfold vI;unfold cxplp
 conv in ap _ _=>whnf
 rw[aq];simp only[go_sem,reduceLT,reduceCtorEq,reduceEqDiff,Nat.reduceBEq,reduceAdd,reduceLeDiff,reduceMul,af aw,ab aP cL,ao (len:=1) aw dl aP ⟨rfl,by decide,by decide⟩,bB cY,aX aw,cP,e1,e2,hmy,hc,hown,hlim,hlv,eT,fc,bne,ar]
theorem G6 (l r r2:List Val) (cb:Int) (e:Nat) (ps:List Prt) (h:ps.length<16) (he:e=50∨ps=[]) (ls:List Sim) (hc:den K 91 [P0] [rdB l]=some (.ret (qP (ls,[])) [rdB r]))
  (hk:den K 92 [P0] [rdB r]=some (.ret (I 0) [rdB r2])) :
  Ends (exL K 47 cxplp (cxpH l cb e ps)) fun o S=>vI (ps++[⟨cb,ls⟩]) [] r2 o S:=by
 have e1:decide ((ps.length:Int)<16)=true:=decide_eq_true (by omega)
 have e2:(([]:List UInt8)==[])=true:=rfl
 have e3:((0:Int)==0)=true:=rfl
 have hmy:=fe
 have hown:e=50∨(encQ ps).isEmpty=true:=by
  rcases he with rfl|rfl
  ·exact .inl rfl
  ·exact .inr rfl
 have hlim:ps.length+1<cw:=by unfold cw;omega
 have hlv:=g8 ps
 simp only[rdB,qP] at hc hk;unfold vI;unfold cxplp
 conv in ap _ _=>whnf
 rw[aq];simp only[go_sem,reduceLT,reduceCtorEq,reduceEqDiff,Nat.reduceBEq,reduceAdd,reduceLeDiff,reduceMul,af aw,ab aP cL,ao (len:=1) aw dl aP ⟨rfl,by decide,by decide⟩,bB cY,aX aw,cP,e1,e2,e3,hmy,hc,hk,hown,hlim,hlv,eT,fc,bne,ar]
theorem GH (l r r2:List Val) (cb cb2:Int) (e:Nat) (ps:List Prt) (h:ps.length<16) (he:e=50∨ps=[]) (ls:List Sim) (hc:den K 91 [P0] [rdB l]=some (.ret (qP (ls,[])) [rdB r]))
  (hk:den K 92 [P0] [rdB r]=some (.ret (I cb2) [rdB r2])) (h0:cb2≠0) :
  exL K 47 cxplp (cxpH l cb e ps)=exL K 47 cxplp (cxpH r2 cb2 50 (ps++[⟨cb,ls⟩])):=by
 have e1:decide ((ps.length:Int)<16)=true:=decide_eq_true (by omega)
 have e2:(([]:List UInt8)==[])=true:=rfl
 have e3:(cb2==0)=false:=by rw[beq_eq_false_iff_ne];exact h0
 have hmy:=fe
 have hown:e=50∨(encQ ps).isEmpty=true:=by
  rcases he with rfl|rfl
  ·exact .inl rfl
  ·exact .inr rfl
 have hlim:ps.length+1<cw:=by unfold cw;omega
 have hlv:=g8 ps
 simp only[rdB,qP] at hc hk;unfold cxplp
 conv in ap _ _=>whnf
 conv in ap _ _=>whnf
 conv in exL _ _ _ (cxpH l cb e ps)=>rw[aq]
 simp only[go_sem,reduceLT,reduceCtorEq,reduceEqDiff,Nat.reduceBEq,reduceAdd,reduceLeDiff,reduceMul,af aw,ab aP cL,ao (len:=1) aw dl aP ⟨rfl,by decide,by decide⟩,bB cY,aX aw,cP,e1,e2,e3,hmy,hc,hk,hown,hlim,hlv,eT,fc,bne]
 rw[au];simp only[go_sem,reduceCtorEq,reduceEqDiff,Nat.reduceBEq]
theorem vp:∀ (f:Nat) (acc:List Sim) (l:List Val) (y:List Sim×List UInt8) (r:List Val),Sl.mT f acc l=some (y,r)→∃ p,l=p++r
 | 0,_,_,_,_,h=>by cases h
 | f+1,acc,l,y,r,h=>by
  rw[Sl.mT] at h;split at h
  ·split at h
   ·cases h
   ·cases h;exact⟨[],rfl⟩
  ·split at h
   ·rw[Option.map_eq_some_iff] at h;obtain⟨z,hz,e⟩:=h;cases e;unfold Sl.mw at hz;split at hz
    ·rename_i s m hn;split at hz
     ·cases hz
      obtain⟨t,c,e,_⟩:=Sl.tW hn;exact⟨l.take 2++[.mk 1 t c],by rw[List.append_assoc];simp only[List.singleton_append];rw[←e,List.take_append_drop]⟩
     ·cases hz
    ·cases hz
   ·split at h
    ·split at h
     ·rename_i x m hs;obtain⟨p,rfl,_⟩:=Sl.nb _ _ _ _ _ hs;obtain⟨q,e⟩:=vp f _ m y r h;exact⟨p++q,by rw[List.append_assoc,←e]⟩
     ·cases h
    ·cases h
theorem DL (l:List Val):∃ p,l=p++(Sl.kM l).2:=by
 obtain⟨p,hp⟩:=List.dropWhile_suffix Sl.ay (l:=l);have key:∀ {s:List UInt8} {x:List Val},Sl.sign s (l.dropWhile Sl.ay)=some x→∃ p,l=p++x.dropWhile Sl.ay:=fun {s x} h=>by
  obtain⟨v,e,_⟩:=Sl.fN h;obtain⟨q,hq⟩:=List.dropWhile_suffix Sl.ay (l:=x);exact⟨p++(v::q),by rw[←hp,e,List.append_assoc,List.cons_append,hq]⟩
 unfold Sl.kM;simp only;cases h1:Sl.sign [62] (l.dropWhile Sl.ay) with
 | some x=>exact key h1
 | none =>
  cases h2:Sl.sign [43] (l.dropWhile Sl.ay) with
  | some x=>exact key h2
  | none =>
   cases h3:Sl.sign [126] (l.dropWhile Sl.ay) with
   | some x=>exact key h3
   | none =>
    simp only;split
    ·exact⟨p,hp.symm⟩
    ·exact⟨p,hp.symm⟩
theorem zn:∀ (n:Nat) (l:List Val) (cb:Int) (e:Nat) (ps:List Prt),ps.length+n=16→Ne.size l≤60000000→TSh l→(e=50∨ps=[]) →
  Ends (exL K 47 cxplp (cxpH l cb e ps)) fun o S=>match Sl.cpxP n cb ps l with
   | some (c,r)=>vI c.parts c.pseudo r o S
   | none=>∃ m,o=.pan dW∧S.bx 100000=some (rdB m)
 | 0,l,cb,e,ps,h,hsz,hts,he=>bu (IT l cb e ps (by omega)) fun o S q=>⟨l,q⟩
 | n+1,l,cb,e,ps,h,hsz,hts,he=>by
  have hl:l.length≤60000000:=Nat.le_trans (Ne.bM l) hsz
  have hc:=DY l hsz hts
  rw[Sl.cpxP];cases hp:Sl.mT (l.length+1) [] l with
  | none =>
   rw[hp] at hc;obtain⟨m,hc⟩:=fm hc;exact bu (Jc l m cb e ps (by omega) hc) fun o S q=>⟨m,q⟩
  | some y =>
   obtain⟨⟨ls,s⟩,r⟩:=y;rw[hp] at hc;have hc:=er hc
   obtain⟨p,hpl⟩:=vp _ _ _ _ _ hp;simp only;by_cases hs:s=[]
   ·subst hs;rw[if_neg (by simp)]
    have hrl:r.length≤l.length:=by rw[hpl,List.length_append];omega
    have hk:=E8 r (by omega)
    by_cases h0:(Sl.kM r).1=0
    ·rw[if_pos h0];rw[h0] at hk;exact G6 l r _ cb e ps (by omega) he ls hc hk
    ·rw[if_neg h0,GH l r _ cb _ e ps (by omega) he ls hc hk h0]
     obtain⟨q,hq⟩:=DL r;have hsz2:Ne.size (Sl.kM r).2≤Ne.size l:=by
      have e1:Ne.size l=Ne.size p+Ne.size r:=by rw[hpl,lf]
      have e2:Ne.size r=Ne.size q+Ne.size (Sl.kM r).2:=by rw[←lf,←hq]
      omega
     exact zn n _ _ _ _ (by rw[List.length_append,List.length_singleton];omega) (by omega) (qf hts fun v hv=>by
      rw[hpl,List.mem_append]
      right
      rw[hq,List.mem_append];exact .inr hv) (.inl rfl)
   ·rw[if_pos hs];exact FO l r cb e ps (by omega) he ls s hs hc
theorem Jh (l:List Val) (hsz:Ne.size l≤60000000) (hts:TSh l):il cpxE (Sl.cpxP 16 0 [] l) (den K 47 [P0] [rdB l]):=by
 have hr:Tryz.f47.results=#[.cell 2 47]:=rfl
 have h:=zn 16 l 0 0 [] rfl hsz hts (.inr rfl)
 unfold cxplp at h
 conv at h in ap _ _=>whnf
 obtain⟨o,S,w,hq⟩:=h;have e0:encQ []=[]:=rfl
 simp only[cxpH,rdB,e0] at w
 cases hc:Sl.cpxP 16 0 [] l with
 | none =>
  rw[hc] at hq;obtain⟨m,rfl,q1⟩:=hq;refine⟨m,?_⟩
  simp only[rdB] at q1 ⊢
  refine ah rfl rfl Tryz.func47 rfl Tryz.ntmps47 ⟨by simp,by simp[LK]⟩ ?_
  simp only[go_sem,reduceLT,reduceEqDiff,Nat.reduceBEq,reduceSub,reduceLeDiff];rw[au];simp only[go_sem,reduceCtorEq,reduceEqDiff,Nat.reduceBEq,reduceSub,reduceLeDiff];erw [w];simp only[go_sem,hr,q1]
 | some y =>
  obtain⟨c,r⟩:=y;rw[hc] at hq;unfold vI at hq;obtain⟨rfl,q1,q2,q3,q4⟩:=hq
  show den K 47 [P0] [rdB l]=some (.ret (cpxE c) [rdB r])
  simp only[rdB,cpxE] at q4 ⊢
  refine ah rfl rfl Tryz.func47 rfl Tryz.ntmps47 ⟨by simp,by simp[LK]⟩ ?_
  simp only[go_sem,reduceLT,reduceEqDiff,Nat.reduceBEq,reduceSub,reduceLeDiff];rw[au];simp only[go_sem,reduceCtorEq,reduceEqDiff,Nat.reduceBEq,reduceSub,reduceLeDiff];erw [w];simp only[go_sem,reduceAdd,hr,q2,q3,q4]
theorem Aw {deep:Int} {l:List Tok} {vs:List Val} (h1:1≤deep) (h2:deep≤60) (h:Ne.parse deep.toNat l=some vs):lD deep l=.tup [.c (.pv (.sl (encL vs))),.c (.pv (.int .i64 0))]:=by
 unfold lD;rw[if_neg (by omega)]
 unfold Ne.parse at h;cases hu:Ne.d7 0 deep.toNat l with
 | some x=>rw[hu] at h;cases h;rfl
 | none=>rw[hu] at h;cases h
theorem Bh {deep:Int} {l:List Tok} (h1:1≤deep) (h2:deep≤60) (h:Ne.parse deep.toNat l=none):lD deep l=.tup [.c (.pv (.sl [])),.c (.pv (.int .i64 20))]:=by
 unfold lD;rw[if_neg (by omega)]
 unfold Ne.parse at h;cases hu:Ne.d7 0 deep.toNat l with
 | some x=>rw[hu] at h;cases h
 | none=>rfl
attribute [local go_sem] CX Jp JB
def BC (s:List UInt8):AV:=match Sl.Hi s with
 | some a=>.tup [.c (.pv (.sl (encL a))),.c (.pv (.int .i64 0))]
 | none=>.tup [.c (.pv (.sl [])),.c (.pv (.int .i64 20))]
theorem EU (s:List UInt8) (hs:s.length<4000000000) (hal:(Tk.all s).length≤1000000):den K 49 [T s] []=some (.ret (BC s) []):=by
 have h1:=CS s hs
 have h2:=Fg (Tk.all s) (by omega) 60
 unfold BC Sl.Hi;refine ah rfl rfl Tryz.func49 rfl Tryz.ntmps49 ⟨by simp,by simp[LK]⟩ ?_
 have hr:Tryz.f49.results=#[.tmp 2,.tmp 3]:=rfl
 cases hp:Ne.parse 60 (Tk.all s) with
 | none =>
  rw[Bh (deep:=60) (by decide) (by decide) hp] at h2
  have h3:=jN [] (by simp)
  have e0:encL []=[]:=rfl
  have e1:Sl.trim []=[]:=rfl
  rw[e1,e0] at h3;simp only[go_sem,reduceLT,reduceCtorEq,reduceEqDiff,Nat.reduceBEq,reduceAdd,hr,h1,h2,h3,Option.map_none,TV.flat]
 | some vs =>
  rw[Aw (deep:=60) (by decide) (by decide) hp] at h2
  obtain⟨_,_,hsz,_⟩:=Ne.jT hp;have hl:=Ne.bM vs
  have h3:=jN vs (by omega)
  simp only[go_sem,reduceLT,reduceCtorEq,reduceEqDiff,Nat.reduceBEq,reduceAdd,hr,h1,h2,h3,Option.map_some,TV.flat]
attribute [local go_sem] Es wa lM q7 Ji Kq wm
theorem xn {m m2:List Val} {out:List Cpx} {e:Nat} {c:Cpx} (he:e=47∨out=[]) (ho:out.length≤1000) (h:den K 47 [P0] [rdB m]=some (.ret (cpxE c) [rdB m2])) :
  den K 46 [P0,P1] [rdB m,[.own e (encC out)]]=some (.ret (.tup []) [rdB m2,[.own 47 (encC (out++[c]))]]):=by
 rw[kZ (K:=K) (F:=parse1P) rfl rfl];have h1:e=47∨(encC out).isEmpty=true:=by
  rcases he with rfl|rfl
  ·exact .inl rfl
  ·exact .inr rfl
 have h2:(encC out).length+1<cw:=by rw[List.length_map];unfold cw;omega
 have h:=h
 simp only[cpxE] at h;unfold parse1P;simp only[and_self,if_true,Plan.run,h];rw[if_pos ⟨h1,vM out,h2⟩];simp only[Plan.run,xG]
theorem yu {m m2:List Val} {out:List Cpx} {e:Nat} (h:den K 47 [P0] [rdB m]=some (.pan dW [rdB m2])) :
  den K 46 [P0,P1] [rdB m,[.own e (encC out)]]=some (.pan dW [rdB m2,[.top]]):=by
 rw[kZ (K:=K) (F:=parse1P) rfl rfl];unfold parse1P;simp only[and_self,if_true,Plan.run,h]
abbrev prpH (parts:List (List Val)) (i e:Nat) (out:List Cpx):St :=
  { sl:=upd (upd (upd (upd bot 11 (I i)) 10 (I parts.length)) 9 (L (encP parts))) 4 (.c (.loc 4 0)),bx:=upd nobox 4 (some [.own e (encC out)]),nt:=27 }
noncomputable def prplp:Code:=.loop (ap Tryz.f17 3)
theorem Jv (parts:List (List Val)) (e:Nat) (out:List Cpx) :
  Ends (exL K 17 prplp (prpH parts parts.length e out)) fun o S=>o=.exit 0∧S.nt=27∧S.sl 4=.c (.loc 4 0)∧S.bx 4=some [.own e (encC out)]:=by
 have hlt:decide ((parts.length:Int)<(parts.length:Int))=false:=decide_eq_false (by omega)
 unfold prplp
 conv in ap _ _=>whnf
 rw[aq];simp only[go_sem,reduceLT,reduceEqDiff,Nat.reduceBEq,ar]
theorem J0 (parts:List (List Val)) (i e:Nat) (out:List Cpx) (p:List Val) (hi:parts[i]? = some p) (hpl:parts.length≤200000000) (b:List CV) (hb:∃ v:CV,b=[v])
  (hw:den K 37 [L (encL p),.c (.fn 46 [(100000,0)])] [[.own e (encC out)]]=some (.ret (I 40) [b])) :
  Ends (exL K 17 prplp (prpH parts i e out)) fun o S=>o=.ret∧S.sl 2=.c .nils∧S.sl 3=I 40:=by
 have hil:i<parts.length:=(List.getElem?_eq_some_iff.1 hi).1
 have hlt:decide ((i:Int)<(parts.length:Int))=true:=decide_eq_true (by omega)
 have hget:(encP parts)[(i:Int).toNat]? = some [.sl (encL p)]:=by simp[hi]
 obtain⟨v,rfl⟩:=hb;unfold prplp
 conv in ap _ _=>whnf
 rw[aq];simp only[go_sem,reduceLT,reduceEqDiff,Nat.reduceBEq,reduceAdd,ag cM,hlt,hget,Int.natCast_nonneg,hw,hZ,locs,jK,ar,Int.reduceBNe]
theorem GV (parts:List (List Val)) (i e e':Nat) (out out':List Cpx) (p:List Val) (hi:parts[i]? = some p) (hpl:parts.length≤200000000) (ho:32<out'.length)
  (hw:den K 37 [L (encL p),.c (.fn 46 [(100000,0)])] [[.own e (encC out)]]=some (.ret (I 0) [[.own e' (encC out')]])) :
  Ends (exL K 17 prplp (prpH parts i e out)) fun o S=>o=.ret∧S.sl 2=.c .nils∧S.sl 3=I 40:=by
 have hil:i<parts.length:=(List.getElem?_eq_some_iff.1 hi).1
 have hlt:decide ((i:Int)<(parts.length:Int))=true:=decide_eq_true (by omega)
 have h32:decide ((32:Int)<(out'.length:Int))=true:=decide_eq_true (by omega)
 have hget:(encP parts)[(i:Int).toNat]? = some [.sl (encL p)]:=by simp[hi]
 unfold prplp
 conv in ap _ _=>whnf
 rw[aq];simp only[go_sem,reduceLT,reduceEqDiff,Nat.reduceBEq,reduceAdd,ag cM,af aQ,hlt,hget,Int.natCast_nonneg,hw,h32,hZ,locs,jK,ar,bne_self_eq_false]
theorem Ic (parts:List (List Val)) (i e e':Nat) (out out':List Cpx) (p:List Val) (hi:parts[i]? = some p) (hpl:parts.length≤200000000) (ho:¬ 32<out'.length)
  (hw:den K 37 [L (encL p),.c (.fn 46 [(100000,0)])] [[.own e (encC out)]]=some (.ret (I 0) [[.own e' (encC out')]])) :
  exL K 17 prplp (prpH parts i e out)=exL K 17 prplp (prpH parts (i+1) e' out'):=by
 have hil:i<parts.length:=(List.getElem?_eq_some_iff.1 hi).1
 have hlt:decide ((i:Int)<(parts.length:Int))=true:=decide_eq_true (by omega)
 have h32:decide ((32:Int)<(out'.length:Int))=false:=decide_eq_false (by omega)
 have hget:(encP parts)[(i:Int).toNat]? = some [.sl (encL p)]:=by simp[hi]
 have hws:IntKind.i64.wrap ((i:Int)+1)=((i+1:Nat):Int):=bf i (by omega)
 unfold prplp
 conv in ap _ _=>whnf
 conv in ap _ _=>whnf
 conv in exL _ _ _ (prpH parts i e out)=>rw[aq]
 simp only[go_sem,reduceLT,reduceEqDiff,Nat.reduceBEq,reduceAdd,ag cM,af aQ,hlt,hget,Int.natCast_nonneg,hw,h32,hws,hZ,locs,jK,bne_self_eq_false];rw[au];simp only[go_sem,reduceEqDiff]
theorem vR (e:Nat) (c:List (List PV)) (f:Nat→Option Nat):([CV.own e c]).map (CV.ren f)=[CV.own e c]:=rfl
theorem Ke (f:Nat→Option Nat):([CV.top]).map (CV.ren f)=[CV.top]:=rfl
theorem B8 (p:List Val) (e:Nat) (out:List Cpx) (hsz:Ne.size p≤60000000) (hts:TSh p) (hc:Sl.fE [44] p=false) (he:e=47∨out=[]) (ho:out.length≤1000):match Sl.cpx 16 0 (Sl.trim p) with
  | some c=>den K 37 [L (encL p),.c (.fn 46 [(100000,0)])] [[.own e (encC out)]]=some (.ret (I 0) [[.own 47 (encC (out++[c]))]])
  | none=>∃ v:CV,den K 37 [L (encL p),.c (.fn 46 [(100000,0)])] [[.own e (encC out)]]=some (.ret (I 40) [[v]]):=by
 have hl:p.length≤60000000:=Nat.le_trans (Ne.bM p) hsz
 have hg:goods.contains 46=true:=by kernel_rfl
 have hx:=Jh (Sl.trim p) (Nat.le_trans (iw p) hsz) (kF hts)
 rw[←Sl.EN hc];unfold Sl.f8;cases hp:Sl.cpxP 16 0 [] (Sl.trim p) with
 | none =>
  rw[hp] at hx;obtain⟨m,hx⟩:=fm hx;exact⟨.top,tq hg (by omega) (vR _ _) Ke (yu hx)⟩
 | some y =>
  obtain⟨c,m⟩:=y;rw[hp] at hx;have hw:=sH hg (by omega) (vR _ _) (vR _ _) (xn he ho (er hx))
  cases m with
  | nil=>exact hw
  | cons v m=>exact⟨_,hw⟩
theorem yZ (parts:List (List Val)) (hpl:parts.length≤200000000) (hp:∀ p∈parts,Ne.size p≤60000000∧TSh p∧Sl.fE [44] p=false):∀ (rest:List (List Val)) (i e:Nat) (out:List Cpx),parts.drop i=rest→i≤parts.length→i≤32→out.length=i→(e=47∨out=[]) →
  Ends (exL K 17 prplp (prpH parts i e out)) fun o S=>match Sl.all_ rest with
   | some cs=>if i+rest.length≤32 then(o=.exit 0∧S.nt=27∧S.sl 4=.c (.loc 4 0)∧∃ e',S.bx 4=some [.own e' (encC (out++cs))]) else(o=.ret∧S.sl 2=.c .nils∧S.sl 3=I 40)
   | none=>o=.ret∧S.sl 2=.c .nils∧S.sl 3=I 40
 | [],i,e,out,hd,hi,h32,ho,he=>by
  have hin:i=parts.length:=by
   have:=List.drop_eq_nil_iff.1 hd
   omega
  subst hin;refine bu (Jv parts e out) fun o S q => ?_
  rw[Sl.all_nil];simp only;rw[if_pos (by simpa using h32)]
  exact⟨q.1,q.2.1,q.2.2.1,e,by rw[List.append_nil];exact q.2.2.2⟩
 | p::rest,i,e,out,hd,hi,h32,ho,he=>by
  obtain⟨g1,g2,g3⟩:=bE hd;obtain⟨k1,k2,k3⟩:=hp p (List.mem_of_getElem? g1)
  have hw:=B8 p e out k1 k2 k3 he (by omega)
  rw[Sl.all_cons];cases hc:Sl.cpx 16 0 (Sl.trim p) with
  | none =>
   rw[hc] at hw;obtain⟨v,hw⟩:=hw;exact J0 parts i e out p g1 hpl [v] ⟨v,rfl⟩ hw
  | some c =>
   rw[hc] at hw;simp only at hw;by_cases h:i<32
   ·rw[Ic parts i e _ out _ p g1 hpl (by rw[List.length_append,List.length_singleton];omega) hw]
    refine bu (yZ parts hpl hp rest (i+1) _ (out++[c]) g2 (by omega) (by omega) (by rw[List.length_append,List.length_singleton];omega) (.inl rfl)) fun o S q => ?_
    cases hr:Sl.all_ rest with
    | none=>rw[hr] at q;exact q
    | some cs =>
     rw[hr] at q
     simp only at q ⊢
     rw[List.length_cons];by_cases h2:i+1+rest.length≤32
     ·rw[if_pos h2] at q
      rw[if_pos (by omega)]
      obtain⟨q1,q2,q3,e',q4⟩:=q;exact⟨q1,q2,q3,e',by rw[q4,List.append_assoc];rfl⟩
     ·rw[if_neg h2] at q
      rw[if_neg (by omega)]
      exact q
   ·refine bu (GV parts i e _ out _ p g1 hpl (by rw[List.length_append,List.length_singleton];omega) hw) fun o S q => ?_
    cases hr:Sl.all_ rest with
    | none=>exact q
    | some cs =>
     simp only;rw[List.length_cons,if_neg (by omega)]
     exact q
theorem sI (l:List Val) (hsz:Ne.size l≤60000000) (hts:TSh l):den K 17 [L (encL l)] []=some (.ret (jv (Sl.parse l)) []):=by
 have hr:Tryz.f17.results=#[.tmp 2,.tmp 3]:=rfl
 have hat:=Ku l [44] (by omega)
 have hal:=EJ [44] l
 have hll:=Ne.bM l
 have hpl:(Sl.at_ [44] l).length≤200000000:=by omega
 have h:=yZ (Sl.at_ [44] l) hpl (fun p hp=>⟨Nat.le_trans (H1 [44] l p hp) hsz,qf hts (Sl.oY [44] l p hp).1,(Sl.oY [44] l p hp).2⟩) _ 0 0 [] rfl (Nat.zero_le _) (by omega) rfl (.inr rfl)
 rw[List.drop_zero] at h;unfold prplp at h
 conv at h in ap _ _=>whnf
 obtain⟨o,S,w,hq⟩:=h;have z0:((0:Nat):Int)=0:=rfl
 have e0:encC []=[]:=rfl
 simp only[prpH,z0,e0] at w
 have err:o=.ret∧S.sl 2=.c .nils∧S.sl 3=I 40→den K 17 [L (encL l)] []=some (.ret (jv none) []):=by
  rintro ⟨rfl,q1,q2⟩
  unfold jv;refine ah rfl rfl Tryz.func17 rfl Tryz.ntmps17 ⟨by simp,by simp[LK]⟩ ?_
  simp only[go_sem,reduceLT,reduceCtorEq,reduceEqDiff,Nat.reduceBEq,reduceAdd,reduceSub,reduceLeDiff,af cM,hat,jP];rw[au];simp only[go_sem,reduceEqDiff,reduceSub,reduceLeDiff];erw [w];simp only[go_sem,hr,q1,q2]
 unfold Sl.parse;cases hx:Sl.all_ (Sl.at_ [44] l) with
 | none =>
  rw[hx] at hq;rw[ite_self];exact err hq
 | some cs =>
  rw[hx] at hq;simp only[Nat.zero_add] at hq;by_cases h32:(Sl.at_ [44] l).length≤32
  ·rw[if_pos h32] at hq ⊢;obtain⟨rfl,q1,q2,e',q3⟩:=hq;rw[List.nil_append] at q3
   unfold jv;refine ah rfl rfl Tryz.func17 rfl Tryz.ntmps17 ⟨by simp,by simp[LK]⟩ ?_
   simp only[go_sem,reduceLT,reduceCtorEq,reduceEqDiff,Nat.reduceBEq,reduceAdd,reduceSub,reduceLeDiff,af cM,hat,jP];rw[au];simp only[go_sem,reduceEqDiff,reduceSub,reduceLeDiff];erw [w];simp only[go_sem,reduceLT,reduceEqDiff,Nat.reduceBEq,reduceAdd,hr,q1,q2,q3]
  ·rw[if_neg h32] at hq ⊢;exact err hq
theorem zY (s:List UInt8) (hs:s.length≤500000):den K 19 [T s] []=some (.ret (jv (Sl.read s)) []):=by
 have hr:Tryz.f19.results=#[.tmp 2,.tmp 3]:=rfl
 have hc:=pF s
 have h1:=EU s (by omega) (by omega)
 unfold Sl.read;unfold BC Sl.Hi at h1;cases hx:Ne.parse 60 (Tk.all s) with
 | none =>
  rw[hx] at h1;unfold jv;simp only[Option.map_none,Option.bind_none] at h1 ⊢;refine ah rfl rfl Tryz.func19 rfl Tryz.ntmps19 ⟨by simp,by simp[LK]⟩ ?_
  simp only[go_sem,reduceLT,reduceCtorEq,reduceEqDiff,Nat.reduceBEq,reduceAdd,hr,h1,TV.flat,Int.reduceBNe]
 | some v =>
  have hv:=(Ne.jT hx).2.2.1
  have hts:=Db hx (Tk.ze s) (by omega)
  have h2:=sI (Sl.trim v) (Nat.le_trans (iw v) (by omega)) (kF hts)
  rw[hx] at h1;simp only[Option.map_some,Option.bind_some] at h1 ⊢;unfold jv at h2 ⊢;cases hy:Sl.parse (Sl.trim v) with
  | none =>
   rw[hy] at h2;simp only at h2 ⊢;refine ah rfl rfl Tryz.func19 rfl Tryz.ntmps19 ⟨by simp,by simp[LK]⟩ ?_
   simp only[go_sem,reduceLT,reduceCtorEq,reduceEqDiff,Nat.reduceBEq,reduceAdd,hr,h1,h2,TV.flat,Int.reduceBNe]
  | some cs =>
   rw[hy] at h2;simp only at h2 ⊢;refine ah rfl rfl Tryz.func19 rfl Tryz.ntmps19 ⟨by simp,by simp[LK]⟩ ?_
   simp only[go_sem,reduceLT,reduceCtorEq,reduceEqDiff,Nat.reduceBEq,reduceAdd,hr,h1,h2,TV.flat,Int.reduceBNe]
theorem qG {v:List Val} {cs:List Cpx} (h:Sl.parse v=some cs):den K 22 [L (encC cs),L (encC cs)] []=some (.ret (B true) []):=by
 obtain⟨h1,h2⟩:=AP h;exact D1 cs (by omega) fun c hc=>by
  obtain⟨h3,h4⟩:=h2 c hc;exact⟨by omega,fun p hp=>wA p.l (by have:=(h4 p hp).1;omega) (h4 p hp).2⟩
theorem Eo:den K 22 [.c .nils,.c .nils] []=some (.ret (B true) []):=by
 exact nu.2 ⟨60,by kernel_rfl⟩
attribute [local go_sem] nC gM c6 dK bX dx eI eJ qS mZ
theorem aB (k a b:Int) (n v:List UInt8):den K 103 [.agg [.pv (.int .i64 k),.pv (.str n),.pv (.str v),.pv (.int .i64 a),.pv (.int .i64 b),.nils]] []=some (.ret (.agg [.pv (.int .i64 k),.pv (.str n),.pv (.str v),.pv (.int .i64 a),.pv (.int .i64 b)]) []):=by
 have hr:Tryz.f103.results=#[.cell 2 146]:=rfl
 refine ah rfl rfl Tryz.func103 rfl Tryz.ntmps103 ⟨by simp,by simp[LK]⟩ ?_
 simp only[go_sem,reduceLT,reduceEqDiff,Nat.reduceBEq,reduceAdd,reduceSub,reduceLeDiff,ab gM mf,hr]
theorem pd (k:Int) (s:List UInt8) (n:Int) (hn:I64 n) (hs:s.length<1000000000):den K 153 [.agg [.pv (.int .i64 k),.pv (.str s),.pv (.int .i64 n)]] []=some (.ret (B (Tk.may ⟨k,s,n⟩)) []):=Hr ⟨k,s,n⟩ hn hs
theorem m6 (s:List UInt8) (hs:s.length<1000000000):den K 152 [T s] []=some (.ret (B (Tk.may ⟨1,s,0⟩)) []):=by
 have hr:Tryz.f152.results=#[.tmp 2]:=rfl
 have h:=pd 1 s 0 z64 hs
 refine ah rfl rfl Tryz.func152 rfl Tryz.ntmps152 ⟨by simp,by simp[LK]⟩ ?_
 simp only[go_sem,reduceLT,reduceCtorEq,reduceEqDiff,Nat.reduceBEq,reduceAdd,reduceLeDiff,ab ai am,hr,h]
end Go.Abs
