/-
  WHAT THE DOCUMENT'S ANSWER COMPUTES, layer 1: the tokens of a text; whether tokens may be.
  WHAT THE FUNCTIONS COMPUTE, layer 2: parsing; whether values may be.
  WHAT THE FUNCTIONS COMPUTE, layer 4, the document's reader of selectors: lists of them; texts.
  WHAT THE FUNCTIONS COMPUTE, layer 4, the program's reader of selectors: a complex selector.
  WHAT THE FUNCTIONS COMPUTE, layer 3: the text of values, the values of a text.
  WHAT THE FUNCTIONS COMPUTE, layer 4, the program's reader of selectors: lists of them; texts.
  WHAT THE FUNCTIONS COMPUTE, layer 4: whether a simple selector may be, as the document tells. (Printed by gens9.py.)
  SELECTORS THAT WERE PARSED: they are the same as themselves, may be, and are of little.
  SelsCommas: the loop over the parts of a list.
-/
import Derived.Test.YtlomcifkckgneaaGreatDoorRc4
import Derived.Test.YtlomcifkckgneaaGreatDoorRc6
import Derived.Test.YtlomcifkckgneaaGreatDoorRc7
import Derived.Test.YtlomcifkckgneaaGreatDoorRc9
import Derived.Test.YtlomcifkckgneaaGreatDoorRc11
import Derived.Test.YtlomcifkckgneaaGreatDoorRc14
import Derived.Test.YtlomcifkckgneaaGreatDoorRc16
import Derived.Test.YtlomcifkckgneaaGreatDoorRc17
set_option linter.unusedSimpArgs false
set_option linter.unusedVariables false
namespace Go.Abs
open Go Go.Proofs
set_option maxRecDepth 10000
attribute [local go_sem] cM bt ck bJ bH cL cq co aR bU bO ci cN bF opd avOf cvOf St.degAt St.put okPV dA okAV cZ cY cX cG aH if_true Bool.false_eq_true if_false Option.map_some Option.map_none Option.bind_some Option.bind_none dC dr upd List.toList_toArray cA steal bm mvB c8 cF cE AV.deg CV.deg AV.gv AV.isIter cy cj bK List.length_nil List.length_cons List.filterMap_cons List.filterMap_nil beq_iff_eq List.getElem?_cons_zero List.getElem?_cons_succ Option.getD_some dE ev Bool.false_and Bool.and_false Bool.and_self K_P eN bZ cz bh lend back idx dedup AV.ren CV.ren TV.ren AV.ptrs CV.ptrs cH AV.flat CV.flat cf bQ aV cK cQ dM bW aM bX bc bv bR bd d8 CV.pv? content bo ownT aW reps pvs chunks bM leave dU cw cV bG bg TV.deg TV.av LK CV.plain CV.noBld cJ dX bound List.map_cons List.map_nil List.all_cons List.all_nil List.any_cons List.any_nil List.contains_cons List.contains_nil List.elem_cons List.elem_nil List.cons_append List.nil_append List.append_nil List.flatMap_cons List.flatMap_nil List.zip_cons_cons List.zip_nil_left List.zip_nil_right List.take_succ_cons List.take_zero List.take_nil List.drop_succ_cons List.drop_zero List.drop_nil List.isEmpty_nil List.isEmpty_cons Bool.and_true Bool.true_and Bool.or_true Bool.true_or Bool.or_false Bool.false_or Bool.not_true Bool.not_false Nat.add_zero Nat.zero_add Option.isNone_none Option.isNone_some Option.getD_none true_and and_true not_true_eq_false not_false_eq_true decide_true decide_false Nat.le_refl and_self Bool.not_eq_true Nat.sub_self or_true true_or Option.some.injEq List.length_map List.nil_eq and_false false_and AV.live CV.live CV.liveIn dq aX Option.orElse_some Option.orElse_none head a7 a6 Int.lt_irrefl List.length_append ite_self dz ce cO bu Key.clash Key.sees Key.writes Nat.lt_irrefl gt_iff_lt cg dc false_or or_false beq_self_eq_true Bool.true_beq Bool.false_beq BQ IC ab aQ dJ cx bC bf D0 Jm
abbrev FF (s:List UInt8) (i:Nat) (ys:List Tok):St := { sl:=upd (upd (upd bot 4 (I i)) 3 (.c (.own 91 (ys.map Tok.enc)))) 0 (T s),bx:=nobox,nt:=27 }
theorem Ht {t:Tok} (h:Tk.Good t):(t.kind != 0)=true:=by
 rw[bne_iff_ne]
 cases h<;>simp
set_option maxHeartbeats 4000000 in
theorem DU (s:List UInt8) (hs:s.length<4000000000) : ∀ (l:List UInt8) (i:Nat) (ys:List Tok),s.drop i=l→i≤s.length→ys.length+l.length<4000000000 →
  Ends (exL K 33 (.loop (ao Tryz.f33 3)) (FF s i ys)) fun o S=>o = .exit 0∧S.nt=27∧S.sl 3 = .c (.own 91 ((ys++Tk.all l).map Tok.enc)):=by
 refine Tk.nY (Q:=fun l => ∀ (i:Nat) (ys:List Tok),s.drop i=l→i≤s.length→ys.length+l.length<4000000000 →
  Ends (exL K 33 (.loop (ao Tryz.f33 3)) (FF s i ys)) fun o S=>o = .exit 0∧S.nt=27∧S.sl 3 = .c (.own 91 ((ys++Tk.all l).map Tok.enc))) ?_ ?_
 ·intro i ys hd hi _
  have hin:i=s.length:=by
   have:=List.drop_eq_nil_iff.1 hd
   omega
  subst hin
  rw[Tk.all_nil,List.append_nil]
  conv in ao _ _=>whnf
  rw[aw]
  simp only[go_sem,Nat.reduceLT,reduceCtorEq,Nat.reduceEqDiff,Nat.reduceBEq,Nat.reduceAdd,aE al,ay]
 ·intro c r ih i ys hd hi hl
  obtain ⟨g1,g2,g3⟩:=bS hd
  have hp:=Tk.kz c r
  have hle:=Tk.v7 c r
  have hn:=DP s i c r hs hd
  have hlt:decide ((i:Int)<(s.length:Int))=true:=decide_eq_true (by omega)
  have hlen:(c::r).length=s.length - i:=by rw[←hd,List.length_drop]
  have hdd:s.drop (i+(Tk.step c r).2)=(c::r).drop (Tk.step c r).2:=by rw[←List.drop_drop,hd]
  have hall:=Tk.all_cons c r
  have ih':=ih (i+(Tk.step c r).2)
  simp only[d7,Tok.cells] at hn
  cases hst:(Tk.step c r).1 with
  | none =>
   rw[hst] at hn hall
   simp only[fF,Option.getD_none] at hn
   simp only[Option.toList_none,List.nil_append] at hall
   have e0:((0:Int) != 0)=false:=by decide
   have ih2:=ih' ys hdd (by omega) (by rw[List.length_drop];omega)
   rw[←hall] at ih2
   conv at ih2 in ao _ _=>whnf
   conv in ao _ _=>whnf
   rw[aw]
   simp only[go_sem,Nat.reduceLT,reduceCtorEq,Nat.reduceEqDiff,Nat.reduceBEq,Nat.reduceAdd,Nat.reduceMul,aE al,am (len:=1) aA aQ ab ⟨rfl,by decide,by decide⟩,cB j5,br aA,hlt,hn,e0,TV.flat]
   rw[aB]
   simp only[go_sem,reduceCtorEq,Nat.reduceEqDiff]
   exact ih2
  | some t =>
   rw[hst] at hn hall
   simp only[fF,Option.getD_some] at hn
   simp only[Option.toList_some,List.cons_append,List.nil_append] at hall
   have e0:=Ht (Tk.tA hst)
   have hla:ys.length+1<cD:=by simp[cD];simp only[List.length_cons] at hl;omega
   have ih2:=ih' (ys++[t]) hdd (by omega) (by rw[List.length_append,List.length_drop];simp only[List.length_cons,List.length_nil] at *;omega)
   rw[List.append_assoc,List.cons_append,List.nil_append,←hall] at ih2
   have hys:(ys++[t]).map Tok.enc=ys.map Tok.enc++[[.int .i64 t.kind,.str t.text,.int .i64 t.n]]:=by simp[Tok.enc]
   simp only[FF,hys] at ih2
   conv at ih2 in ao _ _=>whnf
   conv in ao _ _=>whnf
   rw[aw]
   simp only[go_sem,Nat.reduceLT,reduceCtorEq,Nat.reduceEqDiff,Nat.reduceBEq,Nat.reduceAdd,Nat.reduceMul,aE al,am (len:=1) aA aQ ab ⟨rfl,by decide,by decide⟩,cB j5,br aA,hlt,hn,e0,TV.flat,hla,jj,wl]
   rw[aB]
   simp only[go_sem,reduceCtorEq,Nat.reduceEqDiff]
   exact ih2
theorem xA (s:List UInt8) (hs:s.length<4000000000):den K 33 [T s] []=some (.ret (L ((Tk.all s).map Tok.enc)) []):=by
 refine ai rfl rfl Tryz.func33 rfl Tryz.ntmps33 ⟨by simp,by simp[LK]⟩ ?_
 have hr:Tryz.f33.results = #[.tmp 2]:=rfl
 have hl:=DU s hs s 0 [] rfl (Nat.zero_le _) (by simp;omega)
 conv at hl in ao _ _=>whnf
 obtain ⟨o,S',e2,rfl,hn,h3⟩:=hl
 simp only[List.nil_append] at h3
 simp only[go_sem,Nat.reduceLT,Nat.reduceEqDiff,Nat.reduceBEq,Nat.reduceAdd,am (len:=0) aA aQ ab ⟨rfl,by decide,by decide⟩]
 rw[aB]
 simp only[go_sem,reduceCtorEq,Nat.reduceEqDiff]
 erw [e2]
 simp only[go_sem,Nat.reduceLT,Nat.reduceEqDiff,Nat.reduceBEq,Nat.reduceAdd,hr,hn,h3]
theorem F9 (t:Tok) (hn:I64 t.n) (hl:t.text.length<1000000000):den K 153 [.agg t.cells] []=some (.ret (B (Tk.may t)) []):=by
 have h1:=EJ t hn (by omega)
 have hlen:=BH t hn
 have h2:=xA (oneS t) (by omega)
 have hal:=Tk.jd (oneS t)
 unfold Tk.may
 generalize Tk.all (oneS t)=a at h2 hal
 simp only[Tok.cells] at h1 ⊢
 refine ai rfl rfl Tryz.func153 rfl Tryz.ntmps153 ⟨by simp,by simp[LK]⟩ ?_
 have hr:Tryz.f153.results = #[.tmp 2]:=rfl
 match a with
 | [] =>
  have e:((0:Int)==1)=false:=by decide
  have e2:decide (([]:List Tok)=[t])=false:=by simp
  rw[e2]
  simp[go_sem,Nat.reduceLT,Nat.reduceEqDiff,Nat.reduceBEq,Nat.reduceAdd,ah aA,h1,h2]
 | [y] =>
  have heq:=lR y.kind t.kind y.n t.n y.text t.text
  rw[mL] at heq
  have e2:decide ([y]=[t])=decide (y=t):=by simp
  rw[e2]
  simp only[List.map_cons,List.map_nil,Tok.enc] at h2
  have g0:([[PV.int .i64 y.kind,.str y.text,.int .i64 y.n]]:List (List PV))[(0:Int).toNat]? = some [.int .i64 y.kind,.str y.text,.int .i64 y.n]:=rfl
  have e1:(((0+1:Nat):Int)==1)=true:=by decide
  have e1':(((1:Nat):Int)==1)=true:=by decide
  cases hyt:decide (y=t)<;>rw[hyt] at heq<;>simp only[go_sem,Nat.reduceLT,Nat.reduceEqDiff,Nat.reduceBEq,Nat.reduceAdd,Nat.reduceSub,Nat.reduceLeDiff,ah aA,ae aA,hr,h1,h2,g0,heq,Int.le_refl,e1]
 | y::z::l =>
  have e:(((y::z::l).length:Int)==1)=false:=by rw[beq_eq_false_iff_ne];simp only[List.length_cons];omega
  have e2:decide (y::z::l=[t])=false:=by simp
  rw[e2]
  generalize y::z::l=b at h2 e
  simp only[go_sem,Nat.reduceLT,Nat.reduceEqDiff,Nat.reduceBEq,Nat.reduceAdd,Nat.reduceSub,Nat.reduceLeDiff,ah aA,hr,h1,h2,e]
attribute [local go_sem] BM fW p7 jJ kf iI jP cR eD
theorem Hr (l:List Tok) (hl:l.length≤100000000) : ∀ (m:Nat) (i:Nat),l.length - i≤m→i≤l.length → ∀ (kind:Int) (left:Nat),left<1000 → ∀ (e:Nat) (acc:List Val),acc.length≤i→(e=93∨acc=[]) →
  Ends (exL K 64 ulp2 (u2H l kind left i e acc)) (ULoop2 l kind left i acc):=by
 intro m
 induction m with
 | zero =>
  intro i hm hi kind left hleft e acc hacc he
  obtain rfl:i=l.length:=by omega
  refine cm (Gm l kind left e acc) fun o S q => ?_
  unfold ULoop2
  rw[List.drop_length,Ne.jg]
  refine ⟨l.length,List.drop_length,Nat.le_refl _,Nat.le_refl _,.inr ?_⟩
  rw[List.append_nil]
  exact ⟨q.1,q.2.1,q.2.2.1,q.2.2.2.1,q.2.2.2.2.1,e,q.2.2.2.2.2⟩
 | succ m ih =>
  intro i hm hi kind left hleft e acc hacc he
  by_cases hil:i=l.length
  ·subst hil
   refine cm (Gm l kind left e acc) fun o S q => ?_
   unfold ULoop2
   rw[List.drop_length,Ne.jg]
   refine ⟨l.length,List.drop_length,Nat.le_refl _,Nat.le_refl _,.inr ?_⟩
   rw[List.append_nil]
   exact ⟨q.1,q.2.1,q.2.2.1,q.2.2.2.1,q.2.2.2.2.1,e,q.2.2.2.2.2⟩
  ·have hlt:i<l.length:=by omega
   have hd:l.drop i=l[i]::l.drop (i+1):=List.drop_eq_getElem_cons hlt
   have hg:l[i]? = some l[i]:=List.getElem?_eq_getElem hlt
   generalize l[i]=t at hd hg
   have hu:=Ne.kX kind left t (l.drop (i+1))
   rw[←hd] at hu
   cases hb:Ne.dL kind t with
   | true =>
    refine cm (Hw l kind left i e acc t hg hl hb) fun o S q => ?_
    rw[hb,if_pos rfl] at hu
    unfold ULoop2
    rw[hu]
    exact ⟨i+1,rfl,hlt,by omega,.inl (by rw[List.append_nil];exact q)⟩
   | false =>
    rw[hb,if_neg (by simp)] at hu
    by_cases h0:Ne.opens t=0
    ·rw[if_pos h0] at hu
     have hs:=Kx l kind left i e acc t hg hl hb he (by omega) h0
     rw[hs]
     have hacc2:(acc++[Val.mk 1 t []]).length≤i+1:=by rw[List.length_append,List.length_singleton];omega
     have hmm:l.length - (i+1)≤m:=by omega
     have hi:=ih (i+1) hmm hlt kind left hleft 93 (acc++[.mk 1 t []]) hacc2 (Or.inl rfl)
     refine cm hi fun o S q => ?_
     unfold ULoop2 at q ⊢
     rw[hu]
     cases hv:Ne.dQ kind left (l.drop (i+1)) with
     | none=>rw[hv] at q;exact q
     | some x =>
      rw[hv] at q
      obtain ⟨j,q1,q2,q3,q4⟩:=q
      have ha:acc++Val.mk 1 t []::x.1=acc++[Val.mk 1 t []]++x.1:=by simp
      refine ⟨j,q1,q2,by omega,?_⟩
      show Ret2 (encL (acc++Val.mk 1 t []::x.1)) _ _ _ _∨_
      rw[ha]
      exact q4
    ·rw[if_neg h0] at hu
     cases left with
     | zero =>
      refine cm (HQ l kind i e acc t hg hl hb h0) fun o S q => ?_
      unfold ULoop2
      rw[hu]
      exact q
     | succ n =>
      have hn:n<1000:=by omega
      have hmm:l.length - (i+1)≤m:=by omega
      have hin:=FX (ih (i+1) hmm hlt (Ne.opens t) n hn 0 [] (Nat.zero_le _) (Or.inr rfl))
      unfold UDen2 at hin
      simp only at hu
      cases hv:Ne.dQ (Ne.opens t) n (l.drop (i+1)) with
      | none =>
       rw[hv] at hin hu
       obtain ⟨a,b,hin⟩:=hin
       refine cm (KF l kind n i e acc t hg hl hn hb h0 a b hin) fun o S q => ?_
       unfold ULoop2
       rw[hu]
       exact q
      | some x =>
       obtain ⟨vs,rest⟩:=x
       rw[hv] at hin hu
       obtain ⟨j,q1,q2,q3,hin⟩:=hin
       have hs:=K3 l kind n i j e acc t vs hg hl hn hb he (by omega) h0 hin
       rw[hs]
       have hacc2:(acc++[Val.mk (Ne.opens t) (if Ne.opens t=5 then t else Ne.tok0) vs]).length≤j:=by rw[List.length_append,List.length_singleton];omega
       have hmm2:l.length - j≤m:=by omega
       have hi:=ih j hmm2 q2 kind (n+1) hleft 93 (acc++[.mk (Ne.opens t) (if Ne.opens t=5 then t else Ne.tok0) vs]) hacc2 (Or.inl rfl)
       refine cm hi fun o S q => ?_
       unfold ULoop2 at q ⊢
       rw[q1] at q
       simp only at hu
       rw[hu]
       cases hv2:Ne.dQ kind (n+1) rest with
       | none=>rw[hv2] at q;exact q
       | some y =>
        rw[hv2] at q
        obtain ⟨j',r1,r2,r3,r4⟩:=q
        have ha:acc++Val.mk (Ne.opens t) (if Ne.opens t=5 then t else Ne.tok0) vs::y.1=acc++[Val.mk (Ne.opens t) (if Ne.opens t=5 then t else Ne.tok0) vs]++y.1:=by simp
        refine ⟨j',r1,r2,by omega,?_⟩
        show Ret2 (encL (acc++Val.mk (Ne.opens t) (if Ne.opens t=5 then t else Ne.tok0) vs::y.1)) _ _ _ _∨_
        rw[ha]
        exact r4
theorem zf (l:List Tok) (hl:l.length≤100000000) (left:Nat) (hleft:left<1000):UDen2 l 0 left 0 :=
 FX (Hr l hl l.length 0 (by omega) (Nat.zero_le _) 0 left hleft 0 [] (Nat.zero_le _) (Or.inr rfl))
def my (deep:Int) (l:List Tok):AV :=
 if deep<1∨60<deep then .tup [.c .nils,.c (.pv (.int .i64 1))]
 else match Ne.dQ 0 deep.toNat l with
  | some x => .tup [.c (.pv (.sl (encL x.1))),.c (.pv (.int .i64 0))]
  | none => .tup [.c .nils,.c (.pv (.int .i64 20))]
theorem zI (l:List Tok) (hl:l.length≤100000000) (deep:Int):den K 32 [L (l.map Tok.enc),I deep] []=some (.ret (my deep l) []):=by
 refine ai rfl rfl Tryz.func32 rfl Tryz.ntmps32 ⟨by simp,by simp[LK]⟩ ?_
 have hr:Tryz.f32.results = #[.tmp 4,.tmp 5]:=rfl
 unfold my
 by_cases h1:deep<1
 ·have e1:decide (deep<1)=true:=decide_eq_true h1
  rw[if_pos (.inl h1)]
  simp only[go_sem,Nat.reduceLT,Nat.reduceEqDiff,Nat.reduceBEq,Nat.reduceAdd,hr,e1]
 ·have e1:decide (deep<1)=false:=decide_eq_false h1
  by_cases h2:60<deep
  ·have e2:decide (60<deep)=true:=decide_eq_true h2
   rw[if_pos (.inr h2)]
   simp only[go_sem,Nat.reduceLT,Nat.reduceEqDiff,Nat.reduceBEq,Nat.reduceAdd,hr,e1,e2]
  ·have e2:decide (60<deep)=false:=decide_eq_false h2
   rw[if_neg (by omega)]
   obtain ⟨d,rfl⟩ : ∃ d:Nat,deep=d:=⟨deep.toNat,by omega⟩
   rw[Int.toNat_natCast]
   have hu:=zf l hl d (by omega)
   unfold UDen2 at hu
   rw[List.drop_zero] at hu
   have z0:((0:Nat):Int)=0:=rfl
   rw[z0] at hu
   cases hv:Ne.dQ 0 d l with
   | some x =>
    rw[hv] at hu
    obtain ⟨j,_,_,_,hu⟩:=hu
    simp only[go_sem,Nat.reduceLT,reduceCtorEq,Nat.reduceEqDiff,Nat.reduceBEq,Nat.reduceAdd,Nat.reduceSub,Nat.reduceLeDiff,hr,e1,e2,hu]
   | none =>
    rw[hv] at hu
    obtain ⟨a,b,hu⟩:=hu
    simp only[go_sem,Nat.reduceLT,reduceCtorEq,Nat.reduceEqDiff,Nat.reduceBEq,Nat.reduceAdd,Nat.reduceSub,Nat.reduceLeDiff,hr,e1,e2,hu]
abbrev encC (l:List Cpx):List (List PV):=l.map Cpx.enc
theorem mJ (l:List Cpx):lens 2 (encC l)=true:=by
 simp only[lens,List.all_map,List.all_eq_true]
 intro x _
 rfl
theorem E4 (l:List Cpx) (c:Cpx):encC l++[[.sl (encQ c.parts),.str c.pseudo]]=encC (l++[c]):=by
 show _=(l++[c]).map Cpx.enc
 rw[List.map_append];rfl
theorem mw (l:List (List Val)):(encP l).length=l.length:=List.length_map ..
def gx (x:Option (List Cpx)):AV:=match x with
 | some cs => .tup [.c (.pv (.sl (encC cs))),.c (.pv (.int .i64 0))]
 | none => .tup [.c .nils,.c (.pv (.int .i64 40))]
theorem oW (s:List UInt8):(Tk.all s).length≤s.length:=Tk.jd s
theorem IV {l:List Tok} {v:List Val} {n:Nat} (h:Ne.parse 60 l=some v) (hl : ∀ t∈l,t.text.length≤n) (hn:n<1000000000):TSh v:=fun t ht=>by
 obtain ⟨_,_,_,c,hc⟩:=Ne.jB h
 rw[hc] at ht
 rcases List.mem_append.1 ht with ht|ht
 ·have:=hl t ht;omega
 ·obtain ⟨k,_,rfl⟩:=List.mem_map.1 ht
  unfold Ne.fw
  simp
attribute [local go_sem] fe jv g9 kZ Da He g7 fg aI fS Hy eU
abbrev cpxE (c:Cpx):AV := .agg [.pv (.sl (encQ c.parts)),.pv (.str c.pseudo)]
abbrev cxpH (l:List Val) (cb:Int) (e:Nat) (ps:List Prt):St :=
  { sl:=upd (upd (upd (upd bot 4 (I cb)) 3 (.c (.loc 3 0))) 2 (.c (.loc 2 0))) 0 P0,
    bx:=upd (upd (upd nobox 100000 (some (rdB l))) 3 (some [.own e (encQ ps),.pv (.str [])])) 2 (some [.own 0 [],.pv (.str [])]),nt:=35 }
noncomputable def cxplp:Code := .loop (ao Tryz.f47 3)
theorem GS (l:List Val) (cb:Int) (e:Nat) (ps:List Prt) (h : ¬ ps.length<16) :
  Ends (exL K 47 cxplp (cxpH l cb e ps)) fun o S=>o = .pan du∧S.bx 100000=some (rdB l):=by
 have e1:decide ((ps.length:Int)<16)=false:=decide_eq_false (by omega)
 have hmn:=gk
 unfold cxplp
 conv in ao _ _=>whnf
 rw[aw]
 simp only[go_sem,Nat.reduceLT,reduceCtorEq,Nat.reduceEqDiff,Nat.reduceBEq,ah aN,lO,e1,hmn,ay]
theorem HE (l m:List Val) (cb:Int) (e:Nat) (ps:List Prt) (h:ps.length<16) (hc:den K 91 [P0] [rdB l]=some (.pan du [rdB m])) :
  Ends (exL K 47 cxplp (cxpH l cb e ps)) fun o S=>o = .pan du∧S.bx 100000=some (rdB m):=by
 have e1:decide ((ps.length:Int)<16)=true:=decide_eq_true (by omega)
 have hmy:=eC
 simp only[rdB] at hc
 unfold cxplp
 conv in ao _ _=>whnf
 rw[aw]
 simp only[go_sem,Nat.reduceLT,reduceCtorEq,Nat.reduceEqDiff,Nat.reduceBEq,Nat.reduceAdd,ah aN,lO,e1,hmy,hc,ay]
def uP (ps:List Prt) (s:List UInt8) (r:List Val) (o:Out) (S:St):Prop:=o = .ret∧S.nt=35∧S.sl 2 = .c (.loc 2 0)∧S.bx 2=some [.pv (.sl (encQ ps)),.pv (.str s)]∧S.bx 100000=some (rdB r)
set_option maxHeartbeats 8000000 in
theorem FK (l r:List Val) (cb:Int) (e:Nat) (ps:List Prt) (h:ps.length<16) (he:e=50∨ps=[]) (ls:List Sim) (s:List UInt8) (hs:s≠[]) (hc:den K 91 [P0] [rdB l]=some (.ret (pL (ls,s)) [rdB r])) :
  Ends (exL K 47 cxplp (cxpH l cb e ps)) fun o S=>uP (ps++[⟨cb,ls⟩]) s r o S:=by
 have e1:decide ((ps.length:Int)<16)=true:=decide_eq_true (by omega)
 have e2:(s==[])=false:=by rw[beq_eq_false_iff_ne];exact hs
 have hmy:=eC
 have hown:e=50∨(encQ ps).isEmpty=true:=by
  rcases he with rfl|rfl
  ·exact .inl rfl
  ·exact .inr rfl
 have hlim:ps.length+1<cD:=by unfold cD;omega
 have hlv:=o0 ps
 simp only[rdB,pL] at hc
 unfold uP
 unfold cxplp
 conv in ao _ _=>whnf
 rw[aw]
 simp only[go_sem,Nat.reduceLT,reduceCtorEq,Nat.reduceEqDiff,Nat.reduceBEq,Nat.reduceAdd,Nat.reduceLeDiff,Nat.reduceMul,ah aN,af dh jw,am (len:=1) aN gJ dh ⟨rfl,by decide,by decide⟩,cB j6,br aN,lO,e1,e2,hmy,hc,hown,hlim,hlv,r9,rI,bne,ay]
set_option maxHeartbeats 8000000 in
theorem Gy (l r r2:List Val) (cb:Int) (e:Nat) (ps:List Prt) (h:ps.length<16) (he:e=50∨ps=[]) (ls:List Sim) (hc:den K 91 [P0] [rdB l]=some (.ret (pL (ls,[])) [rdB r]))
  (hk:den K 92 [P0] [rdB r]=some (.ret (I 0) [rdB r2])) :
  Ends (exL K 47 cxplp (cxpH l cb e ps)) fun o S=>uP (ps++[⟨cb,ls⟩]) [] r2 o S:=by
 have e1:decide ((ps.length:Int)<16)=true:=decide_eq_true (by omega)
 have e2:(([]:List UInt8)==[])=true:=rfl
 have e3:((0:Int)==0)=true:=rfl
 have hmy:=eC
 have hown:e=50∨(encQ ps).isEmpty=true:=by
  rcases he with rfl|rfl
  ·exact .inl rfl
  ·exact .inr rfl
 have hlim:ps.length+1<cD:=by unfold cD;omega
 have hlv:=o0 ps
 simp only[rdB,pL] at hc hk
 unfold uP
 unfold cxplp
 conv in ao _ _=>whnf
 rw[aw]
 simp only[go_sem,Nat.reduceLT,reduceCtorEq,Nat.reduceEqDiff,Nat.reduceBEq,Nat.reduceAdd,Nat.reduceLeDiff,Nat.reduceMul,ah aN,af dh jw,am (len:=1) aN gJ dh ⟨rfl,by decide,by decide⟩,cB j6,br aN,lO,e1,e2,e3,hmy,hc,hk,hown,hlim,hlv,r9,rI,bne,ay]
set_option maxHeartbeats 8000000 in
theorem FP (l r r2:List Val) (cb cb2:Int) (e:Nat) (ps:List Prt) (h:ps.length<16) (he:e=50∨ps=[]) (ls:List Sim) (hc:den K 91 [P0] [rdB l]=some (.ret (pL (ls,[])) [rdB r]))
  (hk:den K 92 [P0] [rdB r]=some (.ret (I cb2) [rdB r2])) (h0:cb2≠0) :
  exL K 47 cxplp (cxpH l cb e ps)=exL K 47 cxplp (cxpH r2 cb2 50 (ps++[⟨cb,ls⟩])):=by
 have e1:decide ((ps.length:Int)<16)=true:=decide_eq_true (by omega)
 have e2:(([]:List UInt8)==[])=true:=rfl
 have e3:(cb2==0)=false:=by rw[beq_eq_false_iff_ne];exact h0
 have hmy:=eC
 have hown:e=50∨(encQ ps).isEmpty=true:=by
  rcases he with rfl|rfl
  ·exact .inl rfl
  ·exact .inr rfl
 have hlim:ps.length+1<cD:=by unfold cD;omega
 have hlv:=o0 ps
 simp only[rdB,pL] at hc hk
 unfold cxplp
 conv in ao _ _=>whnf
 conv in ao _ _=>whnf
 conv in exL _ _ _ (cxpH l cb e ps)=>rw[aw]
 simp only[go_sem,Nat.reduceLT,reduceCtorEq,Nat.reduceEqDiff,Nat.reduceBEq,Nat.reduceAdd,Nat.reduceLeDiff,Nat.reduceMul,ah aN,af dh jw,am (len:=1) aN gJ dh ⟨rfl,by decide,by decide⟩,cB j6,br aN,lO,e1,e2,e3,hmy,hc,hk,hown,hlim,hlv,r9,rI,bne]
 rw[aB]
 simp only[go_sem,reduceCtorEq,Nat.reduceEqDiff,Nat.reduceBEq]
theorem tW : ∀ (f:Nat) (acc:List Sim) (l:List Val) (y:List Sim×List UInt8) (r:List Val),Sl.lI f acc l=some (y,r) → ∃ p,l=p++r
 | 0,_,_,_,_,h=>by cases h
 | f+1,acc,l,y,r,h=>by
  rw[Sl.lI] at h
  split at h
  ·split at h
   ·cases h
   ·cases h;exact ⟨[],rfl⟩
  ·split at h
   ·rw[Option.map_eq_some_iff] at h
    obtain ⟨z,hz,e⟩:=h
    cases e
    unfold Sl.lG at hz
    split at hz
    ·rename_i s m hn
     split at hz
     ·cases hz
      obtain ⟨t,c,e,_⟩:=Sl.qW hn
      exact ⟨l.take 2++[.mk 1 t c],by rw[List.append_assoc];simp only[List.singleton_append];rw[←e,List.take_append_drop]⟩
     ·cases hz
    ·cases hz
   ·split at h
    ·split at h
     ·rename_i x m hs
      obtain ⟨p,rfl,_⟩:=Sl.mC _ _ _ _ _ hs
      obtain ⟨q,e⟩:=tW f _ m y r h
      exact ⟨p++q,by rw[List.append_assoc,←e]⟩
     ·cases h
    ·cases h
theorem Dd (l:List Val) : ∃ p,l=p++(Sl.jF l).2:=by
 obtain ⟨p,hp⟩:=List.dropWhile_suffix Sl.aq (l:=l)
 have key : ∀ {s:List UInt8} {x:List Val},Sl.sign s (l.dropWhile Sl.aq)=some x → ∃ p,l=p++x.dropWhile Sl.aq:=fun {s x} h=>by
  obtain ⟨v,e,_⟩:=Sl.fm h
  obtain ⟨q,hq⟩:=List.dropWhile_suffix Sl.aq (l:=x)
  exact ⟨p++(v::q),by rw[←hp,e,List.append_assoc,List.cons_append,hq]⟩
 unfold Sl.jF
 simp only
 cases h1:Sl.sign [62] (l.dropWhile Sl.aq) with
 | some x=>exact key h1
 | none =>
  cases h2:Sl.sign [43] (l.dropWhile Sl.aq) with
  | some x=>exact key h2
  | none =>
   cases h3:Sl.sign [126] (l.dropWhile Sl.aq) with
   | some x=>exact key h3
   | none =>
    simp only
    split
    ·exact ⟨p,hp.symm⟩
    ·exact ⟨p,hp.symm⟩
theorem wk : ∀ (n:Nat) (l:List Val) (cb:Int) (e:Nat) (ps:List Prt),ps.length+n=16→Ne.size l≤60000000→TSh l→(e=50∨ps=[]) →
  Ends (exL K 47 cxplp (cxpH l cb e ps)) fun o S=>match Sl.cpxP n cb ps l with
   | some (c,r)=>uP c.parts c.pseudo r o S
   | none => ∃ m,o = .pan du∧S.bx 100000=some (rdB m)
 | 0,l,cb,e,ps,h,hsz,hts,he=>cm (GS l cb e ps (by omega)) fun o S q=>⟨l,q⟩
 | n+1,l,cb,e,ps,h,hsz,hts,he=>by
  have hl:l.length≤60000000:=Nat.le_trans (Ne.cU l) hsz
  have hc:=Ci l hsz hts
  rw[Sl.cpxP]
  cases hp:Sl.lI (l.length+1) [] l with
  | none =>
   rw[hp] at hc
   obtain ⟨m,hc⟩:=eR hc
   exact cm (HE l m cb e ps (by omega) hc) fun o S q=>⟨m,q⟩
  | some y =>
   obtain ⟨⟨ls,s⟩,r⟩:=y
   rw[hp] at hc
   have hc:=dP hc
   obtain ⟨p,hpl⟩:=tW _ _ _ _ _ hp
   simp only
   by_cases hs:s=[]
   ·subst hs
    rw[if_neg (by simp)]
    have hrl:r.length≤l.length:=by rw[hpl,List.length_append];omega
    have hk:=Dp r (by omega)
    by_cases h0:(Sl.jF r).1=0
    ·rw[if_pos h0]
     rw[h0] at hk
     exact Gy l r _ cb e ps (by omega) he ls hc hk
    ·rw[if_neg h0,FP l r _ cb _ e ps (by omega) he ls hc hk h0]
     obtain ⟨q,hq⟩:=Dd r
     have hsz2:Ne.size (Sl.jF r).2≤Ne.size l:=by
      have e1:Ne.size l=Ne.size p+Ne.size r:=by rw[hpl,jk]
      have e2:Ne.size r=Ne.size q+Ne.size (Sl.jF r).2:=by rw[←jk,←hq]
      omega
     exact wk n _ _ _ _ (by rw[List.length_append,List.length_singleton];omega) (by omega) (sk hts fun v hv=>by
      rw[hpl,List.mem_append]
      right
      rw[hq,List.mem_append]
      exact .inr hv) (.inl rfl)
   ·rw[if_pos hs]
    exact FK l r cb e ps (by omega) he ls s hs hc
set_option maxHeartbeats 8000000 in
theorem Jk (l:List Val) (hsz:Ne.size l≤60000000) (hts:TSh l):gF cpxE (Sl.cpxP 16 0 [] l) (den K 47 [P0] [rdB l]):=by
 have hr:Tryz.f47.results = #[.cell 2 47]:=rfl
 have h:=wk 16 l 0 0 [] rfl hsz hts (.inr rfl)
 unfold cxplp at h
 conv at h in ao _ _=>whnf
 obtain ⟨o,S,w,hq⟩:=h
 have e0:encQ []=[]:=rfl
 simp only[cxpH,rdB,e0] at w
 cases hc:Sl.cpxP 16 0 [] l with
 | none =>
  rw[hc] at hq
  obtain ⟨m,rfl,q1⟩:=hq
  refine ⟨m,?_⟩
  simp only[rdB] at q1 ⊢
  refine ai rfl rfl Tryz.func47 rfl Tryz.ntmps47 ⟨by simp,by simp[LK]⟩ ?_
  simp only[go_sem,Nat.reduceLT,Nat.reduceEqDiff,Nat.reduceBEq,Nat.reduceSub,Nat.reduceLeDiff]
  rw[aB]
  simp only[go_sem,reduceCtorEq,Nat.reduceEqDiff,Nat.reduceBEq,Nat.reduceSub,Nat.reduceLeDiff]
  erw [w]
  simp only[go_sem,hr,q1]
 | some y =>
  obtain ⟨c,r⟩:=y
  rw[hc] at hq
  unfold uP at hq
  obtain ⟨rfl,q1,q2,q3,q4⟩:=hq
  show den K 47 [P0] [rdB l]=some (.ret (cpxE c) [rdB r])
  simp only[rdB,cpxE] at q4 ⊢
  refine ai rfl rfl Tryz.func47 rfl Tryz.ntmps47 ⟨by simp,by simp[LK]⟩ ?_
  simp only[go_sem,Nat.reduceLT,Nat.reduceEqDiff,Nat.reduceBEq,Nat.reduceSub,Nat.reduceLeDiff]
  rw[aB]
  simp only[go_sem,reduceCtorEq,Nat.reduceEqDiff,Nat.reduceBEq,Nat.reduceSub,Nat.reduceLeDiff]
  erw [w]
  simp only[go_sem,Nat.reduceAdd,hr,q2,q3,q4]
attribute [local go_sem] IU IL
def vo (s:List UInt8):AV:=match Sl.lU s with
 | some a => .tup [.c (.pv (.sl (encL a))),.c (.pv (.int .i64 0))]
 | none => .tup [.c .nils,.c (.pv (.int .i64 20))]
theorem w7 {deep:Int} {l:List Tok} {vs:List Val} (h1:1≤deep) (h2:deep≤60) (h:Ne.parse deep.toNat l=some vs):my deep l = .tup [.c (.pv (.sl (encL vs))),.c (.pv (.int .i64 0))]:=by
 unfold my
 rw[if_neg (by omega)]
 unfold Ne.parse at h
 cases hu:Ne.dQ 0 deep.toNat l with
 | some x=>rw[hu] at h;cases h;rfl
 | none=>rw[hu] at h;cases h
theorem xL {deep:Int} {l:List Tok} (h1:1≤deep) (h2:deep≤60) (h:Ne.parse deep.toNat l=none):my deep l = .tup [.c .nils,.c (.pv (.int .i64 20))]:=by
 unfold my
 rw[if_neg (by omega)]
 unfold Ne.parse at h
 cases hu:Ne.dQ 0 deep.toNat l with
 | some x=>rw[hu] at h;cases h
 | none=>rfl
theorem rX (s:List UInt8) (hs:s.length<4000000000) (hal:(Tk.all s).length≤1000000):den K 11 [T s] []=some (.ret (vo s) []):=by
 have h1:=xA s hs
 have h2:=zI (Tk.all s) (by omega) 60
 unfold vo Sl.lU
 have e20:((20:Int) != 0)=true:=by decide
 have e00:((0:Int) != 0)=false:=by decide
 refine ai rfl rfl Tryz.func11 rfl Tryz.ntmps11 ⟨by simp,by simp[LK]⟩ ?_
 have hr:Tryz.f11.results = #[.tmp 2,.tmp 3]:=rfl
 cases hp:Ne.parse 60 (Tk.all s) with
 | none =>
  rw[xL (deep:=60) (by decide) (by decide) hp] at h2
  simp only[go_sem,Nat.reduceLT,reduceCtorEq,Nat.reduceEqDiff,Nat.reduceBEq,Nat.reduceAdd,hr,h1,h2,e20,Option.map_none,TV.flat]
 | some vs =>
  rw[w7 (deep:=60) (by decide) (by decide) hp] at h2
  obtain ⟨_,_,hsz,_⟩:=Ne.jB hp
  have hl:=Ne.cU vs
  have h3:=Ed vs (by omega)
  simp only[go_sem,Nat.reduceLT,reduceCtorEq,Nat.reduceEqDiff,Nat.reduceBEq,Nat.reduceAdd,hr,h1,h2,h3,e00,Option.map_some,TV.flat]
attribute [local go_sem] DH vE kG qp HT
theorem xQ {m m2:List Val} {out:List Cpx} {e:Nat} {c:Cpx} (he:e=47∨out=[]) (ho:out.length≤1000) (h:den K 47 [P0] [rdB m]=some (.ret (cpxE c) [rdB m2])) :
  den K 46 [P0,P1] [rdB m,[.own e (encC out)]]=some (.ret (.tup []) [rdB m2,[.own 47 (encC (out++[c]))]]):=by
 rw[kC (K:=K) (F:=parse1P) rfl rfl]
 have h1:e=47∨(encC out).isEmpty=true:=by
  rcases he with rfl|rfl
  ·exact .inl rfl
  ·exact .inr rfl
 have h2:(encC out).length+1<cD:=by rw[List.length_map];unfold cD;omega
 have h:=h
 simp only[cpxE] at h
 unfold parse1P
 simp only[and_self,if_true,Plan.run,h]
 rw[if_pos ⟨h1,mJ out,h2⟩]
 simp only[Plan.run,E4]
theorem yv {m m2:List Val} {out:List Cpx} {e:Nat} (h:den K 47 [P0] [rdB m]=some (.pan du [rdB m2])) :
  den K 46 [P0,P1] [rdB m,[.own e (encC out)]]=some (.pan du [rdB m2,[.top]]):=by
 rw[kC (K:=K) (F:=parse1P) rfl rfl]
 unfold parse1P
 simp only[and_self,if_true,Plan.run,h]
abbrev prpH (parts:List (List Val)) (i e:Nat) (out:List Cpx):St :=
  { sl:=upd (upd (upd (upd bot 11 (I i)) 10 (I parts.length)) 9 (L (encP parts))) 4 (.c (.loc 4 0)),bx:=upd nobox 4 (some [.own e (encC out)]),nt:=27 }
noncomputable def prplp:Code := .loop (ao Tryz.f17 3)
theorem I9 (parts:List (List Val)) (e:Nat) (out:List Cpx) :
  Ends (exL K 17 prplp (prpH parts parts.length e out)) fun o S=>o = .exit 0∧S.nt=27∧S.sl 4 = .c (.loc 4 0)∧S.bx 4=some [.own e (encC out)]:=by
 have hlt:decide ((parts.length:Int)<(parts.length:Int))=false:=decide_eq_false (by omega)
 unfold prplp
 conv in ao _ _=>whnf
 rw[aw]
 simp only[go_sem,Nat.reduceLT,Nat.reduceEqDiff,Nat.reduceBEq,ay]
set_option maxHeartbeats 4000000 in
theorem I5 (parts:List (List Val)) (i e:Nat) (out:List Cpx) (p:List Val) (hi:parts[i]? = some p) (hpl:parts.length≤200000000) (b:List CV) (hb : ∃ v:CV,b=[v])
  (hw:den K 37 [L (encL p),.c (.fn 46 [(100000,0)])] [[.own e (encC out)]]=some (.ret (I 40) [b])) :
  Ends (exL K 17 prplp (prpH parts i e out)) fun o S=>o = .ret∧S.sl 2 = .c .nils∧S.sl 3=I 40:=by
 have hil:i<parts.length:=(List.getElem?_eq_some_iff.1 hi).1
 have hlt:decide ((i:Int)<(parts.length:Int))=true:=decide_eq_true (by omega)
 have hget:(encP parts)[(i:Int).toNat]? = some [.sl (encL p)]:=by simp[hi]
 obtain ⟨v,rfl⟩:=hb
 unfold prplp
 conv in ao _ _=>whnf
 rw[aw]
 simp only[go_sem,Nat.reduceLT,Nat.reduceEqDiff,Nat.reduceBEq,Nat.reduceAdd,ae bE,hlt,hget,Int.natCast_nonneg,hw,gq,locs,jb,ay,Int.reduceBNe]
set_option maxHeartbeats 4000000 in
theorem Fg (parts:List (List Val)) (i e e':Nat) (out out':List Cpx) (p:List Val) (hi:parts[i]? = some p) (hpl:parts.length≤200000000) (ho:32<out'.length)
  (hw:den K 37 [L (encL p),.c (.fn 46 [(100000,0)])] [[.own e (encC out)]]=some (.ret (I 0) [[.own e' (encC out')]])) :
  Ends (exL K 17 prplp (prpH parts i e out)) fun o S=>o = .ret∧S.sl 2 = .c .nils∧S.sl 3=I 40:=by
 have hil:i<parts.length:=(List.getElem?_eq_some_iff.1 hi).1
 have hlt:decide ((i:Int)<(parts.length:Int))=true:=decide_eq_true (by omega)
 have h32:decide ((32:Int)<(out'.length:Int))=true:=decide_eq_true (by omega)
 have hget:(encP parts)[(i:Int).toNat]? = some [.sl (encL p)]:=by simp[hi]
 unfold prplp
 conv in ao _ _=>whnf
 rw[aw]
 simp only[go_sem,Nat.reduceLT,Nat.reduceEqDiff,Nat.reduceBEq,Nat.reduceAdd,ae bE,ah aP,hlt,hget,Int.natCast_nonneg,hw,h32,gq,locs,jb,ay,bne_self_eq_false]
set_option maxHeartbeats 4000000 in
theorem G6 (parts:List (List Val)) (i e e':Nat) (out out':List Cpx) (p:List Val) (hi:parts[i]? = some p) (hpl:parts.length≤200000000) (ho : ¬ 32<out'.length)
  (hw:den K 37 [L (encL p),.c (.fn 46 [(100000,0)])] [[.own e (encC out)]]=some (.ret (I 0) [[.own e' (encC out')]])) :
  exL K 17 prplp (prpH parts i e out)=exL K 17 prplp (prpH parts (i+1) e' out'):=by
 have hil:i<parts.length:=(List.getElem?_eq_some_iff.1 hi).1
 have hlt:decide ((i:Int)<(parts.length:Int))=true:=decide_eq_true (by omega)
 have h32:decide ((32:Int)<(out'.length:Int))=false:=decide_eq_false (by omega)
 have hget:(encP parts)[(i:Int).toNat]? = some [.sl (encL p)]:=by simp[hi]
 have hws:IntKind.i64.wrap ((i:Int)+1)=((i+1:Nat):Int):=bA i (by omega)
 unfold prplp
 conv in ao _ _=>whnf
 conv in ao _ _=>whnf
 conv in exL _ _ _ (prpH parts i e out)=>rw[aw]
 simp only[go_sem,Nat.reduceLT,Nat.reduceEqDiff,Nat.reduceBEq,Nat.reduceAdd,ae bE,ah aP,hlt,hget,Int.natCast_nonneg,hw,h32,hws,gq,locs,jb,bne_self_eq_false]
 rw[aB]
 simp only[go_sem,Nat.reduceEqDiff]
theorem uX (e:Nat) (c:List (List PV)) (f:Nat→Option Nat):([CV.own e c]).map (CV.ren f)=[CV.own e c]:=rfl
theorem HZ (f:Nat→Option Nat):([CV.top]).map (CV.ren f)=[CV.top]:=rfl
theorem Az (p:List Val) (e:Nat) (out:List Cpx) (hsz:Ne.size p≤60000000) (hts:TSh p) (hc:Sl.eE [44] p=false) (he:e=47∨out=[]) (ho:out.length≤1000):match Sl.cpx 16 0 (Sl.trim p) with
  | some c=>den K 37 [L (encL p),.c (.fn 46 [(100000,0)])] [[.own e (encC out)]]=some (.ret (I 0) [[.own 47 (encC (out++[c]))]])
  | none => ∃ v:CV,den K 37 [L (encL p),.c (.fn 46 [(100000,0)])] [[.own e (encC out)]]=some (.ret (I 40) [[v]]):=by
 have hl:p.length≤60000000:=Nat.le_trans (Ne.cU p) hsz
 have hg:goods.contains 46=true:=by kernel_rfl
 have hx:=Jk (Sl.trim p) (Nat.le_trans (nk p) hsz) (qz hts)
 rw[←Sl.DI hc]
 unfold Sl.fx
 cases hp:Sl.cpxP 16 0 [] (Sl.trim p) with
 | none =>
  rw[hp] at hx
  obtain ⟨m,hx⟩:=eR hx
  exact ⟨.top,si hg (by omega) (uX _ _) HZ (yv hx)⟩
 | some y =>
  obtain ⟨c,m⟩:=y
  rw[hp] at hx
  have hw:=ri hg (by omega) (uX _ _) (uX _ _) (xQ he ho (dP hx))
  cases m with
  | nil=>exact hw
  | cons v m=>exact ⟨_,hw⟩
theorem r6 (parts:List (List Val)) (hpl:parts.length≤200000000) (hp : ∀ p∈parts,Ne.size p≤60000000∧TSh p∧Sl.eE [44] p=false) : ∀ (rest:List (List Val)) (i e:Nat) (out:List Cpx),parts.drop i=rest→i≤parts.length→i≤32→out.length=i→(e=47∨out=[]) →
  Ends (exL K 17 prplp (prpH parts i e out)) fun o S=>match Sl.all_ rest with
   | some cs=>if i+rest.length≤32 then (o = .exit 0∧S.nt=27∧S.sl 4 = .c (.loc 4 0) ∧ ∃ e',S.bx 4=some [.own e' (encC (out++cs))]) else (o = .ret∧S.sl 2 = .c .nils∧S.sl 3=I 40)
   | none=>o = .ret∧S.sl 2 = .c .nils∧S.sl 3=I 40
 | [],i,e,out,hd,hi,h32,ho,he=>by
  have hin:i=parts.length:=by
   have:=List.drop_eq_nil_iff.1 hd
   omega
  subst hin
  refine cm (I9 parts e out) fun o S q => ?_
  rw[Sl.all_nil]
  simp only
  rw[if_pos (by simpa using h32)]
  exact ⟨q.1,q.2.1,q.2.2.1,e,by rw[List.append_nil];exact q.2.2.2⟩
 | p::rest,i,e,out,hd,hi,h32,ho,he=>by
  obtain ⟨g1,g2,g3⟩:=bS hd
  obtain ⟨k1,k2,k3⟩:=hp p (List.mem_of_getElem? g1)
  have hw:=Az p e out k1 k2 k3 he (by omega)
  rw[Sl.all_cons]
  cases hc:Sl.cpx 16 0 (Sl.trim p) with
  | none =>
   rw[hc] at hw
   obtain ⟨v,hw⟩:=hw
   exact I5 parts i e out p g1 hpl [v] ⟨v,rfl⟩ hw
  | some c =>
   rw[hc] at hw
   simp only at hw
   by_cases h:i<32
   ·rw[G6 parts i e _ out _ p g1 hpl (by rw[List.length_append,List.length_singleton];omega) hw]
    refine cm (r6 parts hpl hp rest (i+1) _ (out++[c]) g2 (by omega) (by omega) (by rw[List.length_append,List.length_singleton];omega) (.inl rfl)) fun o S q => ?_
    cases hr:Sl.all_ rest with
    | none=>rw[hr] at q;exact q
    | some cs =>
     rw[hr] at q
     simp only at q ⊢
     rw[List.length_cons]
     by_cases h2:i+1+rest.length≤32
     ·rw[if_pos h2] at q
      rw[if_pos (by omega)]
      obtain ⟨q1,q2,q3,e',q4⟩:=q
      exact ⟨q1,q2,q3,e',by rw[q4,List.append_assoc];rfl⟩
     ·rw[if_neg h2] at q
      rw[if_neg (by omega)]
      exact q
   ·refine cm (Fg parts i e _ out _ p g1 hpl (by rw[List.length_append,List.length_singleton];omega) hw) fun o S q => ?_
    cases hr:Sl.all_ rest with
    | none=>exact q
    | some cs =>
     simp only
     rw[List.length_cons,if_neg (by omega)]
     exact q
set_option maxHeartbeats 8000000 in
theorem jr (l:List Val) (hsz:Ne.size l≤60000000) (hts:TSh l):den K 17 [L (encL l)] []=some (.ret (gx (Sl.parse l)) []):=by
 have hr:Tryz.f17.results = #[.tmp 2,.tmp 3]:=rfl
 have hat:=Hg l [44] (by omega)
 have hal:=Cz [44] l
 have hll:=Ne.cU l
 have hpl:(Sl.at_ [44] l).length≤200000000:=by omega
 have h:=r6 (Sl.at_ [44] l) hpl (fun p hp=>⟨Nat.le_trans (wV [44] l p hp) hsz,sk hts (Sl.kV [44] l p hp).1,(Sl.kV [44] l p hp).2⟩) _ 0 0 [] rfl (Nat.zero_le _) (by omega) rfl (.inr rfl)
 rw[List.drop_zero] at h
 unfold prplp at h
 conv at h in ao _ _=>whnf
 obtain ⟨o,S,w,hq⟩:=h
 have z0:((0:Nat):Int)=0:=rfl
 have e0:encC []=[]:=rfl
 simp only[prpH,z0,e0] at w
 have err:o = .ret∧S.sl 2 = .c .nils∧S.sl 3=I 40→den K 17 [L (encL l)] []=some (.ret (gx none) []):=by
  rintro ⟨rfl,q1,q2⟩
  unfold gx
  refine ai rfl rfl Tryz.func17 rfl Tryz.ntmps17 ⟨by simp,by simp[LK]⟩ ?_
  simp only[go_sem,Nat.reduceLT,reduceCtorEq,Nat.reduceEqDiff,Nat.reduceBEq,Nat.reduceAdd,Nat.reduceSub,Nat.reduceLeDiff,ah bE,hat,mw]
  rw[aB]
  simp only[go_sem,Nat.reduceEqDiff,Nat.reduceSub,Nat.reduceLeDiff]
  erw [w]
  simp only[go_sem,hr,q1,q2]
 unfold Sl.parse
 cases hx:Sl.all_ (Sl.at_ [44] l) with
 | none =>
  rw[hx] at hq
  rw[ite_self]
  exact err hq
 | some cs =>
  rw[hx] at hq
  simp only[Nat.zero_add] at hq
  by_cases h32:(Sl.at_ [44] l).length≤32
  ·rw[if_pos h32] at hq ⊢
   obtain ⟨rfl,q1,q2,e',q3⟩:=hq
   rw[List.nil_append] at q3
   unfold gx
   refine ai rfl rfl Tryz.func17 rfl Tryz.ntmps17 ⟨by simp,by simp[LK]⟩ ?_
   simp only[go_sem,Nat.reduceLT,reduceCtorEq,Nat.reduceEqDiff,Nat.reduceBEq,Nat.reduceAdd,Nat.reduceSub,Nat.reduceLeDiff,ah bE,hat,mw]
   rw[aB]
   simp only[go_sem,Nat.reduceEqDiff,Nat.reduceSub,Nat.reduceLeDiff]
   erw [w]
   simp only[go_sem,Nat.reduceLT,Nat.reduceEqDiff,Nat.reduceBEq,Nat.reduceAdd,hr,q1,q2,q3]
  ·rw[if_neg h32] at hq ⊢
   exact err hq
set_option maxHeartbeats 8000000 in
theorem zq:den K 17 [.c .nils] []=some (.ret (gx none) []):=by
 have hr:Tryz.f17.results = #[.tmp 2,.tmp 3]:=rfl
 have hat:den K 45 [.c .nils,T [44]] []=some (.ret (L (encP [[]])) []):=eW (F:=pAt) rfl rfl
 have h:=r6 [[]] (by simp) (fun p hp=>by
  obtain rfl:=List.mem_singleton.1 hp
  exact ⟨by rw[Ne.size];omega,(fun t ht=>by rw[Sl.rG] at ht;cases ht),rfl⟩) [[]] 0 0 [] rfl (Nat.zero_le _) (by omega) rfl (.inr rfl)
 have hx:Sl.all_ [[]]=none:=rfl
 rw[hx] at h
 unfold prplp at h
 conv at h in ao _ _=>whnf
 obtain ⟨o,S,w,rfl,q1,q2⟩:=h
 have z0:((0:Nat):Int)=0:=rfl
 have z1:(([[]]:List (List Val)).length:Int)=1:=rfl
 have e0:encC []=[]:=rfl
 simp only[prpH,z0,z1,e0] at w
 have z2:(((encP [[]]).length:Nat):Int)=1:=rfl
 unfold gx
 refine ai rfl rfl Tryz.func17 rfl Tryz.ntmps17 ⟨by simp,by simp[LK]⟩ ?_
 simp only[go_sem,Nat.reduceLT,reduceCtorEq,Nat.reduceEqDiff,Nat.reduceBEq,Nat.reduceAdd,Nat.reduceSub,Nat.reduceLeDiff,ah bE,hat]
 rw[aB]
 simp only[go_sem,Nat.reduceEqDiff,Nat.reduceSub,Nat.reduceLeDiff]
 erw [w]
 simp only[go_sem,hr,q1,q2]
theorem sj {s:List UInt8} {v:List Val} (h:Sl.lU s=some v) (hs:s.length≤500000):Ne.size v≤1000000∧TSh v:=by
 unfold Sl.lU at h
 rw[Option.map_eq_some_iff] at h
 obtain ⟨u,hu,rfl⟩:=h
 have hc:=oW s
 have hv:=(Ne.jB hu).2.2.1
 have hts:=IV hu (Tk.xP s) (by omega)
 exact ⟨Nat.le_trans (nk u) (by omega),qz hts⟩
attribute [local go_sem] m6 gg cS dG b7 dI d9 ed p9 lH
theorem au (k a b:Int) (n v:List UInt8):den K 103 [.agg [.pv (.int .i64 k),.pv (.str n),.pv (.str v),.pv (.int .i64 a),.pv (.int .i64 b),.nils]] []=some (.ret (.agg [.pv (.int .i64 k),.pv (.str n),.pv (.str v),.pv (.int .i64 a),.pv (.int .i64 b)]) []):=by
 have hr:Tryz.f103.results = #[.cell 2 146]:=rfl
 refine ai rfl rfl Tryz.func103 rfl Tryz.ntmps103 ⟨by simp,by simp[LK]⟩ ?_
 simp only[go_sem,Nat.reduceLT,Nat.reduceEqDiff,Nat.reduceBEq,Nat.reduceAdd,Nat.reduceSub,Nat.reduceLeDiff,af gg lp,hr]
theorem oL (k:Int) (s:List UInt8) (n:Int) (hn:I64 n) (hs:s.length<1000000000):den K 153 [.agg [.pv (.int .i64 k),.pv (.str s),.pv (.int .i64 n)]] []=some (.ret (B (Tk.may ⟨k,s,n⟩)) []):=F9 ⟨k,s,n⟩ hn hs
theorem mv (s:List UInt8) (hs:s.length<1000000000):den K 152 [T s] []=some (.ret (B (Tk.may ⟨1,s,0⟩)) []):=by
 have hr:Tryz.f152.results = #[.tmp 2]:=rfl
 have h:=oL 1 s 0 z64 hs
 refine ai rfl rfl Tryz.func152 rfl Tryz.ntmps152 ⟨by simp,by simp[LK]⟩ ?_
 simp only[go_sem,Nat.reduceLT,reduceCtorEq,Nat.reduceEqDiff,Nat.reduceBEq,Nat.reduceAdd,Nat.reduceLeDiff,af ab aj,hr,h]
end Go.Abs
set_option linter.unusedSimpArgs true
namespace Go.Abs
open Go Go.Proofs
set_option maxRecDepth 10000
attribute [local go_sem] cM bt ck bJ bH cL cq co aR bU bO ci cN bF opd avOf cvOf St.degAt St.put okPV dA okAV cZ cY cX cG aH if_true Bool.false_eq_true if_false Option.map_some Option.map_none Option.bind_some Option.bind_none dC dr upd List.toList_toArray cA steal bm mvB c8 cF cE AV.deg CV.deg AV.gv AV.isIter cy cj bK List.length_nil List.length_cons List.filterMap_cons List.filterMap_nil beq_iff_eq List.getElem?_cons_zero List.getElem?_cons_succ Option.getD_some dE ev Bool.false_and Bool.and_false Bool.and_self K_P eN bZ cz bh lend back idx dedup AV.ren CV.ren TV.ren AV.ptrs CV.ptrs cH AV.flat CV.flat cf bQ aV cK cQ dM bW aM bX bc bv bR bd d8 CV.pv? content bo ownT aW reps pvs chunks bM leave dU cw cV bG bg TV.deg TV.av LK CV.plain CV.noBld cJ dX bound List.map_cons List.map_nil List.all_cons List.all_nil List.any_cons List.any_nil List.contains_cons List.contains_nil List.elem_cons List.elem_nil List.cons_append List.nil_append List.append_nil List.flatMap_cons List.flatMap_nil List.zip_cons_cons List.zip_nil_left List.zip_nil_right List.take_succ_cons List.take_zero List.take_nil List.drop_succ_cons List.drop_zero List.drop_nil List.isEmpty_nil List.isEmpty_cons Bool.and_true Bool.true_and Bool.or_true Bool.true_or Bool.or_false Bool.false_or Bool.not_true Bool.not_false Nat.add_zero Nat.zero_add Option.isNone_none Option.isNone_some Option.getD_none true_and and_true not_true_eq_false not_false_eq_true decide_true decide_false Nat.le_refl and_self Bool.not_eq_true Nat.sub_self or_true true_or Option.some.injEq List.length_map List.nil_eq and_false false_and AV.live CV.live CV.liveIn dq aX Option.orElse_some Option.orElse_none head a7 a6 Int.lt_irrefl List.length_append ite_self dz ce cO bu Key.clash Key.sees Key.writes Nat.lt_irrefl gt_iff_lt cg dc false_or or_false beq_self_eq_true Bool.true_beq Bool.false_beq
theorem y3 {v:List Val} {cs:List Cpx} (h:Sl.parse v=some cs):den K 22 [L (encC cs),L (encC cs)] []=some (.ret (B true) []):=by
 obtain ⟨h1,h2⟩:=il h
 exact tX cs (by omega) fun c hc=>by
  obtain ⟨h3,h4⟩:=h2 c hc
  exact ⟨by omega,fun p hp=>oA p.l (by have:=(h4 p hp).1;omega) (h4 p hp).2⟩
theorem Cw {v w:List Val} {a b:List Cpx} (ha:Sl.parse v=some a) (hb:Sl.parse w=some b):den K 22 [L (encC (a++b)),L (encC (a++b))] []=some (.ret (B true) []):=by
 obtain ⟨h1,h2⟩:=il ha
 obtain ⟨k1,k2⟩:=il hb
 exact tX (a++b) (by rw[List.length_append];omega) fun c hc=>by
  have:c.parts.length≤16 ∧ ∀ p∈c.parts,p.l.length≤8 ∧ ∀ y∈p.l,Fin4 y:=by
   rcases List.mem_append.1 hc with hc|hc
   ·exact h2 c hc
   ·exact k2 c hc
  obtain ⟨h3,h4⟩:=this
  exact ⟨by omega,fun p hp=>oA p.l (by have:=(h4 p hp).1;omega) (h4 p hp).2⟩
theorem KO {M N:Nat} (h:M≤N) {x:Sim} (hx:Sl.Sb M x):Sl.Sb N x:=by
 induction hx with
 | mk hn hv _ ih=>exact .mk (by omega) (by omega) ih
theorem Aw {s:List UInt8} {v:List Val} {a:List Cpx} (h:Sl.lU s=some v) (ha:Sl.parse v=some a) (hs:s.length≤1000000):Sl.mayB a=true∧a.length≤1000000 ∧ ∀ c∈a,c.parts.length≤100000000 ∧ ∀ p∈c.parts,p.l.length≤100000000 ∧ ∀ x∈p.l,Sl.Sb 100000000 x:=by
 have hr:Sl.read s=some a:=by
  unfold Sl.lU at h
  rw[Option.map_eq_some_iff] at h
  obtain ⟨u,hu,rfl⟩:=h
  unfold Sl.read
  rw[hu]
  exact ha
 obtain ⟨h1,h2⟩:=il ha
 have h3:=Sl.IK hr
 refine ⟨(Sl.jH a).2 (Sl.yR (Sl.Iu h).1.tok ha),by omega,fun c hc=>⟨by have:=(h2 c hc).1;omega,fun p hp=>⟨by have:=((h2 c hc).2 p hp).1;omega,fun x hx=>KO (by omega) (h3 c hc p hp x hx)⟩⟩⟩
end Go.Abs
namespace Go.Abs
open Go Go.Proofs
set_option maxRecDepth 10000
attribute [local go_sem] cM bt ck bJ bH cL cq co aR bU bO ci cN bF opd avOf cvOf St.degAt St.put okPV dA okAV cZ cY cX cG aH if_true Bool.false_eq_true if_false Option.map_some Option.map_none Option.bind_some Option.bind_none dC dr upd List.toList_toArray cA steal bm mvB c8 cF cE AV.deg CV.deg AV.gv AV.isIter cy cj bK List.length_nil List.length_cons List.filterMap_cons List.filterMap_nil beq_iff_eq List.getElem?_cons_zero List.getElem?_cons_succ Option.getD_some dE ev Bool.false_and Bool.and_false Bool.and_self K_P eN bZ cz bh lend back idx dedup AV.ren CV.ren TV.ren AV.ptrs CV.ptrs cH AV.flat CV.flat cf bQ aV cK cQ dM bW aM bX bc bv bR bd d8 CV.pv? content bo ownT aW reps pvs chunks bM leave dU cw cV bG bg TV.deg TV.av LK CV.plain CV.noBld cJ dX bound List.map_cons List.map_nil List.all_cons List.all_nil List.any_cons List.any_nil List.contains_cons List.contains_nil List.elem_cons List.elem_nil List.cons_append List.nil_append List.append_nil List.flatMap_cons List.flatMap_nil List.zip_cons_cons List.zip_nil_left List.zip_nil_right List.take_succ_cons List.take_zero List.take_nil List.drop_succ_cons List.drop_zero List.drop_nil List.isEmpty_nil List.isEmpty_cons Bool.and_true Bool.true_and Bool.or_true Bool.true_or Bool.or_false Bool.false_or Bool.not_true Bool.not_false Nat.add_zero Nat.zero_add Option.isNone_none Option.isNone_some Option.getD_none true_and and_true not_true_eq_false not_false_eq_true decide_true decide_false Nat.le_refl and_self Bool.not_eq_true Nat.sub_self or_true true_or Option.some.injEq List.length_map List.nil_eq and_false false_and AV.live CV.live CV.liveIn dq aX Option.orElse_some Option.orElse_none head a7 a6 Int.lt_irrefl List.length_append ite_self dz ce cO bu Key.clash Key.sees Key.writes Nat.lt_irrefl gt_iff_lt cg dc false_or or_false beq_self_eq_true Bool.true_beq Bool.false_beq tE Bk cR eD Bt
theorem Ii {a b:Nat} (h:a+b<9223372036854775807):IntKind.i64.wrap ((a:Int)+(b:Int))=((a+b:Nat):Int):=by
 rw[IntWalk.i64_in _ (by omega)];rfl
theorem zj : ∀ t∈Ne.iL (Sl.jt [44]),t.text.length<1000000000:=by decide
theorem B1 {v w:List Val} (h1:TSh v) (h2:TSh w):TSh (v++Sl.jt [44]::w):=fun t ht=>by
 obtain ⟨x,hx,ht⟩:=Sl.eB.1 ht
 rcases List.mem_append.1 hx with hx|hx
 ·exact h1 t (Sl.eB.2 ⟨x,hx,ht⟩)
 ·rcases List.mem_cons.1 hx with rfl|hx
  ·exact zj t ht
  ·exact h2 t (Sl.eB.2 ⟨x,hx,ht⟩)
abbrev qcmH (a b c:List Cpx) (parts:List (List Val)) (i:Nat):St :=
  { sl:=upd (upd (upd (upd (upd (upd bot 16 (I i)) 15 (L (encP parts))) 14 (I 0)) 13 (L (encC c))) 11 (L (encC b))) 9 (L (encC a)),bx:=nobox,nt:=143 }
noncomputable def qcmlp:Code := .loop (ao Tryz.f5 18)
theorem Ja (a b c:List Cpx) (parts:List (List Val)) :
  Ends (exL K 5 qcmlp (qcmH a b c parts parts.length)) fun o S=>o = .exit 0∧S.nt=143∧S.sl 9=L (encC a)∧S.sl 11=L (encC b)∧S.sl 13=L (encC c)∧S.sl 14=I 0:=by
 have hlt:decide ((parts.length:Int)<(parts.length:Int))=false:=decide_eq_false (by omega)
 unfold qcmlp
 conv in ao _ _=>whnf
 rw[aw]
 simp only[go_sem,Nat.reduceLT,Nat.reduceEqDiff,Nat.reduceBEq,Nat.reduceAdd,ah bE,mw,ay]
theorem BA (a:List Cpx) (i:Nat) (x:Cpx) (h:a[i]? = some x):((encC a).take ((i+1:Nat):Int).toNat).drop (i:Int).toNat=encC [x]:=by
 rw[Int.toNat_natCast,Int.toNat_natCast]
 obtain ⟨hi,hx⟩:=List.getElem?_eq_some_iff.1 h
 have e:a.take (i+1)=a.take i++[x]:=by rw[List.take_add_one,h];rfl
 rw[←List.map_take,e,List.map_append,List.drop_left' (by simp;omega)]
theorem GM (a:List Cpx) (i:Nat) (x:Cpx) (h:a[i]? = some x):((encC a).take (i+1)).drop i=encC [x]:=BA a i x h
set_option maxHeartbeats 4000000 in
theorem D1 (a b c:List Cpx) (parts:List (List Val)) (i:Nat) (q:List Val) (x:Cpx) (hi:parts[i]? = some q) (hpl:parts.length≤200000000) (ha:a[i]? = some x)
  (hp:den K 17 [L (encL q)] []=some (.ret (gx (some [x])) [])) (hs:den K 22 [L (encC [x]),L (encC [x])] []=some (.ret (B true) [])) :
  exL K 5 qcmlp (qcmH a b c parts i)=exL K 5 qcmlp (qcmH a b c parts (i+1)):=by
 have hil:i<parts.length:=(List.getElem?_eq_some_iff.1 hi).1
 have hia:i<a.length:=(List.getElem?_eq_some_iff.1 ha).1
 have hlt:decide ((i:Int)<(parts.length:Int))=true:=decide_eq_true (by omega)
 have hget:(encP parts)[(i:Int).toNat]? = some [.sl (encL q)]:=by simp[hi]
 have hgetN:(encP parts)[i]? = some [.sl (encL q)]:=by simp[hi]
 have hws:IntKind.i64.wrap ((i:Int)+1)=((i+1:Nat):Int):=bA i (by omega)
 have hal:(encC a).length=a.length:=List.length_map ..
 have c1:((i+1:Nat):Int)≤(a.length:Int):=by omega
 have c2:(i:Int)≤((i+1:Nat):Int):=by omega
 have c4:(i:Int)≤((((i+1:Nat):Int).toNat:Nat):Int):=by rw[Int.toNat_natCast];omega
 have c3:(0:Int)≤((i+1:Nat):Int):=by omega
 have k1:=BA a i x ha
 have k2:=GM a i x ha
 have hle:=mJ a
 have q0:((0:Int)==0)=true:=rfl
 have q1:((((encC [x]).length:Nat):Int)==1)=true:=rfl
 have q2:(((([x]:List Cpx).length:Nat):Int)==1)=true:=rfl
 have q3:(((1:Nat):Int)==1)=true:=rfl
 have hs':den K 22 [L [x.enc],L [x.enc]] []=some (.ret (B true) []):=hs
 unfold gx at hp
 simp only at hp
 unfold qcmlp
 conv in ao _ _=>whnf
 conv in ao _ _=>whnf
 conv in exL _ _ _ (qcmH a b c parts i)=>rw[aw]
 simp only[go_sem,Nat.reduceLT,Nat.reduceEqDiff,Nat.reduceBEq,Nat.reduceAdd,ah aP,ah bE,ae bE,dV aP fS,mw,hlt,hget,Int.natCast_nonneg,hp,hs',q3,hws,hal,c1,c3,c4,k1,hle,q0,and_self,bne,TV.flat]
 rw[aB]
 simp only[go_sem,Nat.reduceEqDiff]
theorem wJ (a b c:List Cpx) (parts:List (List Val)) (hpl:parts.length≤200000000)
  (hp : ∀ (i:Nat) (q:List Val),parts[i]? = some q → ∃ x,a[i]? = some x∧den K 17 [L (encL q)] []=some (.ret (gx (some [x])) [])∧den K 22 [L (encC [x]),L (encC [x])] []=some (.ret (B true) [])) :
  ∀ (rest:List (List Val)) (i:Nat),parts.drop i=rest→i≤parts.length→exL K 5 qcmlp (qcmH a b c parts i)=exL K 5 qcmlp (qcmH a b c parts parts.length)
 | [],i,hd,hi=>by
  have hin:i=parts.length:=by
   have:=List.drop_eq_nil_iff.1 hd
   omega
  rw[hin]
 | q::rest,i,hd,hi=>by
  obtain ⟨g1,g2,g3⟩:=bS hd
  obtain ⟨x,h1,h2,h3⟩:=hp i q g1
  rw[D1 a b c parts i q x g1 hpl h1 h2 h3]
  exact wJ a b c parts hpl hp rest (i+1) g2 (by omega)
end Go.Abs
