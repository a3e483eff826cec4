/-
  WHAT THE DOCUMENT'S ANSWER COMPUTES, layer 1: the tokens of a text; whether tokens may be.
  WHAT THE FUNCTIONS COMPUTE, layer 2: parsing; whether values may be.
  WHAT THE FUNCTIONS COMPUTE, layer 4, the document's reader of selectors: lists of them; texts.
  WHAT THE FUNCTIONS COMPUTE, layer 4, the program's reader of selectors: a complex selector.
  WHAT THE FUNCTIONS COMPUTE, layer 2: nest.May.
-/
import Derived.Test.YtlomcifkckgneaaGreatDoorRn4
import Derived.Test.YtlomcifkckgneaaGreatDoorRn7
import Derived.Test.YtlomcifkckgneaaGreatDoorRn9
import Derived.Test.YtlomcifkckgneaaGreatDoorRn11
import Derived.Test.YtlomcifkckgneaaGreatDoorRn14
import Derived.Test.YtlomcifkckgneaaGreatDoorRn16
import Derived.Test.YtlomcifkckgneaaGreatDoorRn17
set_option linter.unusedSimpArgs false
set_option linter.unusedVariables false
namespace Go.Abs
open Go Go.Proofs
set_option maxRecDepth 10000
attribute [local go_sem] cX bA ce bJ bL cU ci cg aN bD bt bR cz bE opd avOf cvOf St.degAt St.put okPV dQ okAV dc dh dp cG aD if_true Bool.false_eq_true if_false Option.map_some Option.map_none Option.bind_some Option.bind_none dL dG upd List.toList_toArray bX steal bd mvB dx cE co AV.deg CV.deg AV.gv AV.isIter cv cj bK List.length_nil List.length_cons List.filterMap_cons List.filterMap_nil beq_iff_eq List.getElem?_cons_zero List.getElem?_cons_succ Option.getD_some d8 eS Bool.false_and Bool.and_false Bool.and_self K_P fO bO cd bc lend back idx dedup AV.ren CV.ren TV.ren AV.ptrs CV.ptrs cD AV.flat CV.flat bU bH aR cA cQ dV bM aK bS bh bw bI bg ep CV.pv? content bo ownT aV reps pvs chunks bC leave ee cm c9 bF a8 TV.deg TV.av LK CV.plain CV.noBld cK ei bound List.map_cons List.map_nil List.all_cons List.all_nil List.any_cons List.any_nil List.contains_cons List.contains_nil List.elem_cons List.elem_nil List.cons_append List.nil_append List.append_nil List.flatMap_cons List.flatMap_nil List.zip_cons_cons List.zip_nil_left List.zip_nil_right List.take_succ_cons List.take_zero List.take_nil List.drop_succ_cons List.drop_zero List.drop_nil List.isEmpty_nil List.isEmpty_cons Bool.and_true Bool.true_and Bool.or_true Bool.true_or Bool.or_false Bool.false_or Bool.not_true Bool.not_false Nat.add_zero Nat.zero_add Option.isNone_none Option.isNone_some Option.getD_none true_and and_true not_true_eq_false not_false_eq_true decide_true decide_false Nat.le_refl and_self Bool.not_eq_true Nat.sub_self or_true true_or Option.some.injEq List.length_map List.nil_eq and_false false_and AV.live CV.live CV.liveIn dW aO Option.orElse_some Option.orElse_none head a7 aY Int.lt_irrefl List.length_append ite_self dR bQ cF br Key.clash Key.sees Key.writes Nat.lt_irrefl gt_iff_lt cf dD false_or or_false beq_self_eq_true Bool.true_beq Bool.false_beq AG GD ae aG cR ck bB aL zQ
abbrev E1 (s:List UInt8) (i:Nat) (ys:List Tok):St := { sl:=upd (upd (upd bot 4 (I i)) 3 (.c (.own 91 (ys.map Tok.enc)))) 0 (T s),bx:=nobox,nt:=27 }
theorem GY {t:Tok} (h:Tk.Good t):(t.kind != 0)=true:=by
 rw[bne_iff_ne]
 cases h<;>simp
set_option maxHeartbeats 4000000 in
theorem Ch (s:List UInt8) (hs:s.length<4000000000) : ∀ (l:List UInt8) (i:Nat) (ys:List Tok),s.drop i=l→i≤s.length→ys.length+l.length<4000000000 →
  Ends (exL K 33 (.loop (ap Tryz.f33 3)) (E1 s i ys)) fun o S=>o = .exit 0∧S.nt=27∧S.sl 3 = .c (.own 91 ((ys++Tk.all l).map Tok.enc)):=by
 refine Tk.nI (Q:=fun l => ∀ (i:Nat) (ys:List Tok),s.drop i=l→i≤s.length→ys.length+l.length<4000000000 →
  Ends (exL K 33 (.loop (ap Tryz.f33 3)) (E1 s i ys)) fun o S=>o = .exit 0∧S.nt=27∧S.sl 3 = .c (.own 91 ((ys++Tk.all l).map Tok.enc))) ?_ ?_
 ·intro i ys hd hi _
  have hin:i=s.length:=by
   have:=List.drop_eq_nil_iff.1 hd
   omega
  subst hin
  rw[Tk.all_nil,List.append_nil]
  conv in ap _ _=>whnf
  rw[aw]
  simp only[go_sem,Nat.reduceLT,reduceCtorEq,Nat.reduceEqDiff,Nat.reduceBEq,Nat.reduceAdd,aq aa,aB]
 ·intro c r ih i ys hd hi hl
  obtain ⟨g1,g2,g3⟩:=bZ hd
  have hp:=Tk.jK c r
  have hle:=Tk.uP c r
  have hn:=Bj s i c r hs hd
  have hlt:decide ((i:Int)<(s.length:Int))=true:=decide_eq_true (by omega)
  have hlen:(c::r).length=s.length - i:=by rw[←hd,List.length_drop]
  have hdd:s.drop (i+(Tk.step c r).2)=(c::r).drop (Tk.step c r).2:=by rw[←List.drop_drop,hd]
  have hall:=Tk.all_cons c r
  have ih':=ih (i+(Tk.step c r).2)
  simp only[dw,Tok.cells] at hn
  cases hst:(Tk.step c r).1 with
  | none =>
   rw[hst] at hn hall
   simp only[eV,Option.getD_none] at hn
   simp only[Option.toList_none,List.nil_append] at hall
   have e0:((0:Int) != 0)=false:=by decide
   have ih2:=ih' ys hdd (by omega) (by rw[List.length_drop];omega)
   rw[←hall] at ih2
   conv at ih2 in ap _ _=>whnf
   conv in ap _ _=>whnf
   rw[aw]
   simp only[go_sem,Nat.reduceLT,reduceCtorEq,Nat.reduceEqDiff,Nat.reduceBEq,Nat.reduceAdd,Nat.reduceMul,aq aa,af (len:=1) ag aG ae ⟨rfl,by decide,by decide⟩,bV dU,bf ag,hlt,hn,e0,TV.flat]
   rw[az]
   simp only[go_sem,reduceCtorEq,Nat.reduceEqDiff]
   exact ih2
  | some t =>
   rw[hst] at hn hall
   simp only[eV,Option.getD_some] at hn
   simp only[Option.toList_some,List.cons_append,List.nil_append] at hall
   have e0:=GY (Tk.tA hst)
   have hla:ys.length+1<cJ:=by simp[cJ];simp only[List.length_cons] at hl;omega
   have ih2:=ih' (ys++[t]) hdd (by omega) (by rw[List.length_append,List.length_drop];simp only[List.length_cons,List.length_nil] at *;omega)
   rw[List.append_assoc,List.cons_append,List.nil_append,←hall] at ih2
   have hys:(ys++[t]).map Tok.enc=ys.map Tok.enc++[[.int .i64 t.kind,.str t.text,.int .i64 t.n]]:=by simp[Tok.enc]
   simp only[E1,hys] at ih2
   conv at ih2 in ap _ _=>whnf
   conv in ap _ _=>whnf
   rw[aw]
   simp only[go_sem,Nat.reduceLT,reduceCtorEq,Nat.reduceEqDiff,Nat.reduceBEq,Nat.reduceAdd,Nat.reduceMul,aq aa,af (len:=1) ag aG ae ⟨rfl,by decide,by decide⟩,bV dU,bf ag,hlt,hn,e0,TV.flat,hla,iJ,wq]
   rw[az]
   simp only[go_sem,reduceCtorEq,Nat.reduceEqDiff]
   exact ih2
theorem wE (s:List UInt8) (hs:s.length<4000000000):den K 33 [T s] []=some (.ret (L ((Tk.all s).map Tok.enc)) []):=by
 refine ab rfl rfl Tryz.func33 rfl Tryz.ntmps33 ⟨by simp,by simp[LK]⟩ ?_
 have hr:Tryz.f33.results = #[.tmp 2]:=rfl
 have hl:=Ch s hs s 0 [] rfl (Nat.zero_le _) (by simp;omega)
 conv at hl in ap _ _=>whnf
 obtain ⟨o,S',e2,rfl,hn,h3⟩:=hl
 simp only[List.nil_append] at h3
 simp only[go_sem,Nat.reduceLT,Nat.reduceEqDiff,Nat.reduceBEq,Nat.reduceAdd,af (len:=0) ag aG ae ⟨rfl,by decide,by decide⟩]
 rw[az]
 simp only[go_sem,reduceCtorEq,Nat.reduceEqDiff]
 erw [e2]
 simp only[go_sem,Nat.reduceLT,Nat.reduceEqDiff,Nat.reduceBEq,Nat.reduceAdd,hr,hn,h3]
theorem FY (s:List UInt8) (a b:Tok) (hs:s.length<4000000000):den K 108 [T s,.agg a.cells,.agg b.cells] []=some (.ret (B (decide (Tk.all s=[a,b]))) []):=by
 have h2:=wE s hs
 have hal:=Tk.i7 s
 generalize Tk.all s=l at h2 hal
 simp only[Tok.cells]
 refine ab rfl rfl Tryz.func108 rfl Tryz.ntmps108 ⟨by simp,by simp[LK]⟩ ?_
 have hr:Tryz.f108.results = #[.tmp 6]:=rfl
 by_cases hl:l.length=2
 ·obtain ⟨x,y,rfl⟩ : ∃ x y,l=[x,y]:=by
   match l,hl with
   | [x,y],_=>exact ⟨x,y,rfl⟩
  have h1:=lg x.kind a.kind x.n a.n x.text a.text
  have h3:=lg y.kind b.kind y.n b.n y.text b.text
  rw[pN] at h1 h3
  have e2:decide ([x,y]=[a,b])=(decide (x=a)&&decide (y=b)):=by rw[←Bool.decide_and];simp
  rw[e2]
  have g0:=uC [x,y] 0 x rfl
  have g1:=uC [x,y] 1 y rfl
  have z0:((0:Nat):Int)=0:=rfl
  have z1:((1:Nat):Int)=1:=rfl
  rw[z0] at g0
  rw[z1] at g1
  have p1:((0:Int)≤1)=True:=by simp
  have e1:(([x,y].length:Int)==2)=true:=by rfl
  generalize [x,y]=l at h2 e1 g0 g1
  cases q1:decide (x=a)
  ·rw[q1] at h1
   simp only[go_sem,Nat.reduceLT,reduceCtorEq,Nat.reduceEqDiff,Nat.reduceBEq,Nat.reduceAdd,Nat.reduceSub,Nat.reduceLeDiff,ai ag,am ag,hr,h2,e1,g0,h1,Int.le_refl]
  ·rw[q1] at h1
   cases q2:decide (y=b)
   ·rw[q2] at h3
    simp only[go_sem,Nat.reduceLT,reduceCtorEq,Nat.reduceEqDiff,Nat.reduceBEq,Nat.reduceAdd,Nat.reduceSub,Nat.reduceLeDiff,ai ag,am ag,hr,h2,e1,g0,g1,h1,h3,Int.le_refl,p1]
   ·rw[q2] at h3
    simp only[go_sem,Nat.reduceLT,reduceCtorEq,Nat.reduceEqDiff,Nat.reduceBEq,Nat.reduceAdd,Nat.reduceSub,Nat.reduceLeDiff,ai ag,am ag,hr,h2,e1,g0,g1,h1,h3,Int.le_refl,p1]
 ·have e1:((l.length:Int)==2)=false:=by rw[beq_eq_false_iff_ne];omega
  have e2:decide (l=[a,b])=false:=decide_eq_false (fun h=>hl (by rw[h];rfl))
  rw[e2]
  simp only[go_sem,Nat.reduceLT,reduceCtorEq,Nat.reduceEqDiff,Nat.reduceBEq,Nat.reduceAdd,Nat.reduceSub,Nat.reduceLeDiff,ai ag,hr,h2,e1]
attribute [local go_sem] Ak fN pb jb jN ia jn dK dS
theorem Hh (l:List Tok) (hl:l.length≤100000000) : ∀ (m:Nat) (i:Nat),l.length - i≤m→i≤l.length → ∀ (kind:Int) (left:Nat),left<1000 → ∀ (e:Nat) (acc:List Val),acc.length≤i→(e=93∨acc=[]) →
  Ends (exL K 64 ulp2 (u2H l kind left i e acc)) (ULoop2 l kind left i acc):=by
 intro m
 induction m with
 | zero =>
  intro i hm hi kind left hleft e acc hacc he
  obtain rfl:i=l.length:=by omega
  refine bN (D0 l kind left e acc) fun o S q => ?_
  unfold ULoop2
  rw[List.drop_length,Ne.gN]
  refine ⟨l.length,List.drop_length,Nat.le_refl _,Nat.le_refl _,.inr ?_⟩
  rw[List.append_nil]
  exact ⟨q.1,q.2.1,q.2.2.1,q.2.2.2.1,q.2.2.2.2.1,e,q.2.2.2.2.2⟩
 | succ m ih =>
  intro i hm hi kind left hleft e acc hacc he
  by_cases hil:i=l.length
  ·subst hil
   refine bN (D0 l kind left e acc) fun o S q => ?_
   unfold ULoop2
   rw[List.drop_length,Ne.gN]
   refine ⟨l.length,List.drop_length,Nat.le_refl _,Nat.le_refl _,.inr ?_⟩
   rw[List.append_nil]
   exact ⟨q.1,q.2.1,q.2.2.1,q.2.2.2.1,q.2.2.2.2.1,e,q.2.2.2.2.2⟩
  ·have hlt:i<l.length:=by omega
   have hd:l.drop i=l[i]::l.drop (i+1):=List.drop_eq_getElem_cons hlt
   have hg:l[i]? = some l[i]:=List.getElem?_eq_getElem hlt
   generalize l[i]=t at hd hg
   have hu:=Ne.eM kind left t (l.drop (i+1))
   rw[←hd] at hu
   cases hb:Ne.cu kind t with
   | true =>
    refine bN (GS l kind left i e acc t hg hl hb) fun o S q => ?_
    rw[hb,if_pos rfl] at hu
    unfold ULoop2
    rw[hu]
    exact ⟨i+1,rfl,hlt,by omega,.inl (by rw[List.append_nil];exact q)⟩
   | false =>
    rw[hb,if_neg (by simp)] at hu
    by_cases h0:Ne.opens t=0
    ·rw[if_pos h0] at hu
     have hs:=HG l kind left i e acc t hg hl hb he (by omega) h0
     rw[hs]
     have hacc2:(acc++[Val.mk 1 t []]).length≤i+1:=by rw[List.length_append,List.length_singleton];omega
     have hmm:l.length - (i+1)≤m:=by omega
     have hi:=ih (i+1) hmm hlt kind left hleft 93 (acc++[.mk 1 t []]) hacc2 (Or.inl rfl)
     refine bN hi fun o S q => ?_
     unfold ULoop2 at q ⊢
     rw[hu]
     cases hv:Ne.cM kind left (l.drop (i+1)) with
     | none=>rw[hv] at q;exact q
     | some x =>
      rw[hv] at q
      obtain ⟨j,q1,q2,q3,q4⟩:=q
      have ha:acc++Val.mk 1 t []::x.1=acc++[Val.mk 1 t []]++x.1:=by simp
      refine ⟨j,q1,q2,by omega,?_⟩
      show Ret2 (encL (acc++Val.mk 1 t []::x.1)) _ _ _ _∨_
      rw[ha]
      exact q4
    ·rw[if_neg h0] at hu
     cases left with
     | zero =>
      refine bN (G7 l kind i e acc t hg hl hb h0) fun o S q => ?_
      unfold ULoop2
      rw[hu]
      exact q
     | succ n =>
      have hn:n<1000:=by omega
      have hmm:l.length - (i+1)≤m:=by omega
      have hin:=DT (ih (i+1) hmm hlt (Ne.opens t) n hn 0 [] (Nat.zero_le _) (Or.inr rfl))
      unfold UDen2 at hin
      simp only at hu
      cases hv:Ne.cM (Ne.opens t) n (l.drop (i+1)) with
      | none =>
       rw[hv] at hin hu
       obtain ⟨a,b,hin⟩:=hin
       refine bN (HP l kind n i e acc t hg hl hn hb h0 a b hin) fun o S q => ?_
       unfold ULoop2
       rw[hu]
       exact q
      | some x =>
       obtain ⟨vs,rest⟩:=x
       rw[hv] at hin hu
       obtain ⟨j,q1,q2,q3,hin⟩:=hin
       have hs:=Io l kind n i j e acc t vs hg hl hn hb he (by omega) h0 hin
       rw[hs]
       have hacc2:(acc++[Val.mk (Ne.opens t) (if Ne.opens t=5 then t else Ne.tok0) vs]).length≤j:=by rw[List.length_append,List.length_singleton];omega
       have hmm2:l.length - j≤m:=by omega
       have hi:=ih j hmm2 q2 kind (n+1) hleft 93 (acc++[.mk (Ne.opens t) (if Ne.opens t=5 then t else Ne.tok0) vs]) hacc2 (Or.inl rfl)
       refine bN hi fun o S q => ?_
       unfold ULoop2 at q ⊢
       rw[q1] at q
       simp only at hu
       rw[hu]
       cases hv2:Ne.cM kind (n+1) rest with
       | none=>rw[hv2] at q;exact q
       | some y =>
        rw[hv2] at q
        obtain ⟨j',r1,r2,r3,r4⟩:=q
        have ha:acc++Val.mk (Ne.opens t) (if Ne.opens t=5 then t else Ne.tok0) vs::y.1=acc++[Val.mk (Ne.opens t) (if Ne.opens t=5 then t else Ne.tok0) vs]++y.1:=by simp
        refine ⟨j',r1,r2,by omega,?_⟩
        show Ret2 (encL (acc++Val.mk (Ne.opens t) (if Ne.opens t=5 then t else Ne.tok0) vs::y.1)) _ _ _ _∨_
        rw[ha]
        exact r4
theorem zt (l:List Tok) (hl:l.length≤100000000) (left:Nat) (hleft:left<1000):UDen2 l 0 left 0 :=
 DT (Hh l hl l.length 0 (by omega) (Nat.zero_le _) 0 left hleft 0 [] (Nat.zero_le _) (Or.inr rfl))
def lR (deep:Int) (l:List Tok):AV :=
 if deep<1∨60<deep then .tup [.c .nils,.c (.pv (.int .i64 1))]
 else match Ne.cM 0 deep.toNat l with
  | some x => .tup [.c (.pv (.sl (encL x.1))),.c (.pv (.int .i64 0))]
  | none => .tup [.c .nils,.c (.pv (.int .i64 20))]
theorem yD (l:List Tok) (hl:l.length≤100000000) (deep:Int):den K 32 [L (l.map Tok.enc),I deep] []=some (.ret (lR deep l) []):=by
 refine ab rfl rfl Tryz.func32 rfl Tryz.ntmps32 ⟨by simp,by simp[LK]⟩ ?_
 have hr:Tryz.f32.results = #[.tmp 4,.tmp 5]:=rfl
 unfold lR
 by_cases h1:deep<1
 ·have e1:decide (deep<1)=true:=decide_eq_true h1
  rw[if_pos (.inl h1)]
  simp only[go_sem,Nat.reduceLT,Nat.reduceEqDiff,Nat.reduceBEq,Nat.reduceAdd,hr,e1]
 ·have e1:decide (deep<1)=false:=decide_eq_false h1
  by_cases h2:60<deep
  ·have e2:decide (60<deep)=true:=decide_eq_true h2
   rw[if_pos (.inr h2)]
   simp only[go_sem,Nat.reduceLT,Nat.reduceEqDiff,Nat.reduceBEq,Nat.reduceAdd,hr,e1,e2]
  ·have e2:decide (60<deep)=false:=decide_eq_false h2
   rw[if_neg (by omega)]
   obtain ⟨d,rfl⟩ : ∃ d:Nat,deep=d:=⟨deep.toNat,by omega⟩
   rw[Int.toNat_natCast]
   have hu:=zt l hl d (by omega)
   unfold UDen2 at hu
   rw[List.drop_zero] at hu
   have z0:((0:Nat):Int)=0:=rfl
   rw[z0] at hu
   cases hv:Ne.cM 0 d l with
   | some x =>
    rw[hv] at hu
    obtain ⟨j,_,_,_,hu⟩:=hu
    simp only[go_sem,Nat.reduceLT,reduceCtorEq,Nat.reduceEqDiff,Nat.reduceBEq,Nat.reduceAdd,Nat.reduceSub,Nat.reduceLeDiff,hr,e1,e2,hu]
   | none =>
    rw[hv] at hu
    obtain ⟨a,b,hu⟩:=hu
    simp only[go_sem,Nat.reduceLT,reduceCtorEq,Nat.reduceEqDiff,Nat.reduceBEq,Nat.reduceAdd,Nat.reduceSub,Nat.reduceLeDiff,hr,e1,e2,hu]
theorem CA (l:List Tok) (hl:l.length≤1000000) (deep:Int):den K 98 [L (l.map Tok.enc),I deep] []=some (.ret (kv deep l) []):=by
 refine eE (F:=qU) rfl ?_
 unfold qU
 simp only[Ad]
 rw[if_pos hl]
abbrev encC (l:List Cpx):List (List PV):=l.map Cpx.enc
theorem CL (l:List Cpx):lens 2 (encC l)=true:=by
 simp only[lens,List.all_map,List.all_eq_true]
 intro x _
 rfl
theorem E8 (l:List Cpx) (c:Cpx):encC l++[[.sl (encQ c.parts),.str c.pseudo]]=encC (l++[c]):=by
 show _=(l++[c]).map Cpx.enc
 rw[List.map_append];rfl
theorem tj (l:List (List Val)):(encP l).length=l.length:=List.length_map ..
def gD (x:Option (List Cpx)):AV:=match x with
 | some cs => .tup [.c (.pv (.sl (encC cs))),.c (.pv (.int .i64 0))]
 | none => .tup [.c .nils,.c (.pv (.int .i64 40))]
theorem ot (s:List UInt8):(Tk.all s).length≤s.length:=Tk.i7 s
theorem zW {l:List Tok} {v:List Val} {n:Nat} (h:Ne.parse 60 l=some v) (hl : ∀ t∈l,t.text.length≤n) (hn:n<1000000000):TSh v:=fun t ht=>by
 obtain ⟨_,_,_,c,hc⟩:=Ne.fi h
 rw[hc] at ht
 rcases List.mem_append.1 ht with ht|ht
 ·have:=hl t ht;omega
 ·obtain ⟨k,_,rfl⟩:=List.mem_map.1 ht
  unfold Ne.cS
  simp
attribute [local go_sem] fB kx iA jZ BF G5 nc fI aE f9 Hj ec
abbrev cpxE (c:Cpx):AV := .agg [.pv (.sl (encQ c.parts)),.pv (.str c.pseudo)]
abbrev cxpH (l:List Val) (cb:Int) (e:Nat) (ps:List Prt):St :=
  { sl:=upd (upd (upd (upd bot 4 (I cb)) 3 (.c (.loc 3 0))) 2 (.c (.loc 2 0))) 0 P0,
    bx:=upd (upd (upd nobox 100000 (some (rdB l))) 3 (some [.own e (encQ ps),.pv (.str [])])) 2 (some [.own 0 [],.pv (.str [])]),nt:=35 }
noncomputable def cxplp:Code := .loop (ap Tryz.f47 3)
theorem Eu (l:List Val) (cb:Int) (e:Nat) (ps:List Prt) (h : ¬ ps.length<16) :
  Ends (exL K 47 cxplp (cxpH l cb e ps)) fun o S=>o = .pan cZ∧S.bx 100000=some (rdB l):=by
 have e1:decide ((ps.length:Int)<16)=false:=decide_eq_false (by omega)
 have hmn:=fM
 unfold cxplp
 conv in ap _ _=>whnf
 rw[aw]
 simp only[go_sem,Nat.reduceLT,reduceCtorEq,Nat.reduceEqDiff,Nat.reduceBEq,ai aQ,lp,e1,hmn,aB]
theorem F8 (l m:List Val) (cb:Int) (e:Nat) (ps:List Prt) (h:ps.length<16) (hc:den K 91 [P0] [rdB l]=some (.pan cZ [rdB m])) :
  Ends (exL K 47 cxplp (cxpH l cb e ps)) fun o S=>o = .pan cZ∧S.bx 100000=some (rdB m):=by
 have e1:decide ((ps.length:Int)<16)=true:=decide_eq_true (by omega)
 have hmy:=dP
 simp only[rdB] at hc
 unfold cxplp
 conv in ap _ _=>whnf
 rw[aw]
 simp only[go_sem,Nat.reduceLT,reduceCtorEq,Nat.reduceEqDiff,Nat.reduceBEq,Nat.reduceAdd,ai aQ,lp,e1,hmy,hc,aB]
def sF (ps:List Prt) (s:List UInt8) (r:List Val) (o:Out) (S:St):Prop:=o = .ret∧S.nt=35∧S.sl 2 = .c (.loc 2 0)∧S.bx 2=some [.pv (.sl (encQ ps)),.pv (.str s)]∧S.bx 100000=some (rdB r)
set_option maxHeartbeats 8000000 in
theorem CO (l r:List Val) (cb:Int) (e:Nat) (ps:List Prt) (h:ps.length<16) (he:e=50∨ps=[]) (ls:List Sim) (s:List UInt8) (hs:s≠[]) (hc:den K 91 [P0] [rdB l]=some (.ret (oY (ls,s)) [rdB r])) :
  Ends (exL K 47 cxplp (cxpH l cb e ps)) fun o S=>sF (ps++[⟨cb,ls⟩]) s r o S:=by
 have e1:decide ((ps.length:Int)<16)=true:=decide_eq_true (by omega)
 have e2:(s==[])=false:=by rw[beq_eq_false_iff_ne];exact hs
 have hmy:=dP
 have hown:e=50∨(encQ ps).isEmpty=true:=by
  rcases he with rfl|rfl
  ·exact .inl rfl
  ·exact .inr rfl
 have hlim:ps.length+1<cJ:=by unfold cJ;omega
 have hlv:=oA ps
 simp only[rdB,oY] at hc
 unfold sF
 unfold cxplp
 conv in ap _ _=>whnf
 rw[aw]
 simp only[go_sem,Nat.reduceLT,reduceCtorEq,Nat.reduceEqDiff,Nat.reduceBEq,Nat.reduceAdd,Nat.reduceLeDiff,Nat.reduceMul,ai aQ,ak cP gB,af (len:=1) aQ gc cP ⟨rfl,by decide,by decide⟩,bV jx,bf aQ,lp,e1,e2,hmy,hc,hown,hlim,hlv,re,rK,bne,aB]
set_option maxHeartbeats 8000000 in
theorem C7 (l r r2:List Val) (cb:Int) (e:Nat) (ps:List Prt) (h:ps.length<16) (he:e=50∨ps=[]) (ls:List Sim) (hc:den K 91 [P0] [rdB l]=some (.ret (oY (ls,[])) [rdB r]))
  (hk:den K 92 [P0] [rdB r]=some (.ret (I 0) [rdB r2])) :
  Ends (exL K 47 cxplp (cxpH l cb e ps)) fun o S=>sF (ps++[⟨cb,ls⟩]) [] r2 o S:=by
 have e1:decide ((ps.length:Int)<16)=true:=decide_eq_true (by omega)
 have e2:(([]:List UInt8)==[])=true:=rfl
 have e3:((0:Int)==0)=true:=rfl
 have hmy:=dP
 have hown:e=50∨(encQ ps).isEmpty=true:=by
  rcases he with rfl|rfl
  ·exact .inl rfl
  ·exact .inr rfl
 have hlim:ps.length+1<cJ:=by unfold cJ;omega
 have hlv:=oA ps
 simp only[rdB,oY] at hc hk
 unfold sF
 unfold cxplp
 conv in ap _ _=>whnf
 rw[aw]
 simp only[go_sem,Nat.reduceLT,reduceCtorEq,Nat.reduceEqDiff,Nat.reduceBEq,Nat.reduceAdd,Nat.reduceLeDiff,Nat.reduceMul,ai aQ,ak cP gB,af (len:=1) aQ gc cP ⟨rfl,by decide,by decide⟩,bV jx,bf aQ,lp,e1,e2,e3,hmy,hc,hk,hown,hlim,hlv,re,rK,bne,aB]
set_option maxHeartbeats 8000000 in
theorem Df (l r r2:List Val) (cb cb2:Int) (e:Nat) (ps:List Prt) (h:ps.length<16) (he:e=50∨ps=[]) (ls:List Sim) (hc:den K 91 [P0] [rdB l]=some (.ret (oY (ls,[])) [rdB r]))
  (hk:den K 92 [P0] [rdB r]=some (.ret (I cb2) [rdB r2])) (h0:cb2≠0) :
  exL K 47 cxplp (cxpH l cb e ps)=exL K 47 cxplp (cxpH r2 cb2 50 (ps++[⟨cb,ls⟩])):=by
 have e1:decide ((ps.length:Int)<16)=true:=decide_eq_true (by omega)
 have e2:(([]:List UInt8)==[])=true:=rfl
 have e3:(cb2==0)=false:=by rw[beq_eq_false_iff_ne];exact h0
 have hmy:=dP
 have hown:e=50∨(encQ ps).isEmpty=true:=by
  rcases he with rfl|rfl
  ·exact .inl rfl
  ·exact .inr rfl
 have hlim:ps.length+1<cJ:=by unfold cJ;omega
 have hlv:=oA ps
 simp only[rdB,oY] at hc hk
 unfold cxplp
 conv in ap _ _=>whnf
 conv in ap _ _=>whnf
 conv in exL _ _ _ (cxpH l cb e ps)=>rw[aw]
 simp only[go_sem,Nat.reduceLT,reduceCtorEq,Nat.reduceEqDiff,Nat.reduceBEq,Nat.reduceAdd,Nat.reduceLeDiff,Nat.reduceMul,ai aQ,ak cP gB,af (len:=1) aQ gc cP ⟨rfl,by decide,by decide⟩,bV jx,bf aQ,lp,e1,e2,e3,hmy,hc,hk,hown,hlim,hlv,re,rK,bne]
 rw[az]
 simp only[go_sem,reduceCtorEq,Nat.reduceEqDiff,Nat.reduceBEq]
theorem sw : ∀ (f:Nat) (acc:List Sim) (l:List Val) (y:List Sim×List UInt8) (r:List Val),Sl.lb f acc l=some (y,r) → ∃ p,l=p++r
 | 0,_,_,_,_,h=>by cases h
 | f+1,acc,l,y,r,h=>by
  rw[Sl.lb] at h
  split at h
  ·split at h
   ·cases h
   ·cases h;exact ⟨[],rfl⟩
  ·split at h
   ·rw[Option.map_eq_some_iff] at h
    obtain ⟨z,hz,e⟩:=h
    cases e
    unfold Sl.ly at hz
    split at hz
    ·rename_i s m hn
     split at hz
     ·cases hz
      obtain ⟨t,c,e,_⟩:=Sl.qv hn
      exact ⟨l.take 2++[.mk 1 t c],by rw[List.append_assoc];simp only[List.singleton_append];rw[←e,List.take_append_drop]⟩
     ·cases hz
    ·cases hz
   ·split at h
    ·split at h
     ·rename_i x m hs
      obtain ⟨p,rfl,_⟩:=Sl.jO _ _ _ _ _ hs
      obtain ⟨q,e⟩:=sw f _ m y r h
      exact ⟨p++q,by rw[List.append_assoc,←e]⟩
     ·cases h
    ·cases h
theorem B6 (l:List Val) : ∃ p,l=p++(Sl.jm l).2:=by
 obtain ⟨p,hp⟩:=List.dropWhile_suffix Sl.al (l:=l)
 have key : ∀ {s:List UInt8} {x:List Val},Sl.sign s (l.dropWhile Sl.al)=some x → ∃ p,l=p++x.dropWhile Sl.al:=fun {s x} h=>by
  obtain ⟨v,e,_⟩:=Sl.er h
  obtain ⟨q,hq⟩:=List.dropWhile_suffix Sl.al (l:=x)
  exact ⟨p++(v::q),by rw[←hp,e,List.append_assoc,List.cons_append,hq]⟩
 unfold Sl.jm
 simp only
 cases h1:Sl.sign [62] (l.dropWhile Sl.al) with
 | some x=>exact key h1
 | none =>
  cases h2:Sl.sign [43] (l.dropWhile Sl.al) with
  | some x=>exact key h2
  | none =>
   cases h3:Sl.sign [126] (l.dropWhile Sl.al) with
   | some x=>exact key h3
   | none =>
    simp only
    split
    ·exact ⟨p,hp.symm⟩
    ·exact ⟨p,hp.symm⟩
theorem vS : ∀ (n:Nat) (l:List Val) (cb:Int) (e:Nat) (ps:List Prt),ps.length+n=16→Ne.size l≤60000000→TSh l→(e=50∨ps=[]) →
  Ends (exL K 47 cxplp (cxpH l cb e ps)) fun o S=>match Sl.cpxP n cb ps l with
   | some (c,r)=>sF c.parts c.pseudo r o S
   | none => ∃ m,o = .pan cZ∧S.bx 100000=some (rdB m)
 | 0,l,cb,e,ps,h,hsz,hts,he=>bN (Eu l cb e ps (by omega)) fun o S q=>⟨l,q⟩
 | n+1,l,cb,e,ps,h,hsz,hts,he=>by
  have hl:l.length≤60000000:=Nat.le_trans (Ne.bW l) hsz
  have hc:=BG l hsz hts
  rw[Sl.cpxP]
  cases hp:Sl.lb (l.length+1) [] l with
  | none =>
   rw[hp] at hc
   obtain ⟨m,hc⟩:=dZ hc
   exact bN (F8 l m cb e ps (by omega) hc) fun o S q=>⟨m,q⟩
  | some y =>
   obtain ⟨⟨ls,s⟩,r⟩:=y
   rw[hp] at hc
   have hc:=de hc
   obtain ⟨p,hpl⟩:=sw _ _ _ _ _ hp
   simp only
   by_cases hs:s=[]
   ·subst hs
    rw[if_neg (by simp)]
    have hrl:r.length≤l.length:=by rw[hpl,List.length_append];omega
    have hk:=Cf r (by omega)
    by_cases h0:(Sl.jm r).1=0
    ·rw[if_pos h0]
     rw[h0] at hk
     exact C7 l r _ cb e ps (by omega) he ls hc hk
    ·rw[if_neg h0,Df l r _ cb _ e ps (by omega) he ls hc hk h0]
     obtain ⟨q,hq⟩:=B6 r
     have hsz2:Ne.size (Sl.jm r).2≤Ne.size l:=by
      have e1:Ne.size l=Ne.size p+Ne.size r:=by rw[hpl,jA]
      have e2:Ne.size r=Ne.size q+Ne.size (Sl.jm r).2:=by rw[←jA,←hq]
      omega
     exact vS n _ _ _ _ (by rw[List.length_append,List.length_singleton];omega) (by omega) (t8 hts fun v hv=>by
      rw[hpl,List.mem_append]
      right
      rw[hq,List.mem_append]
      exact .inr hv) (.inl rfl)
   ·rw[if_pos hs]
    exact CO l r cb e ps (by omega) he ls s hs hc
set_option maxHeartbeats 8000000 in
theorem FL (l:List Val) (hsz:Ne.size l≤60000000) (hts:TSh l):fQ cpxE (Sl.cpxP 16 0 [] l) (den K 47 [P0] [rdB l]):=by
 have hr:Tryz.f47.results = #[.cell 2 47]:=rfl
 have h:=vS 16 l 0 0 [] rfl hsz hts (.inr rfl)
 unfold cxplp at h
 conv at h in ap _ _=>whnf
 obtain ⟨o,S,w,hq⟩:=h
 have e0:encQ []=[]:=rfl
 simp only[cxpH,rdB,e0] at w
 cases hc:Sl.cpxP 16 0 [] l with
 | none =>
  rw[hc] at hq
  obtain ⟨m,rfl,q1⟩:=hq
  refine ⟨m,?_⟩
  simp only[rdB] at q1 ⊢
  refine ab rfl rfl Tryz.func47 rfl Tryz.ntmps47 ⟨by simp,by simp[LK]⟩ ?_
  simp only[go_sem,Nat.reduceLT,Nat.reduceEqDiff,Nat.reduceBEq,Nat.reduceSub,Nat.reduceLeDiff]
  rw[az]
  simp only[go_sem,reduceCtorEq,Nat.reduceEqDiff,Nat.reduceBEq,Nat.reduceSub,Nat.reduceLeDiff]
  erw [w]
  simp only[go_sem,hr,q1]
 | some y =>
  obtain ⟨c,r⟩:=y
  rw[hc] at hq
  unfold sF at hq
  obtain ⟨rfl,q1,q2,q3,q4⟩:=hq
  show den K 47 [P0] [rdB l]=some (.ret (cpxE c) [rdB r])
  simp only[rdB,cpxE] at q4 ⊢
  refine ab rfl rfl Tryz.func47 rfl Tryz.ntmps47 ⟨by simp,by simp[LK]⟩ ?_
  simp only[go_sem,Nat.reduceLT,Nat.reduceEqDiff,Nat.reduceBEq,Nat.reduceSub,Nat.reduceLeDiff]
  rw[az]
  simp only[go_sem,reduceCtorEq,Nat.reduceEqDiff,Nat.reduceBEq,Nat.reduceSub,Nat.reduceLeDiff]
  erw [w]
  simp only[go_sem,Nat.reduceAdd,hr,q2,q3,q4]
end Go.Abs
set_option linter.unusedSimpArgs true
namespace Go.Abs
open Go Go.Proofs
set_option maxRecDepth 10000
attribute [local go_sem] cX bA ce bJ bL cU ci cg aN bD bt bR cz bE opd avOf cvOf St.degAt St.put okPV dQ okAV dc dh dp cG aD if_true Bool.false_eq_true if_false Option.map_some Option.map_none Option.bind_some Option.bind_none dL dG upd List.toList_toArray bX steal bd mvB dx cE co AV.deg CV.deg AV.gv AV.isIter cv cj bK List.length_nil List.length_cons List.filterMap_cons List.filterMap_nil beq_iff_eq List.getElem?_cons_zero List.getElem?_cons_succ Option.getD_some d8 eS Bool.false_and Bool.and_false Bool.and_self K_P fO bO cd bc lend back idx dedup AV.ren CV.ren TV.ren AV.ptrs CV.ptrs cD AV.flat CV.flat bU bH aR cA cQ dV bM aK bS bh bw bI bg ep CV.pv? content bo ownT aV reps pvs chunks bC leave ee cm c9 bF a8 TV.deg TV.av LK CV.plain CV.noBld cK ei bound List.map_cons List.map_nil List.all_cons List.all_nil List.any_cons List.any_nil List.contains_cons List.contains_nil List.elem_cons List.elem_nil List.cons_append List.nil_append List.append_nil List.flatMap_cons List.flatMap_nil List.zip_cons_cons List.zip_nil_left List.zip_nil_right List.take_succ_cons List.take_zero List.take_nil List.drop_succ_cons List.drop_zero List.drop_nil List.isEmpty_nil List.isEmpty_cons Bool.and_true Bool.true_and Bool.or_true Bool.true_or Bool.or_false Bool.false_or Bool.not_true Bool.not_false Nat.add_zero Nat.zero_add Option.isNone_none Option.isNone_some Option.getD_none true_and and_true not_true_eq_false not_false_eq_true decide_true decide_false Nat.le_refl and_self Bool.not_eq_true Nat.sub_self or_true true_or Option.some.injEq List.length_map List.nil_eq and_false false_and AV.live CV.live CV.liveIn dW aO Option.orElse_some Option.orElse_none head a7 aY Int.lt_irrefl List.length_append ite_self dR bQ cF br Key.clash Key.sees Key.writes Nat.lt_irrefl gt_iff_lt cf dD false_or or_false beq_self_eq_true Bool.true_beq Bool.false_beq
theorem zx {deep:Int} {l:List Tok} {vs:List Val} (h1:1≤deep) (h2:deep≤60) (h:Ne.parse deep.toNat l=some vs):kv deep l = .tup [.c (.pv (.sl (encL vs))),.c (.pv (.int .i64 0))]:=by
 unfold kv
 rw[if_neg (by omega)]
 unfold Ne.parse at h
 cases hu:Ne.cM 0 deep.toNat l with
 | some x=>rw[hu] at h;cases h;rfl
 | none=>rw[hu] at h;cases h
theorem xL {deep:Int} {l:List Tok} (h1:1≤deep) (h2:deep≤60) (h:Ne.parse deep.toNat l=none):kv deep l = .tup [.c (.pv (.sl [])),.c (.pv (.int .i64 20))]:=by
 unfold kv
 rw[if_neg (by omega)]
 unfold Ne.parse at h
 cases hu:Ne.cM 0 deep.toNat l with
 | some x=>rw[hu] at h;cases h
 | none=>rfl
end Go.Abs
