/-
  WHAT THE DOCUMENT'S ANSWER COMPUTES, layer 1: the tokens of a text; whether tokens may be.
  WHAT THE FUNCTIONS COMPUTE, layer 2: parsing; whether values may be.
  WHAT THE FUNCTIONS COMPUTE, layer 4, the document's reader of selectors: lists of them; texts.
  WHAT THE FUNCTIONS COMPUTE, layer 3: the text of values, the values of a text.
  WHAT THE FUNCTIONS COMPUTE, layer 4, the program's reader of selectors: lists of them; texts.
-/
import Derived.Test.YtlomcifkckgneaaGreatDoorRh1
import Derived.Test.YtlomcifkckgneaaGreatDoorRh2
import Derived.Test.YtlomcifkckgneaaGreatDoorRh3
import Derived.Test.YtlomcifkckgneaaGreatDoorRh4
import Derived.Test.YtlomcifkckgneaaGreatDoorRh6
import Derived.Test.YtlomcifkckgneaaGreatDoorRh8
import Derived.Test.YtlomcifkckgneaaGreatDoorRh9
set_option linter.unusedSimpArgs false
set_option linter.unusedVariables false
namespace Go.Abs
open Go Go.Proofs
set_option maxRecDepth 10000
attribute [local go_sem] cS bA ck bM bL cT cq co aI a6 aX bt bV bf opd avOf cvOf St.degAt St.put okPV dD okAV cX cZ cY cx al if_true Bool.false_eq_true if_false Option.map_some Option.map_none Option.bind_some Option.bind_none dE dp upd List.toList_toArray bu steal aN mvB dt cA bW AV.deg CV.deg AV.gv AV.isIter cj ct bJ List.length_nil List.length_cons List.filterMap_cons List.filterMap_nil beq_iff_eq List.getElem?_cons_zero List.getElem?_cons_succ Option.getD_some eL fe Bool.false_and Bool.and_false Bool.and_self K_P fZ bv bS aR lend back idx dedup AV.ren CV.ren TV.ren AV.ptrs CV.ptrs b6 AV.flat CV.flat bI bz aJ bU cF dU bD aF bR aY bh bw aZ eD CV.pv? content aV ownT aM reps pvs chunks a7 leave ek b5 cU bd aQ TV.deg TV.av LK CV.plain CV.noBld ci ei bound List.map_cons List.map_nil List.all_cons List.all_nil List.any_cons List.any_nil List.contains_cons List.contains_nil List.elem_cons List.elem_nil List.cons_append List.nil_append List.append_nil List.flatMap_cons List.flatMap_nil List.zip_cons_cons List.zip_nil_left List.zip_nil_right List.take_succ_cons List.take_zero List.take_nil List.drop_succ_cons List.drop_zero List.drop_nil List.isEmpty_nil List.isEmpty_cons Bool.and_true Bool.true_and Bool.or_true Bool.true_or Bool.or_false Bool.false_or Bool.not_true Bool.not_false Nat.add_zero Nat.zero_add Option.isNone_none Option.isNone_some Option.getD_none true_and and_true not_true_eq_false not_false_eq_true decide_true decide_false Nat.le_refl and_self Bool.not_eq_true Nat.sub_self or_true true_or Option.some.injEq List.length_map List.nil_eq and_false false_and AV.live CV.live CV.liveIn ev aH Option.orElse_some Option.orElse_none head aU aP Int.lt_irrefl List.length_append ite_self dx bo bX a8 Key.clash Key.sees Key.writes Nat.lt_irrefl gt_iff_lt cm dG false_or or_false beq_self_eq_true Bool.true_beq Bool.false_beq un yX ab au cP cd bl az
abbrev xU (s:List UInt8) (i:Nat) (ys:List Tok):St := { sl:=upd (upd (upd bot 4 (I i)) 3 (.c (.own 91 (ys.map Tok.enc)))) 0 (T s),bx:=nobox,nt:=27 }
theorem yK {t:Tok} (h:Tk.Good t):(t.kind != 0)=true:=by
 rw[bne_iff_ne]
 cases h<;>simp
set_option maxHeartbeats 4000000 in
theorem uR (s:List UInt8) (hs:s.length<4000000000) : ∀ (l:List UInt8) (i:Nat) (ys:List Tok),s.drop i=l→i≤s.length→ys.length+l.length<4000000000 →
  Ends (exL K 33 (.loop (an Tryz.f33 3)) (xU s i ys)) fun o S=>o = .exit 0∧S.nt=27∧S.sl 3 = .c (.own 91 ((ys++Tk.all l).map Tok.enc)):=by
 refine Tk.o7 (Q:=fun l => ∀ (i:Nat) (ys:List Tok),s.drop i=l→i≤s.length→ys.length+l.length<4000000000 →
  Ends (exL K 33 (.loop (an Tryz.f33 3)) (xU s i ys)) fun o S=>o = .exit 0∧S.nt=27∧S.sl 3 = .c (.own 91 ((ys++Tk.all l).map Tok.enc))) ?_ ?_
 ·intro i ys hd hi _
  have hin:i=s.length:=by
   have:=List.drop_eq_nil_iff.1 hd
   omega
  subst hin
  rw[Tk.all_nil,List.append_nil]
  conv in an _ _=>whnf
  rw[aq]
  simp only[go_sem,Nat.reduceLT,reduceCtorEq,Nat.reduceEqDiff,Nat.reduceBEq,Nat.reduceAdd,aj aa,aw]
 ·intro c r ih i ys hd hi hl
  obtain ⟨g1,g2,g3⟩:=cv hd
  have hp:=Tk.iK c r
  have hle:=Tk.tH c r
  have hn:=vK s i c r hs hd
  have hlt:decide ((i:Int)<(s.length:Int))=true:=decide_eq_true (by omega)
  have hlen:(c::r).length=s.length - i:=by rw[←hd,List.length_drop]
  have hdd:s.drop (i+(Tk.step c r).2)=(c::r).drop (Tk.step c r).2:=by rw[←List.drop_drop,hd]
  have hall:=Tk.all_cons c r
  have ih':=ih (i+(Tk.step c r).2)
  simp only[cr,Tok.cells] at hn
  cases hst:(Tk.step c r).1 with
  | none =>
   rw[hst] at hn hall
   simp only[dA,Option.getD_none] at hn
   simp only[Option.toList_none,List.nil_append] at hall
   have e0:((0:Int) != 0)=false:=by decide
   have ih2:=ih' ys hdd (by omega) (by rw[List.length_drop];omega)
   rw[←hall] at ih2
   conv at ih2 in an _ _=>whnf
   conv in an _ _=>whnf
   rw[aq]
   simp only[go_sem,Nat.reduceLT,reduceCtorEq,Nat.reduceEqDiff,Nat.reduceBEq,Nat.reduceAdd,Nat.reduceMul,aj aa,ay (len:=1) ag au ab ⟨rfl,by decide,by decide⟩,cI jt,bq ag,hlt,hn,e0,TV.flat]
   rw[aO]
   simp only[go_sem,reduceCtorEq,Nat.reduceEqDiff]
   exact ih2
  | some t =>
   rw[hst] at hn hall
   simp only[dA,Option.getD_some] at hn
   simp only[Option.toList_some,List.cons_append,List.nil_append] at hall
   have e0:=yK (Tk.vD hst)
   have hla:ys.length+1<dF:=by simp[dF];simp only[List.length_cons] at hl;omega
   have ih2:=ih' (ys++[t]) hdd (by omega) (by rw[List.length_append,List.length_drop];simp only[List.length_cons,List.length_nil] at *;omega)
   rw[List.append_assoc,List.cons_append,List.nil_append,←hall] at ih2
   have hys:(ys++[t]).map Tok.enc=ys.map Tok.enc++[[.int .i64 t.kind,.str t.text,.int .i64 t.n]]:=by simp[Tok.enc]
   simp only[xU,hys] at ih2
   conv at ih2 in an _ _=>whnf
   conv in an _ _=>whnf
   rw[aq]
   simp only[go_sem,Nat.reduceLT,reduceCtorEq,Nat.reduceEqDiff,Nat.reduceBEq,Nat.reduceAdd,Nat.reduceMul,aj aa,ay (len:=1) ag au ab ⟨rfl,by decide,by decide⟩,cI jt,bq ag,hlt,hn,e0,TV.flat,hla,gy,wF]
   rw[aO]
   simp only[go_sem,reduceCtorEq,Nat.reduceEqDiff]
   exact ih2
theorem wo (s:List UInt8) (hs:s.length<4000000000):den K 33 [T s] []=some (.ret (L ((Tk.all s).map Tok.enc)) []):=by
 refine ae rfl rfl Tryz.func33 rfl Tryz.ntmps33 ⟨by simp,by simp[LK]⟩ ?_
 have hr:Tryz.f33.results = #[.tmp 2]:=rfl
 have hl:=uR s hs s 0 [] rfl (Nat.zero_le _) (by simp;omega)
 conv at hl in an _ _=>whnf
 obtain ⟨o,S',e2,rfl,hn,h3⟩:=hl
 simp only[List.nil_append] at h3
 simp only[go_sem,Nat.reduceLT,Nat.reduceEqDiff,Nat.reduceBEq,Nat.reduceAdd,ay (len:=0) ag au ab ⟨rfl,by decide,by decide⟩]
 rw[aO]
 simp only[go_sem,reduceCtorEq,Nat.reduceEqDiff]
 erw [e2]
 simp only[go_sem,Nat.reduceLT,Nat.reduceEqDiff,Nat.reduceBEq,Nat.reduceAdd,hr,hn,h3]
attribute [local go_sem] tr d8 lm fW ou lF ga eO gQ
theorem zh (l:List Tok) (hl:l.length≤100000000) : ∀ (m:Nat) (i:Nat),l.length - i≤m→i≤l.length → ∀ (kind:Int) (left:Nat),left<1000 → ∀ (e:Nat) (acc:List Val),acc.length≤i→(e=93∨acc=[]) →
  Ends (exL K 64 ulp2 (u2H l kind left i e acc)) (ULoop2 l kind left i acc):=by
 intro m
 induction m with
 | zero =>
  intro i hm hi kind left hleft e acc hacc he
  obtain rfl:i=l.length:=by omega
  refine b7 (wX l kind left e acc) fun o S q => ?_
  unfold ULoop2
  rw[List.drop_length,Ne.eR]
  refine ⟨l.length,List.drop_length,Nat.le_refl _,Nat.le_refl _,.inr ?_⟩
  rw[List.append_nil]
  exact ⟨q.1,q.2.1,q.2.2.1,q.2.2.2.1,q.2.2.2.2.1,e,q.2.2.2.2.2⟩
 | succ m ih =>
  intro i hm hi kind left hleft e acc hacc he
  by_cases hil:i=l.length
  ·subst hil
   refine b7 (wX l kind left e acc) fun o S q => ?_
   unfold ULoop2
   rw[List.drop_length,Ne.eR]
   refine ⟨l.length,List.drop_length,Nat.le_refl _,Nat.le_refl _,.inr ?_⟩
   rw[List.append_nil]
   exact ⟨q.1,q.2.1,q.2.2.1,q.2.2.2.1,q.2.2.2.2.1,e,q.2.2.2.2.2⟩
  ·have hlt:i<l.length:=by omega
   have hd:l.drop i=l[i]::l.drop (i+1):=List.drop_eq_getElem_cons hlt
   have hg:l[i]? = some l[i]:=List.getElem?_eq_getElem hlt
   generalize l[i]=t at hd hg
   have hu:=Ne.dq kind left t (l.drop (i+1))
   rw[←hd] at hu
   cases hb:Ne.bE kind t with
   | true =>
    refine b7 (yD l kind left i e acc t hg hl hb) fun o S q => ?_
    rw[hb,if_pos rfl] at hu
    unfold ULoop2
    rw[hu]
    exact ⟨i+1,rfl,hlt,by omega,.inl (by rw[List.append_nil];exact q)⟩
   | false =>
    rw[hb,if_neg (by simp)] at hu
    by_cases h0:Ne.opens t=0
    ·rw[if_pos h0] at hu
     have hs:=AN l kind left i e acc t hg hl hb he (by omega) h0
     rw[hs]
     have hacc2:(acc++[Val.mk 1 t []]).length≤i+1:=by rw[List.length_append,List.length_singleton];omega
     have hmm:l.length - (i+1)≤m:=by omega
     have hi:=ih (i+1) hmm hlt kind left hleft 93 (acc++[.mk 1 t []]) hacc2 (Or.inl rfl)
     refine b7 hi fun o S q => ?_
     unfold ULoop2 at q ⊢
     rw[hu]
     cases hv:Ne.bF kind left (l.drop (i+1)) with
     | none=>rw[hv] at q;exact q
     | some x =>
      rw[hv] at q
      obtain ⟨j,q1,q2,q3,q4⟩:=q
      have ha:acc++Val.mk 1 t []::x.1=acc++[Val.mk 1 t []]++x.1:=by simp
      refine ⟨j,q1,q2,by omega,?_⟩
      show Ret2 (encL (acc++Val.mk 1 t []::x.1)) _ _ _ _∨_
      rw[ha]
      exact q4
    ·rw[if_neg h0] at hu
     cases left with
     | zero =>
      refine b7 (y6 l kind i e acc t hg hl hb h0) fun o S q => ?_
      unfold ULoop2
      rw[hu]
      exact q
     | succ n =>
      have hn:n<1000:=by omega
      have hmm:l.length - (i+1)≤m:=by omega
      have hin:=wO (ih (i+1) hmm hlt (Ne.opens t) n hn 0 [] (Nat.zero_le _) (Or.inr rfl))
      unfold UDen2 at hin
      simp only at hu
      cases hv:Ne.bF (Ne.opens t) n (l.drop (i+1)) with
      | none =>
       rw[hv] at hin hu
       obtain ⟨a,b,hin⟩:=hin
       refine b7 (Ao l kind n i e acc t hg hl hn hb h0 a b hin) fun o S q => ?_
       unfold ULoop2
       rw[hu]
       exact q
      | some x =>
       obtain ⟨vs,rest⟩:=x
       rw[hv] at hin hu
       obtain ⟨j,q1,q2,q3,hin⟩:=hin
       have hs:=A0 l kind n i j e acc t vs hg hl hn hb he (by omega) h0 hin
       rw[hs]
       have hacc2:(acc++[Val.mk (Ne.opens t) (if Ne.opens t=5 then t else Ne.tok0) vs]).length≤j:=by rw[List.length_append,List.length_singleton];omega
       have hmm2:l.length - j≤m:=by omega
       have hi:=ih j hmm2 q2 kind (n+1) hleft 93 (acc++[.mk (Ne.opens t) (if Ne.opens t=5 then t else Ne.tok0) vs]) hacc2 (Or.inl rfl)
       refine b7 hi fun o S q => ?_
       unfold ULoop2 at q ⊢
       rw[q1] at q
       simp only at hu
       rw[hu]
       cases hv2:Ne.bF kind (n+1) rest with
       | none=>rw[hv2] at q;exact q
       | some y =>
        rw[hv2] at q
        obtain ⟨j',r1,r2,r3,r4⟩:=q
        have ha:acc++Val.mk (Ne.opens t) (if Ne.opens t=5 then t else Ne.tok0) vs::y.1=acc++[Val.mk (Ne.opens t) (if Ne.opens t=5 then t else Ne.tok0) vs]++y.1:=by simp
        refine ⟨j',r1,r2,by omega,?_⟩
        show Ret2 (encL (acc++Val.mk (Ne.opens t) (if Ne.opens t=5 then t else Ne.tok0) vs::y.1)) _ _ _ _∨_
        rw[ha]
        exact r4
theorem sy (l:List Tok) (hl:l.length≤100000000) (left:Nat) (hleft:left<1000):UDen2 l 0 left 0 :=
 wO (zh l hl l.length 0 (by omega) (Nat.zero_le _) 0 left hleft 0 [] (Nat.zero_le _) (Or.inr rfl))
def i6 (deep:Int) (l:List Tok):AV :=
 if deep<1∨60<deep then .tup [.c .nils,.c (.pv (.int .i64 1))]
 else match Ne.bF 0 deep.toNat l with
  | some x => .tup [.c (.pv (.sl (encL x.1))),.c (.pv (.int .i64 0))]
  | none => .tup [.c .nils,.c (.pv (.int .i64 20))]
theorem rR (l:List Tok) (hl:l.length≤100000000) (deep:Int):den K 32 [L (l.map Tok.enc),I deep] []=some (.ret (i6 deep l) []):=by
 refine ae rfl rfl Tryz.func32 rfl Tryz.ntmps32 ⟨by simp,by simp[LK]⟩ ?_
 have hr:Tryz.f32.results = #[.tmp 4,.tmp 5]:=rfl
 unfold i6
 by_cases h1:deep<1
 ·have e1:decide (deep<1)=true:=decide_eq_true h1
  rw[if_pos (.inl h1)]
  simp only[go_sem,Nat.reduceLT,Nat.reduceEqDiff,Nat.reduceBEq,Nat.reduceAdd,hr,e1]
 ·have e1:decide (deep<1)=false:=decide_eq_false h1
  by_cases h2:60<deep
  ·have e2:decide (60<deep)=true:=decide_eq_true h2
   rw[if_pos (.inr h2)]
   simp only[go_sem,Nat.reduceLT,Nat.reduceEqDiff,Nat.reduceBEq,Nat.reduceAdd,hr,e1,e2]
  ·have e2:decide (60<deep)=false:=decide_eq_false h2
   rw[if_neg (by omega)]
   obtain ⟨d,rfl⟩ : ∃ d:Nat,deep=d:=⟨deep.toNat,by omega⟩
   rw[Int.toNat_natCast]
   have hu:=sy l hl d (by omega)
   unfold UDen2 at hu
   rw[List.drop_zero] at hu
   have z0:((0:Nat):Int)=0:=rfl
   rw[z0] at hu
   cases hv:Ne.bF 0 d l with
   | some x =>
    rw[hv] at hu
    obtain ⟨j,_,_,_,hu⟩:=hu
    simp only[go_sem,Nat.reduceLT,reduceCtorEq,Nat.reduceEqDiff,Nat.reduceBEq,Nat.reduceAdd,Nat.reduceSub,Nat.reduceLeDiff,hr,e1,e2,hu]
   | none =>
    rw[hv] at hu
    obtain ⟨a,b,hu⟩:=hu
    simp only[go_sem,Nat.reduceLT,reduceCtorEq,Nat.reduceEqDiff,Nat.reduceBEq,Nat.reduceAdd,Nat.reduceSub,Nat.reduceLeDiff,hr,e1,e2,hu]
theorem n8 (s:List UInt8):(Tk.all s).length≤s.length:=Tk.yE s
theorem zq {l:List Tok} {v:List Val} {n:Nat} (h:Ne.parse 60 l=some v) (hl : ∀ t∈l,t.text.length≤n) (hn:n<1000000000):TSh v:=fun t ht=>by
 obtain ⟨_,_,_,c,hc⟩:=Ne.jz h
 rw[hc] at ht
 rcases List.mem_append.1 ht with ht|ht
 ·have:=hl t ht;omega
 ·obtain ⟨k,_,rfl⟩:=List.mem_map.1 ht
  unfold Ne.dh
  simp
attribute [local go_sem] yG zm yB
def oP (s:List UInt8):AV:=match Sl.kf s with
 | some a => .tup [.c (.pv (.sl (encL a))),.c (.pv (.int .i64 0))]
 | none => .tup [.c .nils,.c (.pv (.int .i64 20))]
theorem qT {deep:Int} {l:List Tok} {vs:List Val} (h1:1≤deep) (h2:deep≤60) (h:Ne.parse deep.toNat l=some vs):i6 deep l = .tup [.c (.pv (.sl (encL vs))),.c (.pv (.int .i64 0))]:=by
 unfold i6
 rw[if_neg (by omega)]
 unfold Ne.parse at h
 cases hu:Ne.bF 0 deep.toNat l with
 | some x=>rw[hu] at h;cases h;rfl
 | none=>rw[hu] at h;cases h
theorem ru {deep:Int} {l:List Tok} (h1:1≤deep) (h2:deep≤60) (h:Ne.parse deep.toNat l=none):i6 deep l = .tup [.c .nils,.c (.pv (.int .i64 20))]:=by
 unfold i6
 rw[if_neg (by omega)]
 unfold Ne.parse at h
 cases hu:Ne.bF 0 deep.toNat l with
 | some x=>rw[hu] at h;cases h
 | none=>rfl
theorem so (s:List UInt8) (hs:s.length<4000000000) (hal:(Tk.all s).length≤1000000):den K 11 [T s] []=some (.ret (oP s) []):=by
 have h1:=wo s hs
 have h2:=rR (Tk.all s) (by omega) 60
 unfold oP Sl.kf
 have e20:((20:Int) != 0)=true:=by decide
 have e00:((0:Int) != 0)=false:=by decide
 refine ae rfl rfl Tryz.func11 rfl Tryz.ntmps11 ⟨by simp,by simp[LK]⟩ ?_
 have hr:Tryz.f11.results = #[.tmp 2,.tmp 3]:=rfl
 cases hp:Ne.parse 60 (Tk.all s) with
 | none =>
  rw[ru (deep:=60) (by decide) (by decide) hp] at h2
  simp only[go_sem,Nat.reduceLT,reduceCtorEq,Nat.reduceEqDiff,Nat.reduceBEq,Nat.reduceAdd,hr,h1,h2,e20,Option.map_none,TV.flat]
 | some vs =>
  rw[qT (deep:=60) (by decide) (by decide) hp] at h2
  obtain ⟨_,_,hsz,_⟩:=Ne.jz hp
  have hl:=Ne.iz vs
  have h3:=xB vs (by omega)
  simp only[go_sem,Nat.reduceLT,reduceCtorEq,Nat.reduceEqDiff,Nat.reduceBEq,Nat.reduceAdd,hr,h1,h2,h3,e00,Option.map_some,TV.flat]
theorem xV {s:List UInt8} {v:List Val} (h:Sl.kf s=some v) (hs:s.length≤500000):Ne.size v≤1000000∧TSh v:=by
 unfold Sl.kf at h
 rw[Option.map_eq_some_iff] at h
 obtain ⟨u,hu,rfl⟩:=h
 have hc:=n8 s
 have hv:=(Ne.jz hu).2.2.1
 have hts:=zq hu (Tk.wu s) (by omega)
 exact ⟨Nat.le_trans (si u) (by omega),s6 hts⟩
end Go.Abs
