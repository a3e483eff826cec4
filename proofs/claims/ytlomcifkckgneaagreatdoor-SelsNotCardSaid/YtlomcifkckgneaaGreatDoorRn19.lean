/-
  WHAT THE FUNCTIONS COMPUTE, layer 1, the document's answer: the text of tokens.
-/
import Derived.Test.YtlomcifkckgneaaGreatDoorRn4
import Derived.Test.YtlomcifkckgneaaGreatDoorRn16
import Derived.Test.YtlomcifkckgneaaGreatDoorRn18
set_option linter.unusedSimpArgs false
set_option linter.unusedVariables false
namespace Go.Abs
open Go Go.Proofs
set_option maxRecDepth 10000
attribute [local go_sem] cX bA ce bJ bL cU ci cg aN bD bt bR cz bE opd avOf cvOf St.degAt St.put okPV dQ okAV dc dh dp cG aD if_true Bool.false_eq_true if_false Option.map_some Option.map_none Option.bind_some Option.bind_none dL dG upd List.toList_toArray bX steal bd mvB dx cE co AV.deg CV.deg AV.gv AV.isIter cv cj bK List.length_nil List.length_cons List.filterMap_cons List.filterMap_nil beq_iff_eq List.getElem?_cons_zero List.getElem?_cons_succ Option.getD_some d8 eS Bool.false_and Bool.and_false Bool.and_self K_P fO bO cd bc lend back idx dedup AV.ren CV.ren TV.ren AV.ptrs CV.ptrs cD AV.flat CV.flat bU bH aR cA cQ dV bM aK bS bh bw bI bg ep CV.pv? content bo ownT aV reps pvs chunks bC leave ee cm c9 bF a8 TV.deg TV.av LK CV.plain CV.noBld cK ei bound List.map_cons List.map_nil List.all_cons List.all_nil List.any_cons List.any_nil List.contains_cons List.contains_nil List.elem_cons List.elem_nil List.cons_append List.nil_append List.append_nil List.flatMap_cons List.flatMap_nil List.zip_cons_cons List.zip_nil_left List.zip_nil_right List.take_succ_cons List.take_zero List.take_nil List.drop_succ_cons List.drop_zero List.drop_nil List.isEmpty_nil List.isEmpty_cons Bool.and_true Bool.true_and Bool.or_true Bool.true_or Bool.or_false Bool.false_or Bool.not_true Bool.not_false Nat.add_zero Nat.zero_add Option.isNone_none Option.isNone_some Option.getD_none true_and and_true not_true_eq_false not_false_eq_true decide_true decide_false Nat.le_refl and_self Bool.not_eq_true Nat.sub_self or_true true_or Option.some.injEq List.length_map List.nil_eq and_false false_and AV.live CV.live CV.liveIn dW aO Option.orElse_some Option.orElse_none head a7 aY Int.lt_irrefl List.length_append ite_self dR bQ cF br Key.clash Key.sees Key.writes Nat.lt_irrefl gt_iff_lt cf dD false_or or_false beq_self_eq_true Bool.true_beq Bool.false_beq B4 aG aL CP C9 cR ck bB c8 aE cy
theorem EB {a x:Tok} (h:Tk.all (oneS a++oneS x)=[a,x]):(oneS a++oneS x==[60,47])=((a.kind==7)&&(a.text==[60])&&(x.kind==7)&&(x.text==[47])):=by
 rw[Bool.eq_iff_iff]
 simp only[Bool.and_eq_true,beq_iff_eq]
 constructor
 ·intro e
  rw[e] at h
  have h2:Tk.all [60,47]=[⟨7,[60],0⟩,⟨7,[47],0⟩]:=by decide
  rw[h2] at h
  injection h with h3 h4
  injection h4 with h5 _
  rw[←h3,←h5]
  simp
 ·rintro ⟨⟨⟨h1,h2⟩,h3⟩,h4⟩
  unfold oneS
  rw[h1,h2,h3,h4]
  simp
abbrev text1H (s:List UInt8) (l:List Tok) (i:Nat):St := { sl:=upd (upd (upd bot 4 (I i)) 3 (T s)) 0 (L (l.map Tok.enc)),bx:=nobox,nt:=82 }
set_option maxHeartbeats 16000000 in
theorem x7 (l:List Tok) (hl:Ah l.length) (hok : ∀ t∈l,OkT t) : ∀ (rest:List Tok) (i:Nat) (p:Option Tok) (s:List UInt8),l.drop i=rest→i≤l.length→(p=none∧i=0 ∨ ∃ a,p=some a∧0<i∧l[i - 1]? = some a)→(s++jj p rest).length<kQ →
  Ends (exL K 58 (.loop (ap Tryz.f58 3)) (text1H s l i)) fun o S=>o = .exit 0∧S.nt=82∧S.sl 3=T (s++jj p rest):=by
 intro rest
 induction rest with
 | nil =>
  intro i p s hd hi hp hlen
  have hin:i=l.length:=by
   have:=List.drop_eq_nil_iff.1 hd
   omega
  subst hin
  rw[Bq,List.append_nil]
  conv in ap _ _=>whnf
  rw[aw]
  simp only[go_sem,Nat.reduceLT,reduceCtorEq,Nat.reduceEqDiff,Nat.reduceBEq,Nat.reduceAdd,ai ag,aB]
 | cons x rest ih =>
  intro i p s hd hi hp hlen
  obtain ⟨g1,g2,g3⟩:=bZ hd
  have hx:=hok x (List.mem_of_getElem? g1)
  have hlt:decide ((i:Int)<(l.length:Int))=true:=decide_eq_true (by omega)
  have ga:=uC l i x g1
  have hi2:i<9223372036854775807:=by unfold Ah at hl;omega
  have wi:=bu i hi2
  rw[xM] at hlen ⊢
  have hone:=xx x hx.1 (by have:=hx.2;omega)
  simp only[Tok.cells] at hone
  have et:kQ=4294967296:=rfl
  have hnext : ∀ s1:List UInt8,(s1++(oneS x++jj (some x) rest)).length<kQ→_:=fun s1 h=>ih (i+1) (some x) (s1++oneS x) g2 (by omega) (.inr ⟨x,rfl,by omega,by simpa using g1⟩) (by rw[List.append_assoc];exact h)
  conv at hnext in ap _ _=>whnf
  simp only[List.append_assoc] at hnext
  have hpl:(oneS x).length≤1000000100:=by have:=nJ x hx.1;have:=hx.2;omega
  rcases hp with ⟨rfl,hi0⟩|⟨a,rfl,hi0,ha⟩
  ·have h0:decide ((0:Int)<(i:Int))=false:=decide_eq_false (by omega)
   have hap:apO none x=false:=rfl
   rw[hap] at hlen ⊢
   simp only[Bool.false_eq_true,if_false,List.nil_append] at hlen ⊢
   have hn:=hnext s hlen
   have l1:s.length+(oneS x).length<aU:=by simp only[List.length_append] at hlen;simp[aU];omega
   conv in ap _ _=>whnf
   rw[aw]
   simp only[go_sem,Nat.reduceLT,reduceCtorEq,Nat.reduceEqDiff,Nat.reduceBEq,Nat.reduceAdd,ai ag,am ag,hlt,ga,Int.natCast_nonneg,hone,h0,l1,wi]
   rw[az]
   simp only[go_sem,reduceCtorEq,Nat.reduceEqDiff]
   exact hn
  ·have h0:decide ((0:Int)<(i:Int))=true:=decide_eq_true (by omega)
   have wm:IntKind.i64.wrap ((i:Int) - 1)=((i - 1:Nat):Int):=by rw[IntWalk.i64_in _ (by omega)];omega
   have gp:=uC l (i - 1) a ha
   have hok1:=hok a (List.mem_of_getElem? ha)
   have hone2:=xx a hok1.1 (by have:=hok1.2;omega)
   simp only[Tok.cells] at hone2
   have la:=nJ a hok1.1
   have l2:(oneS a).length+(oneS x).length<aU:=by have:=hok1.2;simp[aU];omega
   have htw:=FY (oneS a++oneS x) a x (by rw[List.length_append];have:=hok1.2;have:=nJ x hx.1;have:=hx.2;omega)
   simp only[Tok.cells] at htw
   have hap0:apO (some a) x=(!decide (Tk.all (oneS a++oneS x)=[a,x])||(oneS a++oneS x==[60,47])):=by
    show Tk.apart a x=_
    unfold Tk.apart
    rw[decide_not]
   rw[hap0] at hlen ⊢
   have yes : ∀ {r:Option (Out×St)},(∀ hn:(s++([47,42,42,47]++(oneS x++jj (some x) rest))).length<kQ,Ends r (fun o S=>o = .exit 0∧S.nt=82∧S.sl 3=T (s++([47,42,42,47]++(oneS x++jj (some x) rest)))))→(!decide (Tk.all (oneS a++oneS x)=[a,x])||(oneS a++oneS x==[60,47]))=true→Ends r (fun o S=>o = .exit 0∧S.nt=82∧S.sl 3=T (s++((if (!decide (Tk.all (oneS a++oneS x)=[a,x])||(oneS a++oneS x==[60,47]))=true then [47,42,42,47] else [])++(oneS x++jj (some x) rest)))):=fun h e=>by
    rw[e] at hlen ⊢
    exact h hlen
   have no : ∀ {r:Option (Out×St)},(∀ hn:(s++(oneS x++jj (some x) rest)).length<kQ,Ends r (fun o S=>o = .exit 0∧S.nt=82∧S.sl 3=T (s++(oneS x++jj (some x) rest))))→(!decide (Tk.all (oneS a++oneS x)=[a,x])||(oneS a++oneS x==[60,47]))=false→Ends r (fun o S=>o = .exit 0∧S.nt=82∧S.sl 3=T (s++((if (!decide (Tk.all (oneS a++oneS x)=[a,x])||(oneS a++oneS x==[60,47]))=true then [47,42,42,47] else [])++(oneS x++jj (some x) rest)))):=fun h e=>by
    rw[e] at hlen ⊢
    exact h hlen
   conv in ap _ _=>whnf
   by_cases hall:Tk.all (oneS a++oneS x)=[a,x]
   ·have hls:=EB hall
    rw[decide_eq_true hall] at htw hlen yes no ⊢
    simp only[Bool.not_true,Bool.false_or] at hlen yes no ⊢
    rw[hls] at hlen yes no ⊢
    clear hlen hap0 hls
    cases p1:(a.kind==7)<;>rw[p1] at yes no
    ·refine no (fun hn => ?_) rfl
     have hn2:=hnext s hn
     have l1:s.length+(oneS x).length<aU:=by simp only[List.length_append] at hn;simp[aU];omega
     rw[aw]
     simp only[go_sem,Nat.reduceLT,reduceCtorEq,Nat.reduceEqDiff,Nat.reduceBEq,Nat.reduceAdd,ai ag,am ag,hlt,ga,gp,Int.natCast_nonneg,hone,hone2,htw,h0,wm,l1,l2,wi,p1]
     rw[az]
     simp only[go_sem,reduceCtorEq,Nat.reduceEqDiff]
     exact hn2
    cases p2:(a.text==[60])<;>rw[p2] at yes no
    ·refine no (fun hn => ?_) rfl
     have hn2:=hnext s hn
     have l1:s.length+(oneS x).length<aU:=by simp only[List.length_append] at hn;simp[aU];omega
     rw[aw]
     simp only[go_sem,Nat.reduceLT,reduceCtorEq,Nat.reduceEqDiff,Nat.reduceBEq,Nat.reduceAdd,ai ag,am ag,hlt,ga,gp,Int.natCast_nonneg,hone,hone2,htw,h0,wm,l1,l2,wi,p1,p2]
     rw[az]
     simp only[go_sem,reduceCtorEq,Nat.reduceEqDiff]
     exact hn2
    cases p3:(x.kind==7)<;>rw[p3] at yes no
    ·refine no (fun hn => ?_) rfl
     have hn2:=hnext s hn
     have l1:s.length+(oneS x).length<aU:=by simp only[List.length_append] at hn;simp[aU];omega
     rw[aw]
     simp only[go_sem,Nat.reduceLT,reduceCtorEq,Nat.reduceEqDiff,Nat.reduceBEq,Nat.reduceAdd,ai ag,am ag,hlt,ga,gp,Int.natCast_nonneg,hone,hone2,htw,h0,wm,l1,l2,wi,p1,p2,p3]
     rw[az]
     simp only[go_sem,reduceCtorEq,Nat.reduceEqDiff]
     exact hn2
    cases p4:(x.text==[47])<;>rw[p4] at yes no
    ·refine no (fun hn => ?_) rfl
     have hn2:=hnext s hn
     have l1:s.length+(oneS x).length<aU:=by simp only[List.length_append] at hn;simp[aU];omega
     rw[aw]
     simp only[go_sem,Nat.reduceLT,reduceCtorEq,Nat.reduceEqDiff,Nat.reduceBEq,Nat.reduceAdd,ai ag,am ag,hlt,ga,gp,Int.natCast_nonneg,hone,hone2,htw,h0,wm,l1,l2,wi,p1,p2,p3,p4]
     rw[az]
     simp only[go_sem,reduceCtorEq,Nat.reduceEqDiff]
     exact hn2
    ·refine yes (fun hn => ?_) rfl
     have hn2:=hnext (s++[47,42,42,47]) (by simp only[List.append_assoc];exact hn)
     simp only[List.append_assoc] at hn2
     have l0:s.length+4<aU:=by simp only[List.length_append,List.length_cons,List.length_nil] at hn;simp[aU];omega
     have l1:s.length+4+(oneS x).length<aU:=by simp only[List.length_append,List.length_cons,List.length_nil] at hn;simp[aU];omega
     rw[aw]
     simp only[go_sem,Nat.reduceLT,reduceCtorEq,Nat.reduceEqDiff,Nat.reduceBEq,Nat.reduceAdd,ai ag,am ag,hlt,ga,gp,Int.natCast_nonneg,hone,hone2,htw,h0,wm,l0,l1,l2,wi,p1,p2,p3,p4,List.append_assoc]
     rw[az]
     simp only[go_sem,reduceCtorEq,Nat.reduceEqDiff]
     exact hn2
   ·rw[decide_eq_false hall] at htw hlen yes no ⊢
    simp only[Bool.not_false,Bool.true_or] at hlen yes no ⊢
    refine yes (fun hn => ?_) trivial
    have hn2:=hnext (s++[47,42,42,47]) (by simp only[List.append_assoc];exact hn)
    simp only[List.append_assoc] at hn2
    have l0:s.length+4<aU:=by simp only[List.length_append,List.length_cons,List.length_nil] at hn;simp[aU];omega
    have l1:s.length+4+(oneS x).length<aU:=by simp only[List.length_append,List.length_cons,List.length_nil] at hn;simp[aU];omega
    rw[aw]
    simp only[go_sem,Nat.reduceLT,reduceCtorEq,Nat.reduceEqDiff,Nat.reduceBEq,Nat.reduceAdd,ai ag,am ag,hlt,ga,gp,Int.natCast_nonneg,hone,hone2,htw,h0,wm,l0,l1,l2,wi,List.append_assoc]
    rw[az]
    simp only[go_sem,reduceCtorEq,Nat.reduceEqDiff]
    exact hn2
theorem Bt (l:List Tok) (hl:Ah l.length) (hok : ∀ t∈l,OkT t) (hlen:(Tk.text l).length<kQ):den K 58 [L (l.map Tok.enc)] []=some (.ret (T (Tk.text l)) []):=by
 refine ab rfl rfl Tryz.func58 rfl Tryz.ntmps58 ⟨by simp,by simp[LK]⟩ ?_
 have hr:Tryz.f58.results = #[.tmp 2]:=rfl
 have hlp:=x7 l hl hok l 0 none [] rfl (Nat.zero_le _) (.inl ⟨rfl,rfl⟩) (by simpa[jj] using hlen)
 conv at hlp in ap _ _=>whnf
 obtain ⟨o,S',e2,rfl,hn,h3⟩:=hlp
 simp only[List.nil_append,jj] at h3
 simp only[go_sem,Nat.reduceLT,Nat.reduceBEq]
 rw[az]
 simp only[go_sem,reduceCtorEq,Nat.reduceEqDiff]
 erw [e2]
 simp only[go_sem,Nat.reduceLT,Nat.reduceEqDiff,Nat.reduceBEq,Nat.reduceAdd,hr,hn,h3]
theorem yA {l:List Tok} {n m:Nat} (hl:l.length≤n) (h : ∀ t∈l,I64 t.n∧t.text.length≤m) (hm:n*(m+25)<1000000000):(Tk.text l).length<1000000000:=by
 have h1:=Tk.xz (m:=m+21) l fun t ht=>by
  have:=nJ t (h t ht).1
  have:=(h t ht).2
  omega
 have h2:l.length*(m+21+4)≤n*(m+25):=Nat.mul_le_mul hl (by omega)
 omega
end Go.Abs
