/-
  SelsTell, as the interpreter answers it: true, whatever the values, the text and the selectors are.
  (And 1 texts more.)
-/
import Derived.Test.YtlomcifkckgneaaGreatDoorRt25
import Derived.Test.YtlomcifkckgneaaGreatDoorRt26
import Derived.Test.YtlomcifkckgneaaGreatDoorRt32
set_option linter.unusedSimpArgs false
set_option linter.unusedVariables false
namespace Go.Abs
open Go Go.Proofs
set_option maxRecDepth 10000
attribute [local go_sem] c7 bF cD bW bZ db cJ cE a7 ck ce cF c8 bS opd avOf cvOf St.degAt St.put okPV d6 okAV du dv dt cU aM if_true Bool.false_eq_true if_false Option.map_some Option.map_none Option.bind_some Option.bind_none dY dV upd List.toList_toArray cR steal bz mvB dE cV cT AV.deg CV.deg AV.gv AV.isIter cN cI bU List.length_nil List.length_cons List.filterMap_cons List.filterMap_nil beq_iff_eq List.getElem?_cons_zero List.getElem?_cons_succ Option.getD_some d8 eV Bool.false_and Bool.and_false Bool.and_self K_P fq co cO bw lend back idx dedup AV.ren CV.ren TV.ren AV.ptrs CV.ptrs cX AV.flat CV.flat cz cg bc c9 dk eo cj aY cm bt bH cf br eF CV.pv? content bA ownT bd reps pvs chunks cd leave eB cK dr bT bv TV.deg TV.av LK CV.plain CV.noBld c5 eA bound List.map_cons List.map_nil List.all_cons List.all_nil List.any_cons List.any_nil List.contains_cons List.contains_nil List.elem_cons List.elem_nil List.cons_append List.nil_append List.append_nil List.flatMap_cons List.flatMap_nil List.zip_cons_cons List.zip_nil_left List.zip_nil_right List.take_succ_cons List.take_zero List.take_nil List.drop_succ_cons List.drop_zero List.drop_nil List.isEmpty_nil List.isEmpty_cons Bool.and_true Bool.true_and Bool.or_true Bool.true_or Bool.or_false Bool.false_or Bool.not_true Bool.not_false Nat.add_zero Nat.zero_add Option.isNone_none Option.isNone_some Option.getD_none true_and and_true not_true_eq_false not_false_eq_true decide_true decide_false Nat.le_refl and_self Bool.not_eq_true Nat.sub_self or_true true_or Option.some.injEq List.length_map List.nil_eq and_false false_and AV.live CV.live CV.liveIn dU bg Option.orElse_some Option.orElse_none head bm bh Int.lt_irrefl List.length_append ite_self dZ cA dc bC Key.clash Key.sees Key.writes Nat.lt_irrefl gt_iff_lt cH dH false_or or_false beq_self_eq_true Bool.true_beq Bool.false_beq vS wC wD
theorem L2 {l:List Val} {m:Nat} (h1:1≤m) (hm:m<1000000000) (h:Ne.allT (fun t=>t.text.length≤m) l):TSh l:=fun t ht =>
 Nat.lt_of_le_of_lt (Ne.flat_all (p:=fun t=>t.text.length≤m) (fun c=>by simpa using h1) l h t ht) hm
set_option maxHeartbeats 4000000 in
theorem wK (v:List Val) (s:List UInt8) (l:List Cpx) (hll:l.length≤reachBytes) (hok:∀ c∈l,c.Ok):den K 4 [L (encL v),T s,L (encC l)] []=some (.ret (B true) []):=by
 have hr:Tryz.f4.results=#[.tmp 6]:=rfl
 have hf:=km
 have hs:=A8 v 200 (by omega) (by omega)
 have h4:=ER l hll hok 200 ⟨by omega,by omega⟩
 cases hsm:decide (0≤Ne.few 100 200 v)
 ·rw[hsm] at hs;refine ah rfl rfl Tryz.func4 rfl Tryz.ntmps4 ⟨by simp,by simp[LK]⟩ ?_
  simp only[go_sem,Nat.reduceLT,reduceCtorEq,Nat.reduceEqDiff,Nat.reduceBEq,Nat.reduceAdd,hr,hf,hs]
 rw[hsm] at hs;cases ht:decide ((1000:Int)<(s.length:Int))
 case true =>
  refine ah rfl rfl Tryz.func4 rfl Tryz.ntmps4 ⟨by simp,by simp[LK]⟩ ?_
  simp only[go_sem,Nat.reduceLT,reduceCtorEq,Nat.reduceEqDiff,Nat.reduceBEq,Nat.reduceAdd,aA al,hr,hf,hs,ht]
 cases hsl:sL l 200
 ·rw[hsl] at h4;refine ah rfl rfl Tryz.func4 rfl Tryz.ntmps4 ⟨by simp,by simp[LK]⟩ ?_
  simp only[go_sem,Nat.reduceLT,reduceCtorEq,Nat.reduceEqDiff,Nat.reduceBEq,Nat.reduceAdd,aA al,hr,hf,hs,ht,h4]
 rw[hsl] at h4;obtain⟨hsz,hlt⟩:=EB (of_decide_eq_true hsm);have hts:=L2 (m:=100) (by omega) (by omega) hlt
 have hsle:s.length≤1000:=by have:=of_decide_eq_false ht;omega
 have hvl:=Ne.bM v
 obtain⟨k1,k2⟩:=Fu hok hsl;have p1:=sI v (by omega) hts
 have p2:=tU v (by omega) hts
 have r1:=zY s (by omega)
 have r2:=Fq s (by omega)
 have n1:=xp v (by omega) hts
 have n2:=zC v (by omega)
 have hk:∀ c∈l,c.parts.length≤100000000∧∀ p∈c.parts,p.l.length≤100000000∧∀ x∈p.l,Sl.Sb 100000000 x:=fun c hc=>⟨by have:=(k2 c hc).parts;omega,fun p hp=>⟨by have:=((k2 c hc).all p hp).1;omega,((k2 c hc).all p hp).2⟩⟩
 have m1:=Hn l (by omega) hk
 have m2:=GA l (by omega) hk
 have sn:=Eo
 have sr:∀ cs,Sl.read s=some cs→den K 22 [L (encC cs),L (encC cs)] []=some (.ret (B true) []):=fun cs h=>by
  unfold Sl.read at h;rw[Option.bind_eq_some_iff] at h;obtain⟨u,_,hu⟩:=h;exact qG hu
 have sp:∀ cs,Sl.parse v=some cs→den K 22 [L (encC cs),L (encC cs)] []=some (.ret (B true) []):=fun cs h=>qG h
 have hn:∃ i j k:Int,nthA (Sl.nthM v)=.tup [.c (.pv (.int .i64 i)),.c (.pv (.int .i64 j)),.c (.pv (.int .i64 k))]:=by
  cases Sl.nthM v with
  | none=>exact⟨_,_,_,rfl⟩
  | some x=>exact⟨_,_,_,rfl⟩
 obtain⟨i,j,k,hn⟩:=hn;rw[hn] at n1 n2
 cases hp:Sl.parse v with
 | none =>
  rw[hp] at p1 p2
  cases hrd:Sl.read s with
  | none =>
   rw[hrd] at r1 r2
   exact MM _ _ _ [] [] _ _ _ _ _ _ hs ht h4 p1 p2 r1 r2 n1 n2 m1 m2 sn sn
  | some cs =>
   rw[hrd] at r1 r2
   exact Mw _ _ _ [] _ _ _ _ _ _ _ hs ht h4 p1 p2 r1 r2 n1 n2 m1 m2 sn (sr _ hrd)
 | some ds =>
  rw[hp] at p1 p2
  cases hrd:Sl.read s with
  | none =>
   rw[hrd] at r1 r2
   exact MQ _ _ _ _ [] _ _ _ _ _ _ hs ht h4 p1 p2 r1 r2 n1 n2 m1 m2 (sp _ hp) sn
  | some cs =>
   rw[hrd] at r1 r2
   exact My _ _ _ _ _ _ _ _ _ _ _ hs ht h4 p1 p2 r1 r2 n1 n2 m1 m2 (sp _ hp) (sr _ hrd)
end Go.Abs
namespace Go.Abs
open Go Go.Proofs
set_option maxRecDepth 100000
theorem uo (pss:List (List PV)) (h:All2 (fun t p=>∃ n,TyP Tryz.prog n t p) Tryz.f4.params.toList pss) :
  den K 4 (List.zipWith (lg Tryz.prog) Tryz.f4.params.toList pss) []=some (.ret (.c (.pv (.bool true))) []):=by
 have hp:Tryz.f4.params.toList=[23,9,31]:=rfl
 rw[hp] at h ⊢;refine args3 h fun n m k p q r h1 h2 h3 e => ?_
 subst e;obtain⟨v,rfl,_⟩:=J3 h1;obtain⟨s,rfl,_⟩:=oM al h2;obtain⟨l,rfl,hll,hl⟩:=Kz h3;simp only[List.zipWith_cons_cons,List.zipWith_nil_left,Ap,B5,Ds];exact wK v s l hll hl
end Go.Abs
