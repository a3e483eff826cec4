/-
  WHAT THE FUNCTIONS COMPUTE, layer 1: the tokens of a text.
  (And 1 texts more.)
-/
import Derived.Test.YtlomcifkckgneaaGreatDoorRt18
open Nat (reduceEqDiff reduceAdd reduceLT reduceLeDiff reduceSub reduceMul)
set_option linter.unusedSimpArgs false
set_option linter.unusedVariables false
namespace Go.Abs
open Go Go.Proofs
set_option maxRecDepth 10000
attribute [local go_sem] c7 bF cD bW bZ db cJ cE a7 ck ce cF c8 bS opd avOf cvOf St.degAt St.put okPV d6 okAV du dv dt cU aM if_true Bool.false_eq_true if_false Option.map_some Option.map_none Option.bind_some Option.bind_none dY dV upd List.toList_toArray cR steal bz mvB dE cV cT AV.deg CV.deg AV.gv AV.isIter cN cI bU List.length_nil List.length_cons List.filterMap_cons List.filterMap_nil beq_iff_eq List.getElem?_cons_zero List.getElem?_cons_succ Option.getD_some d8 eV Bool.false_and Bool.and_false Bool.and_self K_P fq co cO bw lend back idx dedup AV.ren CV.ren TV.ren AV.ptrs CV.ptrs cX AV.flat CV.flat cz cg bc c9 dk eo cj aY cm bt bH cf br eF CV.pv? content bA ownT bd reps pvs chunks cd leave eB cK dr bT bv TV.deg TV.av LK CV.plain CV.noBld c5 eA bound List.map_cons List.map_nil List.all_cons List.all_nil List.any_cons List.any_nil List.contains_cons List.contains_nil List.elem_cons List.elem_nil List.cons_append List.nil_append List.append_nil List.flatMap_cons List.flatMap_nil List.zip_cons_cons List.zip_nil_left List.zip_nil_right List.take_succ_cons List.take_zero List.take_nil List.drop_succ_cons List.drop_zero List.drop_nil List.isEmpty_nil List.isEmpty_cons Bool.and_true Bool.true_and Bool.or_true Bool.true_or Bool.or_false Bool.false_or Bool.not_true Bool.not_false Nat.add_zero Nat.zero_add Option.isNone_none Option.isNone_some Option.getD_none true_and and_true not_true_eq_false not_false_eq_true decide_true decide_false Nat.le_refl and_self Bool.not_eq_true Nat.sub_self or_true true_or Option.some.injEq List.length_map List.nil_eq and_false false_and AV.live CV.live CV.liveIn dU bg Option.orElse_some Option.orElse_none head bm bh Int.lt_irrefl List.length_append ite_self dZ cA dc bC Key.clash Key.sees Key.writes Nat.lt_irrefl gt_iff_lt cH dH false_or or_false beq_self_eq_true Bool.true_beq Bool.false_beq fy jj ib DR Hm kL eZ dX
theorem HC {x:TS} {et:Nat} {ct:List (List PV)} (hx:x.cell=.own et ct) (o:Option Tok):∃ et' ct',(gk x o).cell=.own et' ct'∧(gk x o).toks=x.toks++o.toList:=by
 cases o with
 | none=>exact⟨et,ct,hx,by simp[gk]⟩
 | some t=>exact⟨_,_,rfl,rfl⟩
theorem IQ {x:TS} {et:Nat} {ct:List (List PV)} (hx:x.cell=.own et ct):ct=x.toks.map Tok.enc:=by
 cases x with
 | nils=>cases hx
 | live=>cases hx;rfl
 | wr l=>cases hx;rfl
abbrev allH (s:List UInt8) (et:Nat) (ct:List (List PV)):St := { sl:=upd bot 3 (.c (.loc 6 0)),bx:=upd nobox 6 (some [.pv (.str s),.own et ct]),nt:=19 }
theorem IV:∀ (s:List UInt8),s.length<4000000000→∀ (x:TS) (et:Nat) (ct:List (List PV)),x.cell=.own et ct→x.toks.length+s.length<4000000000 →
  Ends (exL K 99 (.loop (ap Tryz.f99 2)) (allH s et ct)) fun o S=>o=.exit 0∧S.nt=19∧S.sl 3=.c (.loc 6 0)∧∃ et',S.bx 6=some [.pv (.str []),.own et' ((x.toks++Tk.all s).map Tok.enc)]:=by
 refine Tk.rm (Q:=fun s=>s.length<4000000000→∀ (x:TS) (et:Nat) (ct:List (List PV)),x.cell=.own et ct→x.toks.length+s.length<4000000000 →
  Ends (exL K 99 (.loop (ap Tryz.f99 2)) (allH s et ct)) fun o S=>o=.exit 0∧S.nt=19∧S.sl 3=.c (.loc 6 0)∧∃ et',S.bx 6=some [.pv (.str []),.own et' ((x.toks++Tk.all s).map Tok.enc)]) ?_ ?_
 ·intro _ x et ct hx _;have hct:=IQ hx
  have hlt:decide ((0:Int)<((0:Nat):Int))=false:=by decide
  rw[Tk.all_nil,List.append_nil,←hct]
  conv in ap _ _=>whnf
  rw[aq];simp only[go_sem,reduceLT,reduceEqDiff,Nat.reduceBEq,reduceAdd,aA aD,ar,hlt];exact⟨_,rfl⟩
 ·intro c r ih hs x et ct hx hl;have hp:=Tk.kW c r
  have hle:=Tk.wP c r
  have hn:=HT (c::r) c r x et ct hx rfl hs (by omega)
  obtain⟨et2,ct2,h2,h3⟩:=HC hx (Tk.step c r).1;have ho:((Tk.step c r).1.toList).length≤1:=by cases (Tk.step c r).1<;>simp
  have ih':=ih (by rw[List.length_drop];omega) (gk x (Tk.step c r).1) et2 ct2 h2 (by rw[h3,List.length_append,List.length_drop];omega)
  rw[h3,List.append_assoc,←Tk.all_cons] at ih';have hlt:decide ((0:Int)<((c::r).length:Int))=true:=decide_eq_true (by simp only[List.length_cons];omega)
  simp only[scan,h2] at hn;generalize c::r=s at hn ih' hlt
  conv at ih' in ap _ _=>whnf
  conv in ap _ _=>whnf
  rw[aq];simp only[go_sem,reduceLT,reduceEqDiff,Nat.reduceBEq,reduceAdd,aA aD,hlt,hn];rw[au];simp only[go_sem,reduceEqDiff];exact ih'
theorem CS (s:List UInt8) (hs:s.length<4000000000):den K 99 [T s] []=some (.ret (L ((Tk.all s).map Tok.enc)) []):=by
 refine ah rfl rfl Tryz.func99 rfl Tryz.ntmps99 ⟨by simp,by simp[LK]⟩ ?_
 have hr:Tryz.f99.results=#[.tmp 2]:=rfl
 have hl:=IV s hs .live 0 [] rfl (by simp[TS.toks];omega)
 conv at hl in ap _ _=>whnf
 obtain⟨o,S',e2,rfl,hn,h3,et',hb⟩:=hl;simp only[TS.toks,List.nil_append] at hb;simp only[go_sem,reduceLT,reduceCtorEq,reduceEqDiff,Nat.reduceBEq,reduceAdd,reduceSub,reduceLeDiff,ab pI qW];rw[au];simp only[go_sem,reduceEqDiff,reduceSub,reduceLeDiff];erw [e2];simp only[go_sem,reduceLT,reduceEqDiff,Nat.reduceBEq,reduceAdd,hr,hn,h3,hb]
attribute [local go_sem] B4 aZ bo ai CX Gx HU
abbrev LG (a b:List Tok) (i:Nat):St := { sl:=upd (upd (upd (upd bot 17 (I i)) 16 (I b.length)) 15 (L (b.map Tok.enc))) 5 (L (a.map Tok.enc)),bx:=nobox,nt:=29 }
theorem BE (a b:List Tok) (hab:a.length=b.length) (ha:xM a.length):∀ (ra rb:List Tok) (i:Nat),a.drop i=ra→b.drop i=rb→i≤a.length →
  Ends (exL K 231 (.loop (ap Tryz.f231 5)) (LG a b i)) fun o S=>(ra=rb∧o=.exit 0∧S.nt=29)∨(ra≠rb∧o=.ret∧S.sl 4=B false):=by
 intro ra
 induction ra with
 | nil =>
  intro rb i hda hdb hi;have hin:i=b.length:=by
   have:=List.drop_eq_nil_iff.1 hda
   omega
  obtain rfl:rb=[]:=by rw[←hdb,hin,List.drop_length]
  subst hin
  conv in ap _ _=>whnf
  rw[aq];simp only[go_sem,reduceLT,reduceCtorEq,reduceEqDiff,Nat.reduceBEq,ar]
 | cons x ra ih =>
  intro rb i hda hdb hi;obtain⟨g1,g2,g3⟩:=bE hda;cases rb with
  | nil =>
   have:=List.drop_eq_nil_iff.1 hdb
   omega
  | cons y rb =>
   obtain⟨k1,k2,k3⟩:=bE hdb;have hlt:decide ((i:Int)<(b.length:Int))=true:=decide_eq_true (by omega)
   have ga:=G5 a i x g1
   have gb:=G5 b i y k1
   have hi2:i<9223372036854775807:=by unfold xM at ha;omega
   have heq:=mH x.kind y.kind x.n y.n x.text y.text
   rw[nA] at heq;have ih':=ih rb (i+1) g2 k2 (by omega)
   conv at ih' in ap _ _=>whnf
   conv in ap _ _=>whnf
   rw[aq];by_cases hxy:x=y
   ·rw[decide_eq_true hxy] at heq;have hv:(x::ra=y::rb)=(ra=rb):=by simp[hxy]
    have hv2:(x::ra≠y::rb)=(ra≠rb):=by simp[hxy]
    rw[hv,hv2];simp only[go_sem,reduceLT,reduceEqDiff,Nat.reduceBEq,reduceAdd,ag aE,hlt,ga,gb,heq,Int.natCast_nonneg,bf i hi2];rw[au];simp only[go_sem,reduceEqDiff];exact ih'
   ·rw[decide_eq_false hxy] at heq;have hv:(x::ra=y::rb)=False:=by simp[hxy]
    have hv2:(x::ra≠y::rb)=True:=by simp[hxy]
    rw[hv,hv2];simp only[go_sem,reduceLT,reduceEqDiff,Nat.reduceBEq,reduceAdd,ag aE,hlt,ga,gb,heq,Int.natCast_nonneg,ar]
theorem EA (s:List UInt8) (b:List Tok) (hs:s.length<4000000000) (hb:xM b.length):den K 231 [T s,L (b.map Tok.enc)] []=some (.ret (B (decide (Tk.all s=b))) []):=by
 have hall:=CS s hs
 have hlen:(Tk.all s).length≤s.length:=Tk.m8 s
 generalize Tk.all s=a at hall hlen;refine ah rfl rfl Tryz.func231 rfl Tryz.ntmps231 ⟨by simp,by simp[LK]⟩ ?_
 have hr:Tryz.f231.results=#[.tmp 4]:=rfl
 by_cases hab:a.length=b.length
 ·have e:((a.length:Int) != (b.length:Int))=false:=by rw[hab];simp
  have hl:=BE a b hab (by unfold xM;omega) a b 0 rfl rfl (by omega)
  conv at hl in ap _ _=>whnf
  obtain⟨o,S',e2,h⟩:=hl;simp only[go_sem,reduceLT,reduceCtorEq,reduceEqDiff,Nat.reduceBEq,reduceAdd,af aE,hall,e];rw[au];simp only[go_sem,reduceEqDiff];erw [e2];rcases h with⟨h1,rfl,h2⟩|⟨h1,rfl,h2⟩
  ·rw[decide_eq_true h1];simp only[go_sem,reduceLT,Nat.reduceBEq,hr,h2]
  ·rw[decide_eq_false h1];simp only[go_sem,hr,h2]
 ·have e:((a.length:Int) != (b.length:Int))=true:=by rw[bne_iff_ne];omega
  have hne:a≠b:=fun h=>hab (by rw[h])
  rw[decide_eq_false hne];simp only[go_sem,reduceLT,reduceCtorEq,reduceEqDiff,Nat.reduceBEq,reduceAdd,af aE,hr,hall,e]
theorem Ca (t:Tok) (hn:I64 t.n):(oneS t).length≤t.text.length+21:=by
 have h:=oL hn
 unfold oneS
 repeat' split
 all_goals simp
 all_goals omega
theorem JM (t:Tok) (hn:I64 t.n) (hl:t.text.length<1000000000):den K 213 [.agg t.cells] []=some (.ret (B (Tk.may t)) []):=by
 have h1:=JA t hn (by omega)
 have h2:=EA (oneS t) [t] (by have:=Ca t hn;omega) (by simp[xM])
 unfold Tk.may;simp only[List.map_cons,List.map_nil,Tok.enc,Tok.cells] at h1 h2;simp only[Tok.cells];refine ah rfl rfl Tryz.func213 rfl Tryz.ntmps213 ⟨by simp,by simp[LK]⟩ ?_
 have hr:Tryz.f213.results=#[.tmp 2]:=rfl
 simp only[go_sem,reduceLT,reduceEqDiff,Nat.reduceBEq,reduceAdd,reduceSub,reduceLeDiff,reduceMul,ao (len:=1) aE aZ ai ⟨rfl,by decide,by decide⟩,hr,h1,h2]
end Go.Abs
