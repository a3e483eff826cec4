/-
  WHAT THE FUNCTIONS COMPUTE, layer 1: the tokens of a text.
  WHAT THE FUNCTIONS COMPUTE, layer 1: whether a token may be; whether something has to stand between two; the text of tokens.
-/
import Derived.Test.YtlomcifkckgneaaGreatDoorRc4
import Derived.Test.YtlomcifkckgneaaGreatDoorRc6
import Derived.Test.YtlomcifkckgneaaGreatDoorRc15
set_option linter.unusedSimpArgs false
set_option linter.unusedVariables false
namespace Go.Abs
open Go Go.Proofs
set_option maxRecDepth 10000
attribute [local go_sem] cM bt ck bJ bH cL cq co aR bU bO ci cN bF opd avOf cvOf St.degAt St.put okPV dA okAV cZ cY cX cG aH if_true Bool.false_eq_true if_false Option.map_some Option.map_none Option.bind_some Option.bind_none dC dr upd List.toList_toArray cA steal bm mvB c8 cF cE AV.deg CV.deg AV.gv AV.isIter cy cj bK List.length_nil List.length_cons List.filterMap_cons List.filterMap_nil beq_iff_eq List.getElem?_cons_zero List.getElem?_cons_succ Option.getD_some dE ev Bool.false_and Bool.and_false Bool.and_self K_P eN bZ cz bh lend back idx dedup AV.ren CV.ren TV.ren AV.ptrs CV.ptrs cH AV.flat CV.flat cf bQ aV cK cQ dM bW aM bX bc bv bR bd d8 CV.pv? content bo ownT aW reps pvs chunks bM leave dU cw cV bG bg TV.deg TV.av LK CV.plain CV.noBld cJ dX bound List.map_cons List.map_nil List.all_cons List.all_nil List.any_cons List.any_nil List.contains_cons List.contains_nil List.elem_cons List.elem_nil List.cons_append List.nil_append List.append_nil List.flatMap_cons List.flatMap_nil List.zip_cons_cons List.zip_nil_left List.zip_nil_right List.take_succ_cons List.take_zero List.take_nil List.drop_succ_cons List.drop_zero List.drop_nil List.isEmpty_nil List.isEmpty_cons Bool.and_true Bool.true_and Bool.or_true Bool.true_or Bool.or_false Bool.false_or Bool.not_true Bool.not_false Nat.add_zero Nat.zero_add Option.isNone_none Option.isNone_some Option.getD_none true_and and_true not_true_eq_false not_false_eq_true decide_true decide_false Nat.le_refl and_self Bool.not_eq_true Nat.sub_self or_true true_or Option.some.injEq List.length_map List.nil_eq and_false false_and AV.live CV.live CV.liveIn dq aX Option.orElse_some Option.orElse_none head a7 a6 Int.lt_irrefl List.length_append ite_self dz ce cO bu Key.clash Key.sees Key.writes Nat.lt_irrefl gt_iff_lt cg dc false_or or_false beq_self_eq_true Bool.true_beq Bool.false_beq fL jU iz DD FJ jG eA dx
theorem G4 {x:TS} {et:Nat} {ct:List (List PV)} (hx:x.cell = .own et ct) (o:Option Tok) : ∃ et' ct',(fH x o).cell = .own et' ct'∧(fH x o).toks=x.toks++o.toList:=by
 cases o with
 | none=>exact ⟨et,ct,hx,by simp[fH]⟩
 | some t=>exact ⟨_,_,rfl,rfl⟩
theorem Fk {x:TS} {et:Nat} {ct:List (List PV)} (hx:x.cell = .own et ct):ct=x.toks.map Tok.enc:=by
 cases x with
 | nils=>cases hx
 | live=>cases hx;rfl
 | wr l=>cases hx;rfl
abbrev allH (s:List UInt8) (et:Nat) (ct:List (List PV)):St := { sl:=upd bot 3 (.c (.loc 6 0)),bx:=upd nobox 6 (some [.pv (.str s),.own et ct]),nt:=19 }
theorem D6 : ∀ (s:List UInt8),s.length<4000000000 → ∀ (x:TS) (et:Nat) (ct:List (List PV)),x.cell = .own et ct→x.toks.length+s.length<4000000000 →
  Ends (exL K 99 (.loop (ao Tryz.f99 2)) (allH s et ct)) fun o S=>o = .exit 0∧S.nt=19∧S.sl 3 = .c (.loc 6 0) ∧ ∃ et',S.bx 6=some [.pv (.str []),.own et' ((x.toks++Tk.all s).map Tok.enc)]:=by
 refine Tk.nY (Q:=fun s=>s.length<4000000000 → ∀ (x:TS) (et:Nat) (ct:List (List PV)),x.cell = .own et ct→x.toks.length+s.length<4000000000 →
  Ends (exL K 99 (.loop (ao Tryz.f99 2)) (allH s et ct)) fun o S=>o = .exit 0∧S.nt=19∧S.sl 3 = .c (.loc 6 0) ∧ ∃ et',S.bx 6=some [.pv (.str []),.own et' ((x.toks++Tk.all s).map Tok.enc)]) ?_ ?_
 ·intro _ x et ct hx _
  have hct:=Fk hx
  have hlt:decide ((0:Int)<((0:Nat):Int))=false:=by decide
  rw[Tk.all_nil,List.append_nil,←hct]
  conv in ao _ _=>whnf
  rw[aw]
  simp only[go_sem,Nat.reduceLT,Nat.reduceEqDiff,Nat.reduceBEq,Nat.reduceAdd,aE ax,ay,hlt]
  exact ⟨_,rfl⟩
 ·intro c r ih hs x et ct hx hl
  have hp:=Tk.kz c r
  have hle:=Tk.v7 c r
  have hn:=Eo (c::r) c r x et ct hx rfl hs (by omega)
  obtain ⟨et2,ct2,h2,h3⟩:=G4 hx (Tk.step c r).1
  have ho:((Tk.step c r).1.toList).length≤1:=by cases (Tk.step c r).1<;>simp
  have ih':=ih (by rw[List.length_drop];omega) (fH x (Tk.step c r).1) et2 ct2 h2 (by rw[h3,List.length_append,List.length_drop];omega)
  rw[h3,List.append_assoc,←Tk.all_cons] at ih'
  have hlt:decide ((0:Int)<((c::r).length:Int))=true:=decide_eq_true (by simp only[List.length_cons];omega)
  simp only[scan,h2] at hn
  generalize c::r=s at hn ih' hlt
  conv at ih' in ao _ _=>whnf
  conv in ao _ _=>whnf
  rw[aw]
  simp only[go_sem,Nat.reduceLT,Nat.reduceEqDiff,Nat.reduceBEq,Nat.reduceAdd,aE ax,hlt,hn]
  rw[aB]
  simp only[go_sem,Nat.reduceEqDiff]
  exact ih'
theorem IX (s:List UInt8) (hs:s.length<4000000000):den K 99 [T s] []=some (.ret (L ((Tk.all s).map Tok.enc)) []):=by
 refine ai rfl rfl Tryz.func99 rfl Tryz.ntmps99 ⟨by simp,by simp[LK]⟩ ?_
 have hr:Tryz.f99.results = #[.tmp 2]:=rfl
 have hl:=D6 s hs .live 0 [] rfl (by simp[TS.toks];omega)
 conv at hl in ao _ _=>whnf
 obtain ⟨o,S',e2,rfl,hn,h3,et',hb⟩:=hl
 simp only[TS.toks,List.nil_append] at hb
 simp only[go_sem,Nat.reduceLT,reduceCtorEq,Nat.reduceEqDiff,Nat.reduceBEq,Nat.reduceAdd,Nat.reduceSub,Nat.reduceLeDiff,af o3 qo]
 rw[aB]
 simp only[go_sem,Nat.reduceEqDiff,Nat.reduceSub,Nat.reduceLeDiff]
 erw [e2]
 simp only[go_sem,Nat.reduceLT,Nat.reduceEqDiff,Nat.reduceBEq,Nat.reduceAdd,hr,hn,h3,hb]
attribute [local go_sem] AJ aQ bf ab HO Fm E3
abbrev JY (a b:List Tok) (i:Nat):St := { sl:=upd (upd (upd (upd bot 17 (I i)) 16 (I b.length)) 15 (L (b.map Tok.enc))) 5 (L (a.map Tok.enc)),bx:=nobox,nt:=29 }
theorem zE (a b:List Tok) (hab:a.length=b.length) (ha:yE a.length) : ∀ (ra rb:List Tok) (i:Nat),a.drop i=ra→b.drop i=rb→i≤a.length →
  Ends (exL K 231 (.loop (ao Tryz.f231 5)) (JY a b i)) fun o S=>(ra=rb∧o = .exit 0∧S.nt=29)∨(ra≠rb∧o = .ret∧S.sl 4=B false):=by
 intro ra
 induction ra with
 | nil =>
  intro rb i hda hdb hi
  have hin:i=b.length:=by
   have:=List.drop_eq_nil_iff.1 hda
   omega
  obtain rfl:rb=[]:=by rw[←hdb,hin,List.drop_length]
  subst hin
  conv in ao _ _=>whnf
  rw[aw]
  simp only[go_sem,Nat.reduceLT,reduceCtorEq,Nat.reduceEqDiff,Nat.reduceBEq,ay]
 | cons x ra ih =>
  intro rb i hda hdb hi
  obtain ⟨g1,g2,g3⟩:=bS hda
  cases rb with
  | nil =>
   have:=List.drop_eq_nil_iff.1 hdb
   omega
  | cons y rb =>
   obtain ⟨k1,k2,k3⟩:=bS hdb
   have hlt:decide ((i:Int)<(b.length:Int))=true:=decide_eq_true (by omega)
   have ga:=Fe a i x g1
   have gb:=Fe b i y k1
   have hi2:i<9223372036854775807:=by unfold yE at ha;omega
   have heq:=lR x.kind y.kind x.n y.n x.text y.text
   rw[mL] at heq
   have ih':=ih rb (i+1) g2 k2 (by omega)
   conv at ih' in ao _ _=>whnf
   conv in ao _ _=>whnf
   rw[aw]
   by_cases hxy:x=y
   ·rw[decide_eq_true hxy] at heq
    have hv:(x::ra=y::rb)=(ra=rb):=by simp[hxy]
    have hv2:(x::ra≠y::rb)=(ra≠rb):=by simp[hxy]
    rw[hv,hv2]
    simp only[go_sem,Nat.reduceLT,Nat.reduceEqDiff,Nat.reduceBEq,Nat.reduceAdd,ae aA,hlt,ga,gb,heq,Int.natCast_nonneg,bA i hi2]
    rw[aB]
    simp only[go_sem,Nat.reduceEqDiff]
    exact ih'
   ·rw[decide_eq_false hxy] at heq
    have hv:(x::ra=y::rb)=False:=by simp[hxy]
    have hv2:(x::ra≠y::rb)=True:=by simp[hxy]
    rw[hv,hv2]
    simp only[go_sem,Nat.reduceLT,Nat.reduceEqDiff,Nat.reduceBEq,Nat.reduceAdd,ae aA,hlt,ga,gb,heq,Int.natCast_nonneg,ay]
theorem Dv (s:List UInt8) (b:List Tok) (hs:s.length<4000000000) (hb:yE b.length):den K 231 [T s,L (b.map Tok.enc)] []=some (.ret (B (decide (Tk.all s=b))) []):=by
 have hall:=IX s hs
 have hlen:(Tk.all s).length≤s.length:=Tk.jd s
 generalize Tk.all s=a at hall hlen
 refine ai rfl rfl Tryz.func231 rfl Tryz.ntmps231 ⟨by simp,by simp[LK]⟩ ?_
 have hr:Tryz.f231.results = #[.tmp 4]:=rfl
 by_cases hab:a.length=b.length
 ·have e:((a.length:Int) != (b.length:Int))=false:=by rw[hab];simp
  have hl:=zE a b hab (by unfold yE;omega) a b 0 rfl rfl (by omega)
  conv at hl in ao _ _=>whnf
  obtain ⟨o,S',e2,h⟩:=hl
  simp only[go_sem,Nat.reduceLT,reduceCtorEq,Nat.reduceEqDiff,Nat.reduceBEq,Nat.reduceAdd,ah aA,hall,e]
  rw[aB]
  simp only[go_sem,Nat.reduceEqDiff]
  erw [e2]
  rcases h with ⟨h1,rfl,h2⟩|⟨h1,rfl,h2⟩
  ·rw[decide_eq_true h1]
   simp only[go_sem,Nat.reduceLT,Nat.reduceBEq,hr,h2]
  ·rw[decide_eq_false h1]
   simp only[go_sem,hr,h2]
 ·have e:((a.length:Int) != (b.length:Int))=true:=by rw[bne_iff_ne];omega
  have hne:a≠b:=fun h=>hab (by rw[h])
  rw[decide_eq_false hne]
  simp only[go_sem,Nat.reduceLT,reduceCtorEq,Nat.reduceEqDiff,Nat.reduceBEq,Nat.reduceAdd,ah aA,hr,hall,e]
theorem BH (t:Tok) (hn:I64 t.n):(oneS t).length≤t.text.length+21:=by
 have h:=ov hn
 unfold oneS
 repeat' split
 all_goals simp
 all_goals omega
theorem Iv (t:Tok) (hn:I64 t.n) (hl:t.text.length<1000000000):den K 213 [.agg t.cells] []=some (.ret (B (Tk.may t)) []):=by
 have h1:=Ir t hn (by omega)
 have h2:=Dv (oneS t) [t] (by have:=BH t hn;omega) (by simp[yE])
 unfold Tk.may
 simp only[List.map_cons,List.map_nil,Tok.enc,Tok.cells] at h1 h2
 simp only[Tok.cells]
 refine ai rfl rfl Tryz.func213 rfl Tryz.ntmps213 ⟨by simp,by simp[LK]⟩ ?_
 have hr:Tryz.f213.results = #[.tmp 2]:=rfl
 simp only[go_sem,Nat.reduceLT,Nat.reduceEqDiff,Nat.reduceBEq,Nat.reduceAdd,Nat.reduceSub,Nat.reduceLeDiff,Nat.reduceMul,am (len:=1) aA aQ ab ⟨rfl,by decide,by decide⟩,hr,h1,h2]
end Go.Abs
