/-
  WHAT THE FUNCTIONS COMPUTE, layer 1: the tokens of a text.
  WHAT THE FUNCTIONS COMPUTE, layer 1: whether a token may be; whether something has to stand between two; the text of tokens.
  WHAT THE FUNCTIONS COMPUTE, layer 1: the text of tokens.
-/
import Derived.Test.YtlomcifkckgneaaGreatDoorRn4
import Derived.Test.YtlomcifkckgneaaGreatDoorRn6
import Derived.Test.YtlomcifkckgneaaGreatDoorRn15
set_option linter.unusedSimpArgs false
set_option linter.unusedVariables false
namespace Go.Abs
open Go Go.Proofs
set_option maxRecDepth 10000
attribute [local go_sem] cX bA ce bJ bL cU ci cg aN bD bt bR cz bE opd avOf cvOf St.degAt St.put okPV dQ okAV dc dh dp cG aD if_true Bool.false_eq_true if_false Option.map_some Option.map_none Option.bind_some Option.bind_none dL dG upd List.toList_toArray bX steal bd mvB dx cE co AV.deg CV.deg AV.gv AV.isIter cv cj bK List.length_nil List.length_cons List.filterMap_cons List.filterMap_nil beq_iff_eq List.getElem?_cons_zero List.getElem?_cons_succ Option.getD_some d8 eS Bool.false_and Bool.and_false Bool.and_self K_P fO bO cd bc lend back idx dedup AV.ren CV.ren TV.ren AV.ptrs CV.ptrs cD AV.flat CV.flat bU bH aR cA cQ dV bM aK bS bh bw bI bg ep CV.pv? content bo ownT aV reps pvs chunks bC leave ee cm c9 bF a8 TV.deg TV.av LK CV.plain CV.noBld cK ei bound List.map_cons List.map_nil List.all_cons List.all_nil List.any_cons List.any_nil List.contains_cons List.contains_nil List.elem_cons List.elem_nil List.cons_append List.nil_append List.append_nil List.flatMap_cons List.flatMap_nil List.zip_cons_cons List.zip_nil_left List.zip_nil_right List.take_succ_cons List.take_zero List.take_nil List.drop_succ_cons List.drop_zero List.drop_nil List.isEmpty_nil List.isEmpty_cons Bool.and_true Bool.true_and Bool.or_true Bool.true_or Bool.or_false Bool.false_or Bool.not_true Bool.not_false Nat.add_zero Nat.zero_add Option.isNone_none Option.isNone_some Option.getD_none true_and and_true not_true_eq_false not_false_eq_true decide_true decide_false Nat.le_refl and_self Bool.not_eq_true Nat.sub_self or_true true_or Option.some.injEq List.length_map List.nil_eq and_false false_and AV.live CV.live CV.liveIn dW aO Option.orElse_some Option.orElse_none head a7 aY Int.lt_irrefl List.length_append ite_self dR bQ cF br Key.clash Key.sees Key.writes Nat.lt_irrefl gt_iff_lt cf dD false_or or_false beq_self_eq_true Bool.true_beq Bool.false_beq fe jf gX AQ El jo dI c6
theorem Dl {x:TS} {et:Nat} {ct:List (List PV)} (hx:x.cell = .own et ct) (o:Option Tok) : ∃ et' ct',(e9 x o).cell = .own et' ct'∧(e9 x o).toks=x.toks++o.toList:=by
 cases o with
 | none=>exact ⟨et,ct,hx,by simp[e9]⟩
 | some t=>exact ⟨_,_,rfl,rfl⟩
theorem DJ {x:TS} {et:Nat} {ct:List (List PV)} (hx:x.cell = .own et ct):ct=x.toks.map Tok.enc:=by
 cases x with
 | nils=>cases hx
 | live=>cases hx;rfl
 | wr l=>cases hx;rfl
abbrev allH (s:List UInt8) (et:Nat) (ct:List (List PV)):St := { sl:=upd bot 3 (.c (.loc 6 0)),bx:=upd nobox 6 (some [.pv (.str s),.own et ct]),nt:=19 }
theorem CX : ∀ (s:List UInt8),s.length<4000000000 → ∀ (x:TS) (et:Nat) (ct:List (List PV)),x.cell = .own et ct→x.toks.length+s.length<4000000000 →
  Ends (exL K 99 (.loop (ap Tryz.f99 2)) (allH s et ct)) fun o S=>o = .exit 0∧S.nt=19∧S.sl 3 = .c (.loc 6 0) ∧ ∃ et',S.bx 6=some [.pv (.str []),.own et' ((x.toks++Tk.all s).map Tok.enc)]:=by
 refine Tk.nI (Q:=fun s=>s.length<4000000000 → ∀ (x:TS) (et:Nat) (ct:List (List PV)),x.cell = .own et ct→x.toks.length+s.length<4000000000 →
  Ends (exL K 99 (.loop (ap Tryz.f99 2)) (allH s et ct)) fun o S=>o = .exit 0∧S.nt=19∧S.sl 3 = .c (.loc 6 0) ∧ ∃ et',S.bx 6=some [.pv (.str []),.own et' ((x.toks++Tk.all s).map Tok.enc)]) ?_ ?_
 ·intro _ x et ct hx _
  have hct:=DJ hx
  have hlt:decide ((0:Int)<((0:Nat):Int))=false:=by decide
  rw[Tk.all_nil,List.append_nil,←hct]
  conv in ap _ _=>whnf
  rw[aw]
  simp only[go_sem,Nat.reduceLT,Nat.reduceEqDiff,Nat.reduceBEq,Nat.reduceAdd,aq ao,aB,hlt]
  exact ⟨_,rfl⟩
 ·intro c r ih hs x et ct hx hl
  have hp:=Tk.jK c r
  have hle:=Tk.uP c r
  have hn:=C6 (c::r) c r x et ct hx rfl hs (by omega)
  obtain ⟨et2,ct2,h2,h3⟩:=Dl hx (Tk.step c r).1
  have ho:((Tk.step c r).1.toList).length≤1:=by cases (Tk.step c r).1<;>simp
  have ih':=ih (by rw[List.length_drop];omega) (e9 x (Tk.step c r).1) et2 ct2 h2 (by rw[h3,List.length_append,List.length_drop];omega)
  rw[h3,List.append_assoc,←Tk.all_cons] at ih'
  have hlt:decide ((0:Int)<((c::r).length:Int))=true:=decide_eq_true (by simp only[List.length_cons];omega)
  simp only[scan,h2] at hn
  generalize c::r=s at hn ih' hlt
  conv at ih' in ap _ _=>whnf
  conv in ap _ _=>whnf
  rw[aw]
  simp only[go_sem,Nat.reduceLT,Nat.reduceEqDiff,Nat.reduceBEq,Nat.reduceAdd,aq ao,hlt,hn]
  rw[az]
  simp only[go_sem,Nat.reduceEqDiff]
  exact ih'
theorem Gl (s:List UInt8) (hs:s.length<4000000000):den K 99 [T s] []=some (.ret (L ((Tk.all s).map Tok.enc)) []):=by
 refine ab rfl rfl Tryz.func99 rfl Tryz.ntmps99 ⟨by simp,by simp[LK]⟩ ?_
 have hr:Tryz.f99.results = #[.tmp 2]:=rfl
 have hl:=CX s hs .live 0 [] rfl (by simp[TS.toks];omega)
 conv at hl in ap _ _=>whnf
 obtain ⟨o,S',e2,rfl,hn,h3,et',hb⟩:=hl
 simp only[TS.toks,List.nil_append] at hb
 simp only[go_sem,Nat.reduceLT,reduceCtorEq,Nat.reduceEqDiff,Nat.reduceBEq,Nat.reduceAdd,Nat.reduceSub,Nat.reduceLeDiff,ak n7 pp]
 rw[az]
 simp only[go_sem,Nat.reduceEqDiff,Nat.reduceSub,Nat.reduceLeDiff]
 erw [e2]
 simp only[go_sem,Nat.reduceLT,Nat.reduceEqDiff,Nat.reduceBEq,Nat.reduceAdd,hr,hn,h3,hb]
theorem nJ (t:Tok) (hn:I64 t.n):(oneS t).length≤t.text.length+21:=by
 have h:=qB hn
 unfold oneS
 repeat' split
 all_goals simp
 all_goals omega
end Go.Abs
set_option linter.unusedSimpArgs true
namespace Go.Abs
open Go Go.Proofs
set_option maxRecDepth 10000
attribute [local go_sem] cX bA ce bJ bL cU ci cg aN bD bt bR cz bE opd avOf cvOf St.degAt St.put okPV dQ okAV dc dh dp cG aD if_true Bool.false_eq_true if_false Option.map_some Option.map_none Option.bind_some Option.bind_none dL dG upd List.toList_toArray bX steal bd mvB dx cE co AV.deg CV.deg AV.gv AV.isIter cv cj bK List.length_nil List.length_cons List.filterMap_cons List.filterMap_nil beq_iff_eq List.getElem?_cons_zero List.getElem?_cons_succ Option.getD_some d8 eS Bool.false_and Bool.and_false Bool.and_self K_P fO bO cd bc lend back idx dedup AV.ren CV.ren TV.ren AV.ptrs CV.ptrs cD AV.flat CV.flat bU bH aR cA cQ dV bM aK bS bh bw bI bg ep CV.pv? content bo ownT aV reps pvs chunks bC leave ee cm c9 bF a8 TV.deg TV.av LK CV.plain CV.noBld cK ei bound List.map_cons List.map_nil List.all_cons List.all_nil List.any_cons List.any_nil List.contains_cons List.contains_nil List.elem_cons List.elem_nil List.cons_append List.nil_append List.append_nil List.flatMap_cons List.flatMap_nil List.zip_cons_cons List.zip_nil_left List.zip_nil_right List.take_succ_cons List.take_zero List.take_nil List.drop_succ_cons List.drop_zero List.drop_nil List.isEmpty_nil List.isEmpty_cons Bool.and_true Bool.true_and Bool.or_true Bool.true_or Bool.or_false Bool.false_or Bool.not_true Bool.not_false Nat.add_zero Nat.zero_add Option.isNone_none Option.isNone_some Option.getD_none true_and and_true not_true_eq_false not_false_eq_true decide_true decide_false Nat.le_refl and_self Bool.not_eq_true Nat.sub_self or_true true_or Option.some.injEq List.length_map List.nil_eq and_false false_and AV.live CV.live CV.liveIn dW aO Option.orElse_some Option.orElse_none head a7 aY Int.lt_irrefl List.length_append ite_self dR bQ cF br Key.clash Key.sees Key.writes Nat.lt_irrefl gt_iff_lt cf dD false_or or_false beq_self_eq_true Bool.true_beq Bool.false_beq
def OkT (t:Tok):Prop:=I64 t.n∧t.text.length<1000000000
def jj:Option Tok→List Tok→List UInt8
 | none,l=>Tk.text l
 | some a,l=>Tk.rest a l
def apO (p:Option Tok) (x:Tok):Bool:=match p with|none=>false|some a=>Tk.apart a x
theorem Bq (p:Option Tok):jj p []=[]:=by cases p<;>rfl
theorem xM (p:Option Tok) (x:Tok) (l:List Tok):jj p (x::l)=(if apO p x then [47,42,42,47] else [])++(oneS x++jj (some x) l):=by
 cases p<;>rfl
end Go.Abs
