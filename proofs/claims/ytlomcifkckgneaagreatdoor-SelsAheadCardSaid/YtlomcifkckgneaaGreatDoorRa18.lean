/-
  SelsAhead, as the interpreter answers it: true, whatever the text and the combinator are.
-/
import Derived.Test.YtlomcifkckgneaaGreatDoorRa6
import Derived.Test.YtlomcifkckgneaaGreatDoorRa16
import Derived.Test.YtlomcifkckgneaaGreatDoorRa17
set_option linter.unusedSimpArgs false
set_option linter.unusedVariables false
namespace Go.Abs
open Go Go.Proofs
set_option maxRecDepth 10000
attribute [local go_sem] cA bm bU bD bB cz bQ bS aG bv bq bL cg br opd avOf cvOf St.degAt St.put okPV db okAV cN cM cO cd aq if_true Bool.false_eq_true if_false Option.map_some Option.map_none Option.bind_some Option.bind_none c9 c5 upd List.toList_toArray bO steal aZ mvB cR cf b7 AV.deg CV.deg AV.gv AV.isIter b9 bT bC List.length_nil List.length_cons List.filterMap_cons List.filterMap_nil beq_iff_eq List.getElem?_cons_zero List.getElem?_cons_succ Option.getD_some du d5 Bool.false_and Bool.and_false Bool.and_self K_P eF bF bV aW lend back idx dedup AV.ren CV.ren TV.ren AV.ptrs CV.ptrs ce AV.flat CV.flat bM bz aJ cj cx dp bE aE bK a7 bh bA a8 dP CV.pv? content bf ownT aL reps pvs chunks bu leave dL bW cJ bt aX TV.deg TV.av LK CV.plain CV.noBld cm dF bound List.map_cons List.map_nil List.all_cons List.all_nil List.any_cons List.any_nil List.contains_cons List.contains_nil List.elem_cons List.elem_nil List.cons_append List.nil_append List.append_nil List.flatMap_cons List.flatMap_nil List.zip_cons_cons List.zip_nil_left List.zip_nil_right List.take_succ_cons List.take_zero List.take_nil List.drop_succ_cons List.drop_zero List.drop_nil List.isEmpty_nil List.isEmpty_cons Bool.and_true Bool.true_and Bool.or_true Bool.true_or Bool.or_false Bool.false_or Bool.not_true Bool.not_false Nat.add_zero Nat.zero_add Option.isNone_none Option.isNone_some Option.getD_none true_and and_true not_true_eq_false not_false_eq_true decide_true decide_false Nat.le_refl and_self Bool.not_eq_true Nat.sub_self or_true true_or Option.some.injEq List.length_map List.nil_eq and_false false_and AV.live CV.live CV.liveIn dh aI Option.orElse_some Option.orElse_none head aO aN Int.lt_irrefl List.length_append ite_self dc bI ck bg Key.clash Key.sees Key.writes Nat.lt_irrefl gt_iff_lt bR cW false_or or_false beq_self_eq_true Bool.true_beq Bool.false_beq dk dA fU eU m6 dN lL bd iP cy
abbrev abP:List PV:=[.int .i64 0,.sl [[.int .i64 2,.str [97],.str [],.int .i64 0,.int .i64 0,.sl []],[.int .i64 4,.str [98],.str [],.int .i64 0,.int .i64 0,.sl []]]]
theorem Ey:Prt.enc ⟨0,Sl.abL⟩=abP:=by
 show [PV.int .i64 0,.sl (Sl.abL.map Sim.enc)]=_
 simp only[Sl.abL,List.map_cons,List.map_nil,Sim.enc_mk]
abbrev ahH (c:Int) (ps:List Prt) (z:List UInt8) (m:List Cpx) (w:CV) (i:Nat):St :=
  { sl:=upd (upd (upd (upd (upd (upd bot 10 (I i)) 9 (.c (.loc 9 0))) 8 (I 0)) 7 (L (encC m))) 5 (L [[.sl (encQ ps),.str z]])) 1 (I c),bx:=upd nobox 9 (some [w,.pv (.str z)]),nt:=103 }
noncomputable def ahlp:Code := .loop (au Tryz.f8 11)
theorem xH (a b:PV):lens 2 [[a,b]]=true:=rfl
theorem FX (c:Int) (ps:List Prt) (z:List UInt8) (m:List Cpx) (w:List (List PV)) :
  Ends (exL K 8 ahlp (ahH c ps z m (.own 50 w) ps.length)) fun o S=>o = .exit 0∧S.nt=103∧S.sl 8=I 0∧S.sl 7=L (encC m)∧S.sl 9 = .c (.loc 9 0)∧S.bx 9=some [.own 50 w,.pv (.str z)]:=by
 have hlt:decide ((ps.length:Int)<(ps.length:Int))=false:=decide_eq_false (by omega)
 unfold ahlp
 conv in au _ _=>whnf
 rw[aD]
 simp only[go_sem,Nat.reduceLT,Nat.reduceEqDiff,Nat.reduceBEq,Nat.reduceAdd,aw ax,ai ay,dr,le00,Int.toNat_zero,aV]
set_option maxHeartbeats 4000000 in
theorem B3 (c:Int) (p:Prt) (ps:List Prt) (z:List UInt8) (m:List Cpx) (hps:(p::ps).length≤100) :
  exL K 8 ahlp (ahH c (p::ps) z m (.full [abP]) 0)=exL K 8 ahlp (ahH c (p::ps) z m (.own 50 [abP,Prt.enc ⟨c,p.l⟩]) 1):=by
 have hlt:decide (((0:Nat):Int)<((p::ps).length:Int))=true:=decide_eq_true (by rw[List.length_cons];omega)
 have hlt':decide ((0:Int)<((p::ps).length:Int))=true:=hlt
 have lim2:2<dl:=by decide
 have wr01:IntKind.i64.wrap ((0:Int)+1)=1:=rfl
 have hlt2:decide ((0:Int)<((ps.length+1:Nat):Int))=true:=decide_eq_true (by omega)
 obtain ⟨k,l⟩:=p
 unfold ahlp
 conv in au _ _=>whnf
 conv in au _ _=>whnf
 conv in exL _ _ _ (ahH c (⟨k,l⟩::ps) z m (.full [abP]) 0)=>rw[aD]
 simp only[go_sem,Nat.reduceLT,Nat.reduceEqDiff,Nat.reduceBEq,Nat.reduceAdd,Nat.reduceLeDiff,Nat.reduceMul,aw ax,ai ay,ae (len:=1) ay dN bd ⟨rfl,by decide,by decide⟩,aw ay,dR fm,cK ay,dr,hlt2,lim2,wr01,xH,Prt.enc_mk,le00,Int.toNat_zero,Int.ofNat_zero]
 rw[aY]
 simp only[go_sem,Nat.reduceEqDiff]
 all_goals rfl
set_option maxHeartbeats 4000000 in
theorem El (c:Int) (ps:List Prt) (z:List UInt8) (m:List Cpx) (w:List (List PV)) (i:Nat) (h1:1≤i) (hps:ps.length≤100) (hw:w.length≤200) (hl:lens 2 w=true) (p:Prt) (hi:ps[i]? = some p) :
  exL K 8 ahlp (ahH c ps z m (.own 50 w) i)=exL K 8 ahlp (ahH c ps z m (.own 50 (w++[Prt.enc p])) (i+1)):=by
 have hil:i<ps.length:=(List.getElem?_eq_some_iff.1 hi).1
 have hlt:decide ((i:Int)<(ps.length:Int))=true:=decide_eq_true (by omega)
 have h0:((i:Int)==0)=false:=by rw[beq_eq_false_iff_ne];omega
 have hws:IntKind.i64.wrap ((i:Int)+1)=((i+1:Nat):Int):=d8 i (by omega)
 obtain ⟨k,l⟩:=p
 have hget:(encQ ps)[(i:Int).toNat]? = some [.int .i64 k,.sl (l.map Sim.enc)]:=by simp[hi,Prt.enc_mk]
 have hgetN:(encQ ps)[i]? = some [.int .i64 k,.sl (l.map Sim.enc)]:=by simp[hi,Prt.enc_mk]
 have hlim:w.length+1<dl:=by unfold dl;omega
 unfold ahlp
 conv in au _ _=>whnf
 conv in au _ _=>whnf
 conv in exL _ _ _ (ahH c ps z m _ i)=>rw[aD]
 simp only[go_sem,Nat.reduceLT,reduceCtorEq,Nat.reduceEqDiff,Nat.reduceBEq,Nat.reduceAdd,Nat.reduceLeDiff,Nat.reduceMul,aw ax,ai ay,ae (len:=1) ay dN bd ⟨rfl,by decide,by decide⟩,aw ay,dR fm,cK ay,dr,hlt,h0,hget,hws,hl,hlim,xH,Prt.enc_mk,le00,Int.toNat_zero,Int.natCast_nonneg]
 rw[aY]
 simp only[go_sem,Nat.reduceEqDiff]
theorem xY (c:Int) (ps:List Prt) (z:List UInt8) (m:List Cpx) (hps:ps.length≤100) : ∀ (rest:List Prt) (i:Nat) (w:List (List PV)),1≤i→ps.drop i=rest→i≤ps.length→w.length=i+1→lens 2 w=true →
  exL K 8 ahlp (ahH c ps z m (.own 50 w) i)=exL K 8 ahlp (ahH c ps z m (.own 50 (w++encQ rest)) ps.length)
 | [],i,w,h1,hd,hi,hw,hl=>by
  have hin:i=ps.length:=by
   have:=List.drop_eq_nil_iff.1 hd
   omega
  have e0:encQ []=[]:=rfl
  rw[hin,e0,List.append_nil]
 | p::rest,i,w,h1,hd,hi,hw,hl=>by
  obtain ⟨g1,g2,g3⟩:=eC hd
  have hl2:lens 2 (w++[Prt.enc p])=true:=by
   simp only[lens,List.all_append,Bool.and_eq_true] at hl ⊢
   exact ⟨hl,by obtain ⟨k,l⟩:=p;rfl⟩
  rw[El c ps z m w i h1 hps (by omega) hl p g1,xY c ps z m hps rest (i+1) (w++[Prt.enc p]) (by omega) g2 (by omega) (by rw[List.length_append,List.length_singleton,hw]) hl2,List.append_assoc]
  rfl
theorem yu {α:Type} (a b:α) (r:List α):(((r.length+1+1:Nat):Int)==1)=false:=by rw[beq_eq_false_iff_ne];omega
theorem Fh:(((0:Nat):Int)==1)=false:=rfl
theorem j6:((((0+1:Nat)):Int)==1)=true:=rfl
theorem oT {c:Int} (h:1≤c∧c≤4):c=1∨c=2∨c=3∨c=4:=by omega
theorem si (c:Int) (p:Prt) (ps:List Prt) (z:List UInt8) (m:List Cpx) (hps:ps.length≤99) :
  Ends (exL K 8 ahlp (ahH c (p::ps) z m (.full [abP]) 0)) fun o S=>o = .exit 0∧S.nt=103∧S.sl 8=I 0∧S.sl 7=L (encC m)∧S.sl 9 = .c (.loc 9 0)∧S.bx 9=some [.own 50 (abP::Prt.enc ⟨c,p.l⟩::encQ ps),.pv (.str z)]:=by
 have h1:(p::ps).length≤100:=by rw[List.length_cons];omega
 rw[B3 c p ps z m h1,xY c (p::ps) z m h1 ps 1 [abP,Prt.enc ⟨c,p.l⟩] (Nat.le_refl _) rfl (by rw[List.length_cons];omega) rfl rfl]
 exact FX c (p::ps) z m _
end Go.Abs
