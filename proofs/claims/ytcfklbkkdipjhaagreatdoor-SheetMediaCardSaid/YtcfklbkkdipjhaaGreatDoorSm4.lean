/-
  THE READER OF VALUES (nest's until, one), as an interpreter of its own runs it: what it answers. (The functions that ask it are run by the main interpreter, which has nest.Parse as a primitive.)
  (And 14 texts more.)
-/
import Derived.Defers
import Derived.Recover
import Derived.Lib.AtoiErrMem
import Derived.Shelf.Strings.SlTrimAscii
import Derived.Test.YtcfklbkkdipjhaaGreatDoorSm3
set_option maxHeartbeats 16000000
open Nat (reduceEqDiff reduceAdd reduceLT reduceLeDiff reduceSub reduceMul)
set_option linter.unusedSimpArgs false
set_option linter.unusedVariables false
namespace Go.Abs.NR
open Go Go.Proofs Go.Abs
set_option maxRecDepth 10000
attribute [local go_sem] cG cj bF bH cF cf ce ay aV aR bw bU bg opd avOf cvOf St.degAt St.put okPV dr okAV cQ cR cP cv aj if_true Bool.false_eq_true if_false Option.map_some Option.map_none Option.bind_some Option.bind_none du dh upd List.toList_toArray bC steal aH mvB cX cw bR AV.deg CV.deg AV.gv AV.isIter co cg bG List.length_nil List.length_cons List.filterMap_cons List.filterMap_nil beq_iff_eq List.getElem?_cons_zero List.getElem?_cons_succ Option.getD_some Bool.false_and Bool.and_false Bool.and_self bv bO aJ lend back idx dedup AV.ren CV.ren TV.ren AV.ptrs CV.ptrs ck AV.flat CV.flat bL bu az bV cz dK bD ar bK aQ bd bt aP dV CV.pv? content aN ownT aD reps pvs chunks aZ leave dT bW cN bf aK TV.deg TV.av LK CV.plain CV.noBld cq dS bound List.map_cons List.map_nil List.all_cons List.all_nil List.any_cons List.any_nil List.contains_cons List.contains_nil List.elem_cons List.elem_nil List.cons_append List.nil_append List.append_nil List.flatMap_cons List.flatMap_nil List.zip_cons_cons List.zip_nil_left List.zip_nil_right List.take_succ_cons List.take_zero List.take_nil List.drop_succ_cons List.drop_zero List.drop_nil List.isEmpty_nil List.isEmpty_cons Bool.and_true Bool.true_and Bool.or_true Bool.true_or Bool.or_false Bool.false_or Bool.not_true Bool.not_false Nat.add_zero Nat.zero_add Option.isNone_none Option.isNone_some Option.getD_none true_and and_true not_true_eq_false not_false_eq_true decide_true decide_false Nat.le_refl and_self Bool.not_eq_true Nat.sub_self or_true true_or Option.some.injEq List.length_map List.nil_eq and_false false_and AV.live CV.live CV.liveIn ax Option.orElse_some Option.orElse_none head aI aF Int.lt_irrefl List.length_append ite_self dt br bZ aY Key.clash Key.sees Key.writes Nat.lt_irrefl gt_iff_lt ci dp false_or or_false beq_self_eq_true Bool.true_beq Bool.false_beq
theorem bM:bl Tryz.prog 134 0=Option.some (0,75):=by kernel_rfl
theorem cM:szOf Tryz.prog 75=Option.some 1:=by kernel_rfl
theorem cm:cA Tryz.prog 75=Option.some Option.none:=by kernel_rfl
theorem au:bm Tryz.prog 75=Option.some (Go.Abs.Desc.sl 56 Bool.false):=by kernel_rfl
theorem aq:szOf Tryz.prog 56=Option.some 3:=by kernel_rfl
theorem aM:cA Tryz.prog 56=Option.some (Option.some 3):=by kernel_rfl
theorem ao:zeroCells Tryz.prog 56=Option.some [Go.Abs.CV.pv (Go.Abs.PV.int Go.IntKind.i64 0),Go.Abs.CV.pv (Go.Abs.PV.str []),Go.Abs.CV.pv (Go.Abs.PV.int Go.IntKind.i64 0)]:=by kernel_rfl
theorem dq:mr Tryz.prog 190=Bool.true:=by kernel_rfl
theorem af:bm Tryz.prog 22=Option.some (Go.Abs.Desc.sl 58 Bool.false):=by kernel_rfl
theorem aU:szOf Tryz.prog 58=Option.some 5:=by kernel_rfl
theorem aL:zeroCells Tryz.prog 58=Option.some [Go.Abs.CV.pv (Go.Abs.PV.int Go.IntKind.i64 0),Go.Abs.CV.pv (Go.Abs.PV.int Go.IntKind.i64 0),Go.Abs.CV.pv (Go.Abs.PV.str []),Go.Abs.CV.pv (Go.Abs.PV.int Go.IntKind.i64 0),Go.Abs.CV.nils]:=by kernel_rfl
theorem fF:iA Tryz.prog 22=Option.some (58,5):=by kernel_rfl
theorem bS:cA Tryz.prog 58=Option.some (Option.some 5):=by kernel_rfl
theorem dx:fe Tryz.prog 58=Option.some [(0,1),(1,3),(4,1)]:=by kernel_rfl
theorem cY:bl Tryz.prog 134 1=Option.some (1,3):=by kernel_rfl
theorem cB:szOf Tryz.prog 3=Option.some 1:=by kernel_rfl
theorem bJ:cA Tryz.prog 3=Option.some Option.none:=by kernel_rfl
theorem dE:zeroCells Tryz.prog 130=Option.some []:=by kernel_rfl
theorem dN:fe Tryz.prog 130=Option.some []:=by kernel_rfl
theorem dD:io Tryz.prog 130=Bool.true:=by kernel_rfl
theorem aW:bl Tryz.prog 58 1=Option.some (1,56):=by kernel_rfl
theorem eC:bl Tryz.prog 58 2=Option.some (4,22):=by kernel_rfl
theorem gl:szOf Tryz.prog 22=Option.some 1:=by kernel_rfl
theorem eE:zeroCells Tryz.prog 177=Option.some [Go.Abs.CV.pv (Go.Abs.PV.str []),Go.Abs.CV.pv (Go.Abs.PV.str [])]:=by kernel_rfl
theorem gL:szOf Tryz.prog 177=Option.some 2:=by kernel_rfl
theorem dR:bl Tryz.prog 177 1=Option.some (1,9):=by kernel_rfl
theorem fa:szOf Tryz.prog 9=Option.some 1:=by kernel_rfl
theorem cU:cA Tryz.prog 9=Option.some Option.none:=by kernel_rfl
theorem ee:fe Tryz.prog 56=Option.some [(0,1),(1,1),(2,1)]:=by kernel_rfl
def vB (f r:Nat):List Nat×List Nat:=if f==94&&r==2 then([0,1,2,7],[100000,100001]) else([],[])
def prN (f:Nat):Option Prim:=if f==132 then some oh else if f==208 then some rh else none
def ownN (f:Nat):Bool:=f==132
def rm:List Nat:=[132,208,133,134,150,94]
noncomputable def KN:Cfg := { P:=Tryz.prog,pr:=prN,keep:=vB,ownRet:=ownN,good:=rm.contains,hook:=fun _ _=>false }
theorem eL (f:FuncId) (h:(f==132)=false):KN.ownRet f=false:=h
theorem qR:KN.ownRet 132=true:=rfl
theorem Cv (f i:Nat):KN.hook f i=false:=rfl
theorem bX (f:FuncId) (id:Nat) (ops:Array Oper) (draw:Bool) (S:St):exL KN f (.region id ops draw) S=ay KN (den KN) ops.toList draw S:=bA f id ops draw S (Cv f id)
theorem N_P:KN.P=Tryz.prog:=rfl
theorem gU (f r:Nat):KN.keep f r=vB f r:=rfl
theorem eh:vB 94 2=([0,1,2,7],[100000,100001]):=by decide
theorem lX:KN.good 208=true:=rfl
theorem rA:KN.good 132=true:=rfl
theorem rM:KN.good 133=true:=rfl
theorem rl:KN.good 134=true:=rfl
theorem mc:KN.good 150=true:=rfl
theorem pj:KN.good 94=true:=rfl
abbrev I (n:Int):AV:=.c (.pv (.int .i64 n))
abbrev T (l:List UInt8):AV:=.c (.pv (.str l))
abbrev L (l:List (List PV)):AV:=.c (.pv (.sl l))
abbrev P0:AV:=.c (.loc 100000 0)
theorem gx {f:FuncId} {fn:Func} {x:Code} {nt:Nat} {args:List AV} {bxs:List (List CV)} {r:Res} (hp:prN f=none) (hf:Tryz.prog.funcs[f]? = some fn) (hx:fn.body=some x) (hn:fn.ntmps=nt)
  (hl:args.length≤nt∧nt<LK) (h:(exL KN f x (aZ nt args bxs)).bind (fun r=>leave KN f fn bxs.length (some r))=some r):den KN f args bxs=some r:=by
 rw[rH (K:=KN) hp rfl hf hx,hn,if_pos hl];exact h
theorem rZ {α:Type} {f:FuncId} {fn:Func} {x:Code} {nt:Nat} {args:List AV} {bxs:List (List CV)} {r:α→Res} (hp:prN f=none) (hf:Tryz.prog.funcs[f]? = some fn) (hx:fn.body=some x) (hn:fn.ntmps=nt)
  (hl:args.length≤nt∧nt<LK) (h:∃ b,(exL KN f x (aZ nt args bxs)).bind (fun r=>leave KN f fn bxs.length (some r))=some (r b)):∃ b,den KN f args bxs=some (r b):=by
 obtain⟨b,h⟩:=h;exact⟨b,gx hp hf hx hn hl h⟩
theorem pV {f:FuncId} {F:Prim} {args:List AV} {bxs cs:List (List CV)} {v:AV} (h:prN f=some F) (hF:F args bxs=some (v,cs)):den KN f args bxs=some (.ret v cs):=by
 rw[pi (K:=KN) h,hF];rfl
theorem wE (t:Tok):den KN 208 [.agg t.cells] []=some (.ret (I (Ne.opens t)) []):=pV (F:=rh) rfl rfl
theorem xf:den KN 132 [] []=some (.ret (.c (.cmap cE)) []):=pV (F:=oh) rfl rfl
theorem my (s:List UInt8):den KN 133 [T s] []=some (.ret (.agg [.pv (.int .i64 7),.pv (.str s),.pv (.int .i64 0)]) []):=by
 refine gx rfl Tryz.func133 rfl Tryz.ntmps133 ⟨by simp,by simp[LK]⟩ ?_
 have hr:Tryz.f133.results=#[.cell 2 56]:=rfl
 simp only[go_sem,reduceLT,reduceCtorEq,reduceEqDiff,Nat.reduceBEq,reduceAdd,reduceSub,reduceLeDiff,bX,eL,N_P,aM,ao,bh ao ee,aq,hr]
theorem lB:Tryz.prog.underlying 179=some (.map 3 177):=by kernel_rfl
theorem lh:uZ Tryz.prog 3 .i64=true:=by kernel_rfl
theorem xh:oE Tryz.prog 177=some (.agg [.pv (.str []),.pv (.str [])]):=by kernel_rfl
theorem CP:dB Tryz.prog 179 (.c (.cmap cE)) (I 2) true=some (.tup [.agg [.pv (.str [40]),.pv (.str [41])],.c (.pv (.bool true))]):=by
 unfold dB;rw[lB];simp only;rw[lh,if_pos (by rfl)]
 rfl
theorem Dh:dB Tryz.prog 179 (.c (.cmap cE)) (I 3) true=some (.tup [.agg [.pv (.str [91]),.pv (.str [93])],.c (.pv (.bool true))]):=by
 unfold dB;rw[lB];simp only;rw[lh,if_pos (by rfl)]
 rfl
theorem CW:dB Tryz.prog 179 (.c (.cmap cE)) (I 4) true=some (.tup [.agg [.pv (.str [123]),.pv (.str [125])],.c (.pv (.bool true))]):=by
 unfold dB;rw[lB];simp only;rw[lh,if_pos (by rfl)]
 rfl
theorem AM (k:Int) (h2:k≠2) (h3:k≠3) (h4:k≠4):dB Tryz.prog 179 (.c (.cmap cE)) (I k) true=some (.tup [.agg [.pv (.str []),.pv (.str [])],.c (.pv (.bool false))]):=by
 have hf:cE.find? (kU .i64 k)=none:=by
  rw[List.find?_eq_none]
  intro e he;simp only[cE,List.mem_cons,List.not_mem_nil,or_false] at he;rcases he with rfl|rfl|rfl<;>simp[kU,h2,h3,h4]
 unfold dB;rw[lB];simp only;rw[lh,if_pos (by rfl),hf]
 simp only[xh]
theorem tG (k:Int):den KN 134 [I k] []=some (.ret (.agg (Ne.eH k).cells) []):=by
 refine gx rfl Tryz.func134 rfl Tryz.ntmps134 ⟨by simp,by simp[LK]⟩ ?_
 have hr:Tryz.f134.results=#[.cell 2 56]:=rfl
 have hp:=xf
 have d1:=my [41]
 have d2:=my [93]
 have d3:=my [125]
 by_cases h2:k=2
 ·subst h2;simp only[go_sem,reduceLT,reduceCtorEq,reduceEqDiff,Nat.reduceBEq,reduceAdd,reduceSub,reduceLeDiff,bX,eL,qR,N_P,aM,ao,eE,gL,dR,fa,cU,aq,hr,hp,CP,d1,rA,rM];rfl
 by_cases h3:k=3
 ·subst h3;simp only[go_sem,reduceLT,reduceCtorEq,reduceEqDiff,Nat.reduceBEq,reduceAdd,reduceSub,reduceLeDiff,bX,eL,qR,N_P,aM,ao,eE,gL,dR,fa,cU,aq,hr,hp,Dh,d2,rA,rM];rfl
 by_cases h4:k=4
 ·subst h4;simp only[go_sem,reduceLT,reduceCtorEq,reduceEqDiff,Nat.reduceBEq,reduceAdd,reduceSub,reduceLeDiff,bX,eL,qR,N_P,aM,ao,eE,gL,dR,fa,cU,aq,hr,hp,CW,d3,rA,rM];rfl
 have hl:=AM k h2 h3 h4
 have hv:Ne.eH k=⟨7,[41],0⟩:=by simp[Ne.eH,Ne.iX,h3,h4]
 rw[hv];simp only[go_sem,reduceLT,reduceCtorEq,reduceEqDiff,Nat.reduceBEq,reduceAdd,reduceSub,reduceLeDiff,bX,eL,qR,N_P,aM,ao,eE,gL,dR,fa,cU,aq,hr,hp,hl,d1,rA,rM];rfl
theorem nY (k k' n n':Int) (t t':List UInt8):ir Tryz.prog 56 [.int .i64 k,.str t,.int .i64 n] [.int .i64 k',.str t',.int .i64 n']=some ((k==k')&&((t==t')&&((n==n')&&true))):=by kernel_rfl
theorem BA (a b:Tok):((a.kind==b.kind)&&((a.text==b.text)&&((a.n==b.n)&&true)))=decide (a=b):=by
 obtain⟨k,t,n⟩:=a;obtain⟨k',t',n'⟩:=b;rw[Bool.eq_iff_iff,decide_eq_true_eq];simp[Tok.mk.injEq]
theorem ik (l:List Tok):lens 3 (l.map Tok.enc)=true:=by simp[lens,Tok.enc]
theorem wW (l:List Val):lens 5 (encL l)=true:=by
 rw[ep];simp only[lens,List.all_map,List.all_eq_true,Function.comp_apply,beq_iff_eq];intro v _;exact rx v
theorem lF (a b c d e:PV):lens 5 [[a,b,c,d,e]]=true:=rfl
abbrev rdr (l:List Tok) (deep:Int):List CV:=[.pv (.sl (l.map Tok.enc)),.pv (.int .i64 deep)]
abbrev errD:CV:=.pv (.ifa 130 [])
abbrev kJ (k:Int):List CV:=[.pv (.int .i64 7),.pv (.str [Ne.iX k]),.pv (.int .i64 0)]
abbrev tokA (t:Tok):List CV:=[.pv (.int .i64 t.kind),.pv (.str t.text),.pv (.int .i64 t.n)]
theorem rO (t:Tok):den KN 208 [.agg (tokA t)] []=some (.ret (I (Ne.opens t)) []):=wE t
theorem tA (k:Int):den KN 134 [I k] []=some (.ret (.agg (kJ k)) []):=tG k
theorem Bm (t:Tok) (l:List Tok) (deep wi:Int) (h:Ne.opens t=0):den KN 150 [P0,.agg (tokA t),I wi] [rdr l deep] =
  some (.ret (.agg [.pv (.int .i64 1),.pv (.int .i64 t.kind),.pv (.str t.text),.pv (.int .i64 t.n),.nils]) [rdr l deep]):=by
 refine gx rfl Tryz.func150 rfl Tryz.ntmps150 ⟨by simp,by simp[LK]⟩ ?_
 have hr:Tryz.f150.results=#[.cell 6 58]:=rfl
 have ho:=rO t
 rw[h] at ho;simp only[go_sem,reduceLT,reduceEqDiff,Nat.reduceBEq,reduceAdd,reduceSub,reduceLeDiff,bX,eL,N_P,bS,aL,aM,bh aL dx,aU,hr,ho,lX]
theorem Am (t:Tok) (l:List Tok) (deep wi:Int) (h:Ne.opens t≠0) (hw:deep≤wi):den KN 150 [P0,.agg (tokA t),I wi] [rdr l deep]=some (.pan errD [rdr l deep]):=by
 refine gx rfl Tryz.func150 rfl Tryz.ntmps150 ⟨by simp,by simp[LK]⟩ ?_
 have ho:=rO t
 have e0:(Ne.opens t==0)=false:=by rw[beq_eq_false_iff_ne];exact h
 have e1:decide (deep≤wi)=true:=decide_eq_true hw
 simp only[go_sem,reduceLT,reduceCtorEq,reduceEqDiff,Nat.reduceBEq,reduceAdd,reduceSub,reduceLeDiff,bX,eL,N_P,aL,aM,bh aL dx,aU,cY,cB,bJ,bh dE dN,dD,ho,lX,e0,e1]
theorem CE (t:Tok) (l rest:List Tok) (vs:List Val) (deep wi:Int) (h:Ne.opens t≠0) (hw:wi<deep) (hd:0≤wi∧deep<1000)
  (hu:den KN 94 [P0,.c (.loc 100001 0),I (wi+1)] [rdr l deep,kJ (Ne.opens t)]=some (.ret (L (encL vs)) [rdr rest deep,kJ (Ne.opens t)])) :
  den KN 150 [P0,.agg (tokA t),I wi] [rdr l deep] =
   some (.ret (.agg (.pv (.int .i64 (Ne.opens t))::(tokA (if Ne.opens t=5 then t else Ne.tok0)++[.pv (.sl (encL vs))]))) [rdr rest deep]):=by
 refine gx rfl Tryz.func150 rfl Tryz.ntmps150 ⟨by simp,by simp[LK]⟩ ?_
 have hr:Tryz.f150.results=#[.cell 6 58]:=rfl
 have ho:=rO t
 have hc:=tA (Ne.opens t)
 have e0:(Ne.opens t==0)=false:=by rw[beq_eq_false_iff_ne];exact h
 have e1:decide (deep≤wi)=false:=decide_eq_false (by omega)
 have ew:IntKind.i64.wrap (wi+1)=wi+1:=IntWalk.i64_in _ (by omega)
 by_cases h5:Ne.opens t=5
 ·have e5:(Ne.opens t==5)=true:=by rw[beq_iff_eq];exact h5
  rw[if_pos h5];simp only[go_sem,reduceLT,reduceCtorEq,reduceEqDiff,Nat.reduceBEq,reduceAdd,reduceSub,reduceLeDiff,bX,eL,N_P,bS,aL,aM,bh aL dx,aU,cY,cB,bJ,bh dE dN,dD,aW,aq,ao,eC,gl,hr,ho,hc,hu,lX,rl,pj,e0,e1,e5,ew]
 ·have e5:(Ne.opens t==5)=false:=by rw[beq_eq_false_iff_ne];exact h5
  rw[if_neg h5];simp only[go_sem,reduceLT,reduceCtorEq,reduceEqDiff,Nat.reduceBEq,reduceAdd,reduceSub,reduceLeDiff,bX,eL,N_P,bS,aL,aM,bh aL dx,aU,cY,cB,bJ,bh dE dN,dD,aW,aq,ao,eC,gl,hr,ho,hc,hu,lX,rl,pj,e0,e1,e5,ew,Ne.tok0]
theorem AW (t:Tok) (l:List Tok) (deep wi:Int) (b1 b2:List CV) (h:Ne.opens t≠0) (hw:wi<deep) (hd:0≤wi∧deep<1000)
  (hu:den KN 94 [P0,.c (.loc 100001 0),I (wi+1)] [rdr l deep,kJ (Ne.opens t)]=some (.pan errD [b1,b2])) :
  ∃ b,den KN 150 [P0,.agg (tokA t),I wi] [rdr l deep]=some (.pan errD [b]):=by
 refine rZ rfl Tryz.func150 rfl Tryz.ntmps150 ⟨by simp,by simp[LK]⟩ ?_
 have ho:=rO t
 have hc:=tA (Ne.opens t)
 have e0:(Ne.opens t==0)=false:=by rw[beq_eq_false_iff_ne];exact h
 have e1:decide (deep≤wi)=false:=decide_eq_false (by omega)
 have ew:IntKind.i64.wrap (wi+1)=wi+1:=IntWalk.i64_in _ (by omega)
 by_cases h5:Ne.opens t=5
 ·have e5:(Ne.opens t==5)=true:=by rw[beq_iff_eq];exact h5
  simp only[go_sem,reduceLT,reduceCtorEq,reduceEqDiff,Nat.reduceBEq,reduceAdd,reduceSub,reduceLeDiff,bX,eL,N_P,aL,aM,bh aL dx,aU,cY,cB,bJ,bh dE dN,dD,aW,aq,ao,ho,hc,hu,lX,rl,pj,e0,e1,e5,ew];exact⟨_,rfl⟩
 ·have e5:(Ne.opens t==5)=false:=by rw[beq_eq_false_iff_ne];exact h5
  simp only[go_sem,reduceLT,reduceCtorEq,reduceEqDiff,Nat.reduceBEq,reduceAdd,reduceSub,reduceLeDiff,bX,eL,N_P,aL,aM,bh aL dx,aU,cY,cB,bJ,bh dE dN,dD,aW,aq,ao,ho,hc,hu,lX,rl,pj,e0,e1,e5,ew];exact⟨_,rfl⟩
theorem eY (f:FuncId) (a:Code) (S:St):exL KN f (.loop a) S=exL KN f (.loop a) (head (vB f ((ax a).getD 0)) S):=by
 rw[aB,aB (S:=head _ S),gU,lR]
inductive Kd:Int→AV→Option (List CV)→List (List CV)→Prop
 | top:Kd 0 (.c .nilp) none []
 | inner (k:Int) (h:0<k):Kd k (.c (.loc 100001 0)) (some (kJ k)) [kJ k]
abbrev uH (l:List Tok) (deep wi:Int) (ka:AV) (kb:Option (List CV)) (e:Nat) (acc:List Val):St :=
  { sl:=upd (upd (upd (upd bot 7 (.c (.own e (encL acc)))) 2 (I wi)) 1 ka) 0 P0,bx:=upd (upd nobox 100001 kb) 100000 (some (rdr l deep)),nt:=46 }
def ULoop (l:List Tok) (kind:Int) (left:Nat) (deep wi:Int) (ka:AV) (kb:Option (List CV)) (acc:List Val) (o:Out) (S:St):Prop :=
 match Ne.cO kind left l with
 | some (vs,rest)=>o=.exit 0∧S.nt=46∧(∃ e,S.sl 7=.c (.own e (encL (acc++vs))))∧S.bx 100000=some (rdr rest deep)∧S.bx 100001=kb
 | none=>o=.pan errD∧(∃ b,S.bx 100000=some b)∧S.bx 100001=kb
def UDen (l:List Tok) (kind:Int) (left:Nat) (deep wi:Int) (ka:AV) (kl:List (List CV)):Prop :=
 match Ne.cO kind left l with
 | some (vs,rest)=>den KN 94 [P0,ka,I wi] (rdr l deep::kl)=some (.ret (L (encL vs)) (rdr rest deep::kl))
 | none=>∃ b,den KN 94 [P0,ka,I wi] (rdr l deep::kl)=some (.pan errD (b::kl))
noncomputable def ulp:Code:=.loop (aO Tryz.f94 2)
theorem Cm {l:List Tok} {kind:Int} {left:Nat} {deep wi:Int} {ka:AV} {kb:Option (List CV)} {kl:List (List CV)} (hk:Kd kind ka kb kl)
  (h:Ends (exL KN 94 ulp (uH l deep wi ka kb 0 [])) (ULoop l kind left deep wi ka kb [])):UDen l kind left deep wi ka kl:=by
 have hr:Tryz.f94.results=#[.tmp 6]:=rfl
 unfold ulp at h
 conv at h in aO _ _=>whnf
 obtain⟨o,S',w,hq⟩:=h;unfold ULoop at hq;unfold UDen;cases hu:Ne.cO kind left l with
 | some x =>
  obtain⟨vs,rest⟩:=x;rw[hu] at hq;obtain⟨rfl,hn,⟨e,h7⟩,hb,hb2⟩:=hq;rw[List.nil_append] at h7;simp only;refine gx rfl Tryz.func94 rfl Tryz.ntmps94 ⟨by simp,by simp[LK]⟩ ?_
  cases hk with
  | top =>
   simp only[go_sem,reduceLT,Nat.reduceBEq,bX,eL,N_P,hr];rw[eY];simp only[go_sem,reduceCtorEq,reduceEqDiff,Nat.reduceBEq,reduceSub,reduceLeDiff,eh];erw [w];simp only[go_sem,reduceLT,reduceEqDiff,Nat.reduceBEq,reduceAdd,bX,hn,h7,hb]
  | inner k hk =>
   simp only[go_sem,reduceLT,Nat.reduceBEq,reduceAdd,bX,eL,N_P,hr];rw[eY];simp only[go_sem,reduceCtorEq,reduceEqDiff,Nat.reduceBEq,reduceSub,reduceLeDiff,eh];erw [w];simp only[go_sem,reduceLT,reduceEqDiff,Nat.reduceBEq,reduceAdd,bX,hn,h7,hb,hb2]
 | none =>
  rw[hu] at hq;obtain⟨rfl,⟨b,hb⟩,hb2⟩:=hq;simp only;refine rZ rfl Tryz.func94 rfl Tryz.ntmps94 ⟨by simp,by simp[LK]⟩ ?_
  cases hk with
  | top =>
   simp only[go_sem,reduceLT,Nat.reduceBEq,bX,eL,N_P,hr];rw[eY];simp only[go_sem,reduceCtorEq,reduceEqDiff,Nat.reduceBEq,reduceSub,reduceLeDiff,eh];erw [w];simp only[go_sem,hb];exact⟨_,rfl⟩
  | inner k hk =>
   simp only[go_sem,reduceLT,Nat.reduceBEq,reduceAdd,bX,eL,N_P,hr];rw[eY];simp only[go_sem,reduceCtorEq,reduceEqDiff,Nat.reduceBEq,reduceSub,reduceLeDiff,eh];erw [w];simp only[go_sem,hb,hb2];exact⟨_,rfl⟩
theorem rQ {kind:Int} {ka:AV} {kb:Option (List CV)} {kl:List (List CV)} (hk:Kd kind ka kb kl) (t:Tok) :
  (kb=none∧ka=.c .nilp∧Ne.dm kind t=false)∨(kb=some (kJ kind)∧ka=.c (.loc 100001 0) ∧
   Ne.dm kind t=((t.kind==7)&&((t.text==[Ne.iX kind])&&((t.n==0)&&true)))):=by
 cases hk with
 | top=>exact .inl ⟨rfl,rfl,Ne.wG t⟩
 | inner k h =>
  refine .inr ⟨rfl,rfl,?_⟩
  have:=BA t (Ne.eH kind)
  unfold Ne.dm;rw[decide_eq_true h,Bool.true_and,←this];rfl
theorem Cn {kind:Int} {left:Nat} {deep wi:Int} {ka:AV} {kb:Option (List CV)} {kl:List (List CV)} (hk:Kd kind ka kb kl) (e:Nat) (acc:List Val) :
  Ends (exL KN 94 ulp (uH [] deep wi ka kb e acc)) (ULoop [] kind left deep wi ka kb acc):=by
 unfold ULoop;rw[Ne.ig];unfold ulp;have e00:decide ((0:Int)<((0:Nat):Int))=false:=by decide
 conv in aO _ _=>whnf
 rw[aB];cases hk with
 | top =>
  simp only[go_sem,reduceLT,reduceCtorEq,reduceEqDiff,Nat.reduceBEq,reduceAdd,bX,N_P,gU,eh,bM,cM,cm,ah au,aX,e00];exact⟨⟨e,rfl⟩,rfl⟩
 | inner k h =>
  simp only[go_sem,reduceLT,reduceCtorEq,reduceEqDiff,Nat.reduceBEq,reduceAdd,bX,N_P,gU,eh,bM,cM,cm,ah au,aX,e00];exact⟨⟨e,rfl⟩,rfl⟩
theorem CG {t:Tok} {l:List Tok} {kind:Int} {left:Nat} {deep wi:Int} {ka:AV} {kb:Option (List CV)} {kl:List (List CV)} (hk:Kd kind ka kb kl) (h:Ne.dm kind t=true) (e:Nat) (acc:List Val) :
  Ends (exL KN 94 ulp (uH (t::l) deep wi ka kb e acc)) (ULoop (t::l) kind left deep wi ka kb acc):=by
 have e0:(t::l).map Tok.enc=[.int .i64 t.kind,.str t.text,.int .i64 t.n]::l.map Tok.enc:=rfl
 have hlt:decide ((0:Int)<((l.length+1:Nat):Int))=true:=decide_eq_true (by omega)
 have htk:(l.map Tok.enc).take l.length=l.map Tok.enc:=List.take_of_length_le (by simp)
 have h01:(0:Int)≤1:=by decide
 have h1l:(1:Int)≤((l.length+1:Nat):Int):=by omega
 have hlens:lens 3 ([.int .i64 t.kind,.str t.text,.int .i64 t.n]::l.map Tok.enc)=true:=ik (t::l)
 have hu:=Ne.eb kind left t l
 rw[h,if_pos rfl] at hu;unfold ULoop;rw[hu];have heq:=nY t.kind 7 t.n 0 t.text [Ne.iX kind]
 have hkd:=rQ hk t
 rw[h] at hkd;rcases hkd with⟨_,_,hf⟩|⟨rfl,rfl,hf⟩
 ·cases hf
 ·rw[←hf] at heq;unfold ulp
  conv in aO _ _=>whnf
  rw[aB];simp only[go_sem,reduceLT,reduceCtorEq,reduceEqDiff,Nat.reduceBEq,reduceAdd,reduceLeDiff,bX,N_P,gU,eh,bM,cM,cm,ah au,ag au,aq,aM,ao,cS au aq,dq,aX,e0,hlt,hlens,htk,h01,h1l,Int.le_refl,Int.toNat_zero,Int.toNat_one,heq];exact⟨e,rfl⟩
theorem yA {t:Tok} {l rest:List Tok} {kind:Int} {deep wi:Int} {ka:AV} {kb:Option (List CV)} {kl:List (List CV)} (hk:Kd kind ka kb kl) (h:Ne.dm kind t=false) (e:Nat) (acc acc':List Val)
  (he:e=58∨acc=[]) (hacc:acc.length<1000000) {a b c d:PV} {z:CV} {x:List (List PV)} (hz:(z=.nils∧x=[])∨z=.pv (.sl x)) (henc:encL acc'=encL acc++[[a,b,c,d,.sl x]])
  (hone:den KN 150 [P0,.agg (tokA t),I wi] [rdr l deep]=some (.ret (.agg [.pv a,.pv b,.pv c,.pv d,z]) [rdr rest deep])) :
  exL KN 94 ulp (uH (t::l) deep wi ka kb e acc)=exL KN 94 ulp (uH rest deep wi ka kb 58 acc'):=by
 have e0:(t::l).map Tok.enc=[.int .i64 t.kind,.str t.text,.int .i64 t.n]::l.map Tok.enc:=rfl
 have hlt:decide ((0:Int)<((l.length+1:Nat):Int))=true:=decide_eq_true (by omega)
 have htk:(l.map Tok.enc).take l.length=l.map Tok.enc:=List.take_of_length_le (by simp)
 have h01:(0:Int)≤1:=by decide
 have h1l:(1:Int)≤((l.length+1:Nat):Int):=by omega
 have hlens:lens 3 ([.int .i64 t.kind,.str t.text,.int .i64 t.n]::l.map Tok.enc)=true:=ik (t::l)
 have heq:=nY t.kind 7 t.n 0 t.text [Ne.iX kind]
 have hkd:=rQ hk t
 rw[h] at hkd;have hown:e=58∨(encL acc).isEmpty=true:=by
  rcases he with rfl|rfl
  ·exact .inl rfl
  ·exact .inr rfl
 have hlim:acc.length+1<fg:=by unfold fg;omega
 have hlv:=wW acc
 unfold ulp
 conv in aO _ _=>whnf
 conv in aO _ _=>whnf
 conv=>lhs;rw[aB]
 symm at henc
 rcases hkd with⟨rfl,rfl,hf⟩|⟨rfl,rfl,hf⟩
 ·rcases hz with⟨rfl,rfl⟩|rfl
  ·simp only[go_sem,reduceLT,reduceCtorEq,reduceEqDiff,Nat.reduceBEq,reduceAdd,reduceLeDiff,reduceMul,bX,eL,N_P,gU,eh,bM,cM,cm,ah au,ag au,aq,aM,ao,cS au aq,dq,bo (len:=1) af aU aL ⟨rfl,by decide,by decide⟩,eZ fF,dk af,e0,hlt,hlens,htk,h01,h1l,Int.le_refl,Int.toNat_zero,Int.toNat_one,hone,mc,bc,hlim,hlv,lF,hown,henc]
   rw[eY];simp only[go_sem,reduceCtorEq,reduceEqDiff,Nat.reduceBEq,eh]
  ·simp only[go_sem,reduceLT,reduceCtorEq,reduceEqDiff,Nat.reduceBEq,reduceAdd,reduceLeDiff,reduceMul,bX,eL,N_P,gU,eh,bM,cM,cm,ah au,ag au,aq,aM,ao,cS au aq,dq,bo (len:=1) af aU aL ⟨rfl,by decide,by decide⟩,eZ fF,dk af,e0,hlt,hlens,htk,h01,h1l,Int.le_refl,Int.toNat_zero,Int.toNat_one,hone,mc,bc,hlim,hlv,lF,hown,henc]
   rw[eY];simp only[go_sem,reduceCtorEq,reduceEqDiff,Nat.reduceBEq,eh]
 ·rw[←hf] at heq;rcases hz with⟨rfl,rfl⟩|rfl
  ·simp only[go_sem,reduceLT,reduceCtorEq,reduceEqDiff,Nat.reduceBEq,reduceAdd,reduceLeDiff,reduceMul,bX,eL,N_P,gU,eh,bM,cM,cm,ah au,ag au,aq,aM,ao,cS au aq,dq,bo (len:=1) af aU aL ⟨rfl,by decide,by decide⟩,eZ fF,dk af,e0,hlt,hlens,htk,h01,h1l,Int.le_refl,Int.toNat_zero,Int.toNat_one,heq,hone,mc,bc,hlim,hlv,lF,hown,henc]
   rw[eY];simp only[go_sem,reduceCtorEq,reduceEqDiff,Nat.reduceBEq,eh]
  ·simp only[go_sem,reduceLT,reduceCtorEq,reduceEqDiff,Nat.reduceBEq,reduceAdd,reduceLeDiff,reduceMul,bX,eL,N_P,gU,eh,bM,cM,cm,ah au,ag au,aq,aM,ao,cS au aq,dq,bo (len:=1) af aU aL ⟨rfl,by decide,by decide⟩,eZ fF,dk af,e0,hlt,hlens,htk,h01,h1l,Int.le_refl,Int.toNat_zero,Int.toNat_one,heq,hone,mc,bc,hlim,hlv,lF,hown,henc]
   rw[eY];simp only[go_sem,reduceCtorEq,reduceEqDiff,Nat.reduceBEq,eh]
theorem AK {t:Tok} {l:List Tok} {kind:Int} {deep wi:Int} {ka:AV} {kb:Option (List CV)} {kl:List (List CV)} (hk:Kd kind ka kb kl) (h:Ne.dm kind t=false) (e:Nat) (acc:List Val) {b:List CV}
  (hone:den KN 150 [P0,.agg (tokA t),I wi] [rdr l deep]=some (.pan errD [b])) :
  Ends (exL KN 94 ulp (uH (t::l) deep wi ka kb e acc)) fun o S=>o=.pan errD∧(∃ b,S.bx 100000=some b)∧S.bx 100001=kb:=by
 have e0:(t::l).map Tok.enc=[.int .i64 t.kind,.str t.text,.int .i64 t.n]::l.map Tok.enc:=rfl
 have hlt:decide ((0:Int)<((l.length+1:Nat):Int))=true:=decide_eq_true (by omega)
 have htk:(l.map Tok.enc).take l.length=l.map Tok.enc:=List.take_of_length_le (by simp)
 have h01:(0:Int)≤1:=by decide
 have h1l:(1:Int)≤((l.length+1:Nat):Int):=by omega
 have hlens:lens 3 ([.int .i64 t.kind,.str t.text,.int .i64 t.n]::l.map Tok.enc)=true:=ik (t::l)
 have heq:=nY t.kind 7 t.n 0 t.text [Ne.iX kind]
 have hkd:=rQ hk t
 rw[h] at hkd;unfold ulp
 conv in aO _ _=>whnf
 rw[aB];rcases hkd with⟨rfl,rfl,hf⟩|⟨rfl,rfl,hf⟩
 ·simp only[go_sem,reduceLT,reduceCtorEq,reduceEqDiff,Nat.reduceBEq,reduceAdd,reduceLeDiff,bX,eL,N_P,gU,eh,bM,cM,cm,ah au,ag au,aq,aM,ao,cS au aq,dq,e0,hlt,hlens,htk,h01,h1l,Int.le_refl,Int.toNat_zero,Int.toNat_one,hone,mc,aX];exact⟨_,rfl⟩
 ·rw[←hf] at heq;simp only[go_sem,reduceLT,reduceCtorEq,reduceEqDiff,Nat.reduceBEq,reduceAdd,reduceLeDiff,bX,eL,N_P,gU,eh,bM,cM,cm,ah au,ag au,aq,aM,ao,cS au aq,dq,e0,hlt,hlens,htk,h01,h1l,Int.le_refl,Int.toNat_zero,Int.toNat_one,heq,hone,mc,aX];exact⟨_,rfl⟩
theorem rR (acc:List Val) (k:Int) (t:Tok) (vs:List Val):encL (acc++[.mk k t vs])=encL acc++[[.int .i64 k,.int .i64 t.kind,.str t.text,.int .i64 t.n,.sl (encL vs)]]:=by
 rw[sX];rfl
theorem wL {t:Tok} (h:Ne.opens t≠0):0<Ne.opens t:=by
 rcases Ne.gA t with h1|h1|h1|h1|h1<;>omega
theorem CA (deep:Int) (hd:deep<1000):∀ (m:Nat) (l:List Tok),l.length≤m→∀ (kind:Int) (left:Nat) (wi:Int) (ka:AV) (kb:Option (List CV)) (kl:List (List CV)),Kd kind ka kb kl→wi+left=deep→0≤wi →
  ∀ (e:Nat) (acc:List Val),acc.length+l.length≤1000000→(e=58∨acc=[]) →
  Ends (exL KN 94 ulp (uH l deep wi ka kb e acc)) (ULoop l kind left deep wi ka kb acc):=by
 intro m
 induction m with
 | zero =>
  intro l hl kind left wi ka kb kl hk hw hw0 e acc hacc he;obtain rfl:l=[]:=List.eq_nil_of_length_eq_zero (by omega)
  exact Cn hk e acc
 | succ m ih =>
  intro l hl kind left wi ka kb kl hk hw hw0 e acc hacc he;cases l with
  | nil=>exact Cn hk e acc
  | cons t l =>
   rw[List.length_cons] at hl hacc;have hu:=Ne.eb kind left t l
   cases hb:Ne.dm kind t with
   | true=>exact CG hk hb e acc
   | false =>
    rw[hb,if_neg (by simp)] at hu
    by_cases h0:Ne.opens t=0
    ·rw[if_pos h0] at hu;have hs:=yA hk hb e acc (acc++[.mk 1 t []]) he (by omega) (.inl ⟨rfl,rfl⟩) (rR acc 1 t []) (Bm t l deep wi h0)
     rw[hs];have hlen2:(acc++[Val.mk 1 t []]).length+l.length≤1000000:=by rw[List.length_append,List.length_singleton];omega
     have hll:l.length≤m:=by omega
     have hi:=ih l hll kind left wi ka kb kl hk hw hw0 58 (acc++[.mk 1 t []]) hlen2 (Or.inl rfl)
     refine gY hi fun o S q => ?_
     unfold ULoop at q ⊢
     rw[hu];cases hv:Ne.cO kind left l with
     | none=>rw[hv] at q;exact q
     | some x =>
      rw[hv] at q
      obtain⟨q1,q2,⟨e',q3⟩,q4⟩:=q;exact⟨q1,q2,⟨e',by rw[q3,List.append_assoc];rfl⟩,q4⟩
    ·rw[if_neg h0] at hu;cases left with
     | zero =>
      refine gY (AK hk hb e acc (Am t l deep wi h0 (by omega))) fun o S q => ?_
      unfold ULoop;rw[hu];exact q
     | succ n =>
      have hpos:=wL h0
      have hll:l.length≤m:=by omega
      have hlen0:([]:List Val).length+l.length≤1000000:=by rw[List.length_nil];omega
      have hw1:wi+1+(n:Int)=deep:=by omega
      have hi0:=ih l hll (Ne.opens t) n (wi+1) _ _ _ (.inner (Ne.opens t) hpos) hw1 (by omega) 0 [] hlen0 (Or.inr rfl)
      have hin:=Cm (left:=n) (.inner (Ne.opens t) hpos) hi0
      unfold UDen at hin;simp only at hu;cases hv:Ne.cO (Ne.opens t) n l with
      | none =>
       rw[hv] at hin hu;obtain⟨b,hin⟩:=hin;obtain⟨b',ho⟩:=AW t l deep wi _ _ h0 (by omega) ⟨hw0,hd⟩ hin
       refine gY (AK hk hb e acc ho) fun o S q => ?_
       unfold ULoop;rw[hu];exact q
      | some x =>
       obtain⟨vs,rest⟩:=x;rw[hv] at hin hu;have ho:=CE t l rest vs deep wi h0 (by omega) ⟨hw0,hd⟩ hin
       have hlen:=Ne.mo hv
       have hs:=yA hk hb e acc (acc++[.mk (Ne.opens t) (if Ne.opens t=5 then t else Ne.tok0) vs]) he (by omega) (.inr rfl) (rR acc (Ne.opens t) _ vs) ho
       rw[hs];simp only at hlen hu;have hlen2:(acc++[Val.mk (Ne.opens t) (if Ne.opens t=5 then t else Ne.tok0) vs]).length+rest.length≤1000000:=by rw[List.length_append,List.length_singleton];omega
       have hll:rest.length≤m:=by omega
       have hi:=ih rest hll kind (n+1) wi ka kb kl hk hw hw0 58 (acc++[.mk (Ne.opens t) (if Ne.opens t=5 then t else Ne.tok0) vs]) hlen2 (Or.inl rfl)
       refine gY hi fun o S q => ?_
       unfold ULoop at q ⊢
       rw[hu];cases hv2:Ne.cO kind (n+1) rest with
       | none=>rw[hv2] at q;exact q
       | some x =>
        rw[hv2] at q
        obtain⟨q1,q2,⟨e',q3⟩,q4⟩:=q;exact⟨q1,q2,⟨e',by rw[q3,List.append_assoc];rfl⟩,q4⟩
theorem xW (l:List Tok) (hl:l.length≤1000000) (deep:Nat) (hd:deep<1000):UDen l 0 deep deep 0 (.c .nilp) [] :=
 Cm .top (CA deep (by omega) l.length l (Nat.le_refl _) 0 deep 0 _ _ _ .top (by omega) (by omega) 0 [] (by rw[List.length_nil];omega) (.inr rfl))
end Go.Abs.NR
namespace Go.Abs
open Go Go.Proofs Go.RowKit
theorem dz {w:World} {b:Nat} {cs:Array Value} {ty:TypeId} (h:w.heap[b]? = some (.cells cs ty (0,0))) (o:Nat):w.frozen? ⟨b,o,none⟩=false:=by
 unfold World.frozen?
 rw[h];simp
theorem cK (w:World) (a:Addr) (v:Value) {b:Nat} (h:b≠a.block):(w.setCell a v).heap[b]? = w.heap[b]? := by
 simp only[World.setCell,Array.getElem?_modify]
 rw[if_neg (by omega)]
set_option maxRecDepth 100000 in
theorem nd (bp be:Nat) (older:List PanicEntry) (w:World) (x y:Value) (tp te:TypeId) (hne:bp≠be) (h1:w.heap[bp]? = some (.cells #[x] tp (0,0))) (h2:w.heap[be]? = some (.cells #[y] te (0,0))) :
  CallsD Tryz.prog 93 #[.pointer (some ⟨bp,0,none⟩),.pointer (some ⟨be,0,none⟩)] (.panicking ({ v:=.iface 130 (.agg #[]),recovered:=false }::older)) w fun e u' w' =>
   e=.returned (.tuple #[])∧u'=.panicking ({ v:=.iface 130 (.agg #[]),recovered:=true }::older) ∧
    w'=((w.alloc (.cells #[] 130)).setCell ⟨bp,0,none⟩ (.slice none 0 0)).setCell ⟨be,0,none⟩ (.int .i64 20):=by
 have hta:∀ w:World,(Instr.typeAssert (.iface 130 (.agg #[])) 20 130 true).run Tryz.prog w=.ok (.tuple #[.agg #[],.bool true]) w:=fun _=>by kernel_rfl
 have k1:(w.alloc (.cells #[] 130)).heap[bp]? = some (.cells #[x] tp (0,0)):=(aA w _ bp (Array.getElem?_eq_some_iff.1 h1).1).trans h1
 have k2:(w.alloc (.cells #[] 130)).heap[be]? = some (.cells #[y] te (0,0)):=(aA w _ be (Array.getElem?_eq_some_iff.1 h2).1).trans h2
 have k3:((w.alloc (.cells #[] 130)).setCell ⟨bp,0,none⟩ (.slice none 0 0)).heap[be]? = some (.cells #[y] te (0,0)):=(cK _ _ _ (by simpa using hne.symm)).trans k2
 have c1:(w.alloc (.cells #[] 130)).cell? ⟨bp,0,none⟩=some x:=aa k1 0
 have f1:=dz k1 0
 have c3:((w.alloc (.cells #[] 130)).setCell ⟨bp,0,none⟩ (.slice none 0 0)).cell? ⟨be,0,none⟩=some y:=aa k3 0
 have f3:=dz k3 0
 clear k1 k2 k3 h1 h2 hne;refine callsD_of_wpS Tryz.func93 rfl fun c₀ cs hu => ?_
 apply wpS_seq
 apply wpS_region
 simp[wpOpsS,go_sem,recoverD,hu,Tryz.ntmps93,Exit.thenS];refine wpS_of_wp ?_
 go_wp2
 simp[bodyPostS,results,Tryz.results93]
theorem vg (pv pe:Addr) (w:World) :
  CallsD Tryz.prog 93 #[.pointer (some pv),.pointer (some pe)] .returning w fun e u' w'=>e=.returned (.tuple #[])∧u'=.returning∧w'=w:=by
 refine callsD_of_wpS Tryz.func93 rfl fun c₀ cs hu => ?_
 apply wpS_seq
 apply wpS_region
 simp[wpOpsS,go_sem,recoverD,hu,Tryz.ntmps93,Exit.thenS];refine wpS_of_wp ?_
 go_wp2
 cases c₀
 simp_all [bodyPostS,results,Tryz.results93]
abbrev slV:Obj:=.cells #[.slice none 0 0] 22
abbrev inE:Obj:=.cells #[.int .i64 0] 27
abbrev rdO (x:Value) (deep:Int):Obj:=.cells #[x,.int .i64 deep] 134
set_option maxRecDepth 100000 in
theorem zM (x:Value) (deep:Int) (w:World) (hd:deep<1∨60<deep) :
  Calls Tryz.prog 48 #[x,.int .i64 deep] w fun e w'=>e=.returned (.tuple #[.slice none 0 0,.int .i64 1]) ∧
   w'=(w.alloc (.cells #[.slice none 0 0] 22)).alloc (.cells #[.int .i64 1] 27):=by
 have hmf:∀ (fn:Fn) (first cap:Array Value) (w:World),(Instr.makeFunc fn first cap).run Tryz.prog w=.ok (.func fn first cap) w:=fun _ _ _ _=>rfl
 go_enter_defers Tryz.func48,Tryz.ntmps48
 go_wp2
 all_goals simp[bodyPostD,Leaves,results,Tryz.results48,go_sem]
set_option maxRecDepth 100000 in
theorem qm (pa:Option Addr) (pn pc:Nat) (deep:Int) (w:World) (hd:¬ deep<1) (hd2:¬ 60<deep) (Qr:Option Addr→Nat→Nat→World→Prop) (Qp:World→Prop)
  (hu:Calls Tryz.prog 94 #[.pointer (some ⟨w.heap.size+2,0,none⟩),.pointer none,.int .i64 0] (((w.alloc slV).alloc inE).alloc (rdO (.slice pa pn pc) deep)) fun e w' =>
   w'.heap[w.heap.size]? = some slV∧w'.heap[w.heap.size+1]? = some inE∧((∃ va vn vc,e=.returned (.slice va vn vc)∧Qr va vn vc w')∨(e=.panicked [{ v:=.iface 130 (.agg #[]),recovered:=false }]∧Qp w'))) :
  Calls Tryz.prog 48 #[.slice pa pn pc,.int .i64 deep] w fun e w'' =>
   (∃ va vn vc w',Qr va vn vc w'∧e=.returned (.tuple #[.slice va vn vc,.int .i64 0])∧w''=(w'.setCell ⟨w.heap.size,0,none⟩ (.slice va vn vc)).setCell ⟨w.heap.size+1,0,none⟩ (.int .i64 0)) ∨
   (∃ w',Qp w'∧e=.returned (.tuple #[.slice none 0 0,.int .i64 20])∧w''=((w'.alloc (.cells #[] 130)).setCell ⟨w.heap.size,0,none⟩ (.slice none 0 0)).setCell ⟨w.heap.size+1,0,none⟩ (.int .i64 20)):=by
 have hmf:∀ (fn:Fn) (first cap:Array Value) (w:World),(Instr.makeFunc fn first cap).run Tryz.prog w=.ok (.func fn first cap) w:=fun _ _ _ _=>rfl
 go_enter_defers Tryz.func48,Tryz.ntmps48
 go_wp2_with (go_at_call 94;refine hu.mono ?_)
 intro e w' k1 k2 hq;have c1:w'.cell? ⟨w.heap.size,0,none⟩=some (.slice none 0 0):=aa k1 0
 have f1:=dz k1 0
 rcases hq with⟨va,vn,vc,rfl,hq⟩|⟨rfl,hq⟩
 ·have k3:(w'.setCell ⟨w.heap.size,0,none⟩ (.slice va vn vc)).heap[w.heap.size+1]? = some inE:=(cK _ _ _ (by simp)).trans k2
  have c3:(w'.setCell ⟨w.heap.size,0,none⟩ (.slice va vn vc)).cell? ⟨w.heap.size+1,0,none⟩=some (.int .i64 0):=aa k3 0
  have f3:=dz k3 0
  go_wp2
  refine leaves_cons (f:=93) (args:=#[.pointer (some ⟨w.heap.size,0,none⟩),.pointer (some ⟨w.heap.size+1,0,none⟩)]) (by simp) (by simp[go_sem]) ?_
  refine(vg _ _ _).mono ?_
  rintro e u' w'' ⟨rfl,rfl,rfl⟩
  have e1:((w'.setCell ⟨w.heap.size,0,none⟩ (.slice va vn vc)).setCell ⟨w.heap.size+1,0,none⟩ (.int .i64 0)).cell? ⟨w.heap.size,0,none⟩=some (.slice va vn vc):=by
   rw[World.cell?_setCell_other _ _ _ _ (by simp)]
   exact World.cell?_setCell_same _ _ _ c1
  have e2:((w'.setCell ⟨w.heap.size,0,none⟩ (.slice va vn vc)).setCell ⟨w.heap.size+1,0,none⟩ (.int .i64 0)).cell? ⟨w.heap.size+1,0,none⟩=some (.int .i64 0):=World.cell?_setCell_same _ _ _ c3
  refine⟨.tuple #[.slice va vn vc,.int .i64 0],?_,.inl ⟨va,vn,vc,w',hq,rfl,rfl⟩⟩
  simp[results,Tryz.results48,go_sem,e1,e2]
 ·go_wp2
  refine leaves_cons (f:=93) (args:=#[.pointer (some ⟨w.heap.size,0,none⟩),.pointer (some ⟨w.heap.size+1,0,none⟩)]) (by simp) (by simp[go_sem]) ?_
  refine(nd _ _ [] _ _ _ _ _ (by simp) k1 k2).mono ?_
  rintro e u' w'' ⟨rfl,rfl,rfl⟩
  have g1:(w'.alloc (.cells #[] 130)).heap[w.heap.size]? = some slV:=(aA w' _ _ (Array.getElem?_eq_some_iff.1 k1).1).trans k1
  have g2:(w'.alloc (.cells #[] 130)).heap[w.heap.size+1]? = some inE:=(aA w' _ _ (Array.getElem?_eq_some_iff.1 k2).1).trans k2
  have k3:((w'.alloc (.cells #[] 130)).setCell ⟨w.heap.size,0,none⟩ (.slice none 0 0)).heap[w.heap.size+1]? = some inE:=(cK _ _ _ (by simp)).trans g2
  have d1:(w'.alloc (.cells #[] 130)).cell? ⟨w.heap.size,0,none⟩=some (.slice none 0 0):=aa g1 0
  have d3:((w'.alloc (.cells #[] 130)).setCell ⟨w.heap.size,0,none⟩ (.slice none 0 0)).cell? ⟨w.heap.size+1,0,none⟩=some (.int .i64 0):=aa k3 0
  have e1:(((w'.alloc (.cells #[] 130)).setCell ⟨w.heap.size,0,none⟩ (.slice none 0 0)).setCell ⟨w.heap.size+1,0,none⟩ (.int .i64 20)).cell? ⟨w.heap.size,0,none⟩=some (.slice none 0 0):=by
   rw[World.cell?_setCell_other _ _ _ _ (by simp)]
   exact World.cell?_setCell_same _ _ _ d1
  have e2:(((w'.alloc (.cells #[] 130)).setCell ⟨w.heap.size,0,none⟩ (.slice none 0 0)).setCell ⟨w.heap.size+1,0,none⟩ (.int .i64 20)).cell? ⟨w.heap.size+1,0,none⟩=some (.int .i64 20):=World.cell?_setCell_same _ _ _ d3
  refine⟨.tuple #[.slice none 0 0,.int .i64 20],?_,.inr ⟨w',hq,rfl,rfl⟩⟩
  simp[results,Tryz.results48,go_sem,e1,e2]
end Go.Abs
namespace Go.Abs
open Go Go.Proofs Go.RowKit
open NR (rm prN)
def yH (P:Program) (f:Nat):Bool :=
 match P.funcs[f]? with
 | some fn => fn.name != "runtime.NumGoroutine" && (match fn.body with | some c => dw (fun _ => false) c | none => false)
 | none=>false
theorem xN:rm.all (yH Tryz.prog)=true:=by kernel_rfl
theorem BZ:Prog NR.KN:=by
 refine⟨by kernel_rfl,fun g hg => ?_,fun f F args bxs x _ hF hx => ?_,fun f F args bxs r call _ hF=>by cases hF⟩
 ·have h1:g∈rm:=by simpa[NR.KN] using hg
  have h2:=List.all_eq_true.1 xN g h1
  unfold yH at h2;split at h2
  ·rename_i fn hfn;simp only[Bool.and_eq_true] at h2;obtain⟨h3,h4⟩:=h2;split at h4
   ·rename_i c hc;exact⟨fn,c,hfn,by simpa using h3,hc,h4⟩
   ·cases h4
  ·cases h2
 ·have h2:prN f=some F:=hF
  unfold prN at h2;split at h2
  ·rename_i hf;cases h2;obtain rfl:f=132:=by simpa using hf
   exact qd hx
  ·split at h2
   ·rename_i hf;cases h2;obtain rfl:f=208:=by simpa using hf
    exact xO hx
   ·cases h2
def decT:List PV→Option Tok
 | [.int .i64 k,.str s,.int .i64 n]=>some ⟨k,s,n⟩
 | _=>none
def qf:List (List PV)→Option (List Tok)
 | []=>some []
 | c::l=>match decT c,qf l with
  | some t,some m=>some (t::m)
  | _,_=>none
theorem vF:∀ l:List Tok,qf (l.map Tok.enc)=some l
 | []=>rfl
 | t::l=>by
  rw[List.map_cons,qf,vF l];rfl
theorem ze {c:List PV} {t:Tok} (h:decT c=some t):c=t.enc:=by
 unfold decT at h;split at h
 ·cases h;rfl
 ·cases h
theorem vt:∀ {c:List (List PV)} {l:List Tok},qf c=some l→c=l.map Tok.enc
 | [],l,h=>by cases h;rfl
 | c::cs,l,h=>by
  unfold qf at h;split at h
  ·rename_i t m h1 h2;cases h;rw[List.map_cons,←ze h1,←vt h2]
  ·cases h
def iH (deep:Int) (l:List Tok):AV :=
 if deep<1∨60<deep then .tup [.c (.pv (.sl [])),.c (.pv (.int .i64 1))]
 else match Ne.cO 0 deep.toNat l with
  | some x=>.tup [.c (.pv (.sl (encL x.1))),.c (.pv (.int .i64 0))]
  | none=>.tup [.c (.pv (.sl [])),.c (.pv (.int .i64 20))]
def oz:Prim
 | [.c (.pv (.sl c)),.c (.pv (.int .i64 deep))],[]=>(match qf c with
  | some l=>if l.length≤1000000 then some (iH deep l,[]) else none
  | none=>none)
 | [.c .nils,.c (.pv (.int .i64 deep))],[]=>some (iH deep [],[])
 | _,_=>none
section
variable {G G2:Gh} {w w' w'':World}
theorem qa {x:Value} {deep:Int} (hw:WI G w) (hb0:∀ s,G.bb s=none) (hx:Ext (G.box LK (w.heap.size+2)) (((w.alloc slV).alloc inE).alloc (rdO x deep)) G2 w') (hw2:WI G2 w')
  (hs:w'.heap.size≤w''.heap.size) (ho:w''.os=w'.os) (hp:w''.output=w'.output) (ht:w''.tape=w'.tape) (hh:∀ b,b<w'.heap.size→b≠w.heap.size→b≠w.heap.size+1→w''.heap[b]? = w'.heap[b]?) :
  Ext G w { G2 with bb:=G.bb } w''∧WI { G2 with bb:=G.bb } w'':=by
 have hsz:(((w.alloc slV).alloc inE).alloc (rdO x deep)).heap.size=w.heap.size+3:=by rw[am,am,am]
 have hold:∀ b,b<w.heap.size→(((w.alloc slV).alloc inE).alloc (rdO x deep)).heap[b]? = w.heap[b]? := fun b hb=>by
  rw[aA _ _ _ (by rw[am,am];omega),aA _ _ _ (by rw[am];omega),aA _ _ _ hb]
 have how:∀ b,b≠w.heap.size+2→(G.box LK (w.heap.size+2)).ow b=G.ow b:=fun b hb=>by
  show upd G.ow (w.heap.size+2) _ b=_
  unfold upd;rw[if_neg hb]
 have hnI:∀ b,w.heap.size≤b→b<w.heap.size+2→∀ o,G2.I b o=none:=fun b h1 h2 o=>by
  have h3:=hx.old b (by rw[hsz];omega) ((how b (by omega)).trans (hw.fresh b h1).2)
  exact(h3.2.2 o).trans ((hw.fresh b h1).1 o)
 have hold2:∀ b,b<w.heap.size→G.ow b=none→G2.ow b=none∧w''.heap[b]? = w.heap[b]? ∧ ∀ o,G2.I b o=G.I b o:=fun b hb hn=>by
  have h3:=hx.old b (by rw[hsz];omega) ((how b (by omega)).trans hn)
  have:=hx.size
  rw[hsz] at this
  exact⟨h3.1,(hh b (by omega) (by omega) (by omega)).trans (h3.2.1.trans (hold b hb)),h3.2.2⟩
 have hsize:=hx.size
 rw[hsz] at hsize;refine⟨⟨hx.I,hold2,by omega,ho.trans hx.os,hp.trans hx.output,ht.trans hx.tape,fun _ _=>rfl⟩,⟨fun b o y h => ?_,fun b hb=>hw2.fresh b (by omega),hw2.boxI,fun s b hb=>absurd (show G.bb s=some b from hb) (by rw[hb0];simp),hw.tab.map fun b hb hn=>⟨(hold2 b hb hn).1,(hold2 b hb hn).2.1⟩⟩⟩
 have h1:G2.I b o=some y:=h
 have hlt:=I_lt hw2 h1
 have e:w''.heap[b]? = w'.heap[b]? := hh b hlt (fun e=>by rw[e,hnI _ (Nat.le_refl _) (by omega)] at h1;cases h1) (fun e=>by rw[e,hnI _ (by omega) (by omega)] at h1;cases h1)
 have:=hw2.cell b o y h1
 unfold World.cell? at this ⊢
 rw[e];exact this
theorem Ag {o:Obj} (hw:WI G w) {k:Nat} (hk:G.bb k=none):WI (G.box k w.heap.size) (w.alloc o):=by
 refine⟨fun b o y hI => ?_,fun b hb => ?_,fun b s hb o => ?_,fun s b hb => ?_,hw.tab.map fun c hc ho=>⟨?_,aA w _ c hc⟩⟩
 ·rw[dH w _ (I_lt hw hI)];exact hw.cell b o y hI
 ·rw[am] at hb;refine⟨(hw.fresh b (by omega)).1,?_⟩
  show upd G.ow w.heap.size _ b=none
  unfold upd;rw[if_neg (by omega)];exact(hw.fresh b (by omega)).2
 ·have hb':upd G.ow w.heap.size (some (.box k)) b=some (.box s):=hb
  unfold upd at hb';split at hb'
  ·rename_i he;subst he;exact(hw.fresh _ (Nat.le_refl _)).1 o
  ·exact hw.boxI b s hb' o
 ·have hb':upd G.bb k (some w.heap.size) s=some b:=hb
  show upd G.ow w.heap.size _ b=_
  unfold upd at hb' ⊢;split at hb'
  ·rename_i he;subst he;cases hb';rw[if_pos rfl]
  ·have h1:=hw.bbow s b hb'
   have h2:=dU hw h1
   rw[if_neg (by omega)];exact h1
 ·show upd G.ow w.heap.size _ c=none
  unfold upd;rw[if_neg (by omega)];exact ho
end
theorem sA (w:World) (a b:Addr) (v v':Value) (k:Nat) (h1:k≠a.block) (h2:k≠b.block):((w.setCell a v).setCell b v').heap[k]? = w.heap[k]? := by
 rw[cK _ _ _ h2,cK _ _ _ h1]
theorem gf (w:World) (a:Addr) (v:Value):(w.setCell a v).heap.size=w.heap.size:=by
 simp[World.setCell]
theorem sQ {l:List Tok} {deep:Int} {v:AV} (hlen:l.length≤1000000) (hv:∀ {G:Gh} {w:World} {x:Value},RA G w .ret v x→RP G.I (.sl (l.map Tok.enc)) x) :
  Contract Tryz.prog 48 [v,.c (.pv (.int .i64 deep))] [] (.ret (iH deep l) []):=by
 intro G w cargs hw hargs _ _ hbb;have hb0:∀ s,G.bb s=none:=fun s=>by
  cases e:G.bb s with
  | none=>rfl
  | some b=>obtain⟨i,hi,_⟩:=hbb s b e;simp at hi
 obtain⟨x,y,rfl,hx,hy⟩:=dF hargs;cases hy.intv;have hxp:RP G.I (.sl (l.map Tok.enc)) x:=hv hx
 obtain⟨pa,pc,rfl,_,_⟩:=hxp.slice_inv;unfold iH;by_cases hd:deep<1∨60<deep
 ·rw[if_pos hd];refine(zM _ deep w hd).mono ?_
  rintro e w' ⟨rfl,rfl⟩
  obtain⟨g,hw'⟩:=fl (w':=(w.alloc (.cells #[.slice none 0 0] 22)).alloc (.cells #[.int .i64 1] 27)) hw (((Below.refl _ _).alloc (Nat.le_refl _) _).alloc (by simp) _)
  exact⟨G,g.ext,hw',_,rfl,⟨[_,_],rfl,.cons (.sl0 _ _) (.cons (.int _ _) .nil)⟩,rfl,fun i l h=>by simp at h⟩
 ·rw[if_neg hd];have hd1:¬ deep<1:=fun h=>hd (.inl h)
  have hd2:¬ 60<deep:=fun h=>hd (.inr h)
  obtain⟨d,rfl⟩:∃ d:Nat,deep=d:=⟨deep.toNat,by omega⟩
  rw[Int.toNat_natCast];have hu:=NR.xW l hlen d (by omega)
  unfold NR.UDen at hu;obtain⟨g1,hw1⟩:=fl (w':=(w.alloc slV).alloc inE) hw (((Below.refl _ _).alloc (Nat.le_refl _) _).alloc (by simp) _)
  have hn1:((w.alloc slV).alloc inE).heap.size=w.heap.size+2:=by rw[am,am]
  have hw3:WI (G.box LK (w.heap.size+2)) (((w.alloc slV).alloc inE).alloc (rdO (.slice pa (l.map Tok.enc).length pc) d)):=by
   have:=Ag (o:=rdO (.slice pa (l.map Tok.enc).length pc) d) hw1 (hb0 LK)
   rw[hn1] at this
   exact this
  have hnew:(((w.alloc slV).alloc inE).alloc (rdO (.slice pa (l.map Tok.enc).length pc) d)).heap[w.heap.size+2]? = some (rdO (.slice pa (l.map Tok.enc).length pc) d):=by
   have:=heap_alloc_new ((w.alloc slV).alloc inE) (rdO (.slice pa (l.map Tok.enc).length pc) d)
   rw[hn1] at this
   exact this
  have hbbk:(G.box LK (w.heap.size+2)).bb LK=some (w.heap.size+2):=by simp[Gh.box,upd]
  have hcall:∀ r,den NR.KN 94 [.c (.loc 100000 0),.c .nilp,.c (.pv (.int .i64 0))] [NR.rdr l d]=some r →
    Calls Tryz.prog 94 #[.pointer (some ⟨w.heap.size+2,0,none⟩),.pointer none,.int .i64 0] (((w.alloc slV).alloc inE).alloc (rdO (.slice pa (l.map Tok.enc).length pc) d)) fun e w' =>
     ∃ G2,Ext (G.box LK (w.heap.size+2)) (((w.alloc slV).alloc inE).alloc (rdO (.slice pa (l.map Tok.enc).length pc) d)) G2 w'∧WI G2 w'∧REnd 1 G2 w' e r:=fun r hr=>by
   refine ou BZ NR.pj hr _ _ [.pointer (some ⟨w.heap.size+2,0,none⟩),.pointer none,.int .i64 0] hw3 ?_ ?_ ?_ ?_
   ·exact .cons ⟨w.heap.size+2,hbbk,rfl⟩ (.cons rfl (.cons (.int _ _) .nil))
   ·intro v hv;simp only[List.mem_cons,List.not_mem_nil,or_false] at hv;rcases hv with rfl|rfl|rfl<;>rfl
   ·intro i b hi;cases i with
    | succ i=>simp at hi
    | zero =>
     simp only[List.getElem?_cons_zero,Option.some.injEq] at hi
     subst hi;refine⟨w.heap.size+2,_,_,hbbk,hnew,⟨rfl,fun e=>by simp at e⟩,fun k v hk => ?_⟩
     match k with
     | 0 =>
      simp only[List.getElem?_cons_zero,Option.some.injEq] at hk
      subst hk;exact⟨_,rfl,hxp⟩
     | 1 =>
      simp only[List.getElem?_cons_succ,List.getElem?_cons_zero,Option.some.injEq] at hk
      subst hk;exact⟨_,rfl,.int _ _⟩
     | k+2=>simp at hk
   ·intro s b hs;have hs':upd G.bb LK (some (w.heap.size+2)) s=some b:=hs
    unfold upd at hs';split at hs'
    ·rename_i he;exact⟨0,by simp,by omega⟩
    ·rw[hb0] at hs';cases hs'
  have hheap:∀ {G2:Gh} {w':World},Ext (G.box LK (w.heap.size+2)) (((w.alloc slV).alloc inE).alloc (rdO (.slice pa (l.map Tok.enc).length pc) d)) G2 w' →
    w'.heap[w.heap.size]? = some slV∧w'.heap[w.heap.size+1]? = some inE:=fun {G2 w'} hx2=>by
   have how:∀ b,w.heap.size≤b→b≠w.heap.size+2→(G.box LK (w.heap.size+2)).ow b=none:=fun b h1 h2=>by
    show upd G.ow (w.heap.size+2) _ b=_
    unfold upd;rw[if_neg h2];exact(hw.fresh b h1).2
   constructor
   ·rw[(hx2.old w.heap.size (by rw[am,hn1];omega) (how _ (Nat.le_refl _) (by omega))).2.1,aA _ _ _ (by rw[hn1];omega),aA _ _ _ (by rw[am];omega)]
    exact heap_alloc_new w _
   ·rw[(hx2.old (w.heap.size+1) (by rw[am,hn1];omega) (how _ (by omega) (by omega))).2.1,aA _ _ _ (by rw[hn1];omega)]
    have:=heap_alloc_new (w.alloc slV) inE
    rw[am] at this
    exact this
  cases hv:Ne.cO 0 d l with
  | some x =>
   rw[hv] at hu;refine(qm pa _ pc d w hd1 hd2 (fun va vn vc w'=>∃ G2,Ext (G.box LK (w.heap.size+2)) (((w.alloc slV).alloc inE).alloc (rdO (.slice pa (l.map Tok.enc).length pc) d)) G2 w'∧WI G2 w'∧RP G2.I (.sl (encL x.1)) (.slice va vn vc)) (fun _=>False) ?_).mono ?_
   ·refine(hcall _ hu).mono ?_
    rintro e w' ⟨G2,hx2,hw2,v,rfl,hr,_,_⟩
    have hr':RP G2.I (.sl (encL x.1)) v:=hr
    obtain⟨va,vc,rfl,_,_⟩:=hr'.slice_inv;exact⟨(hheap hx2).1,(hheap hx2).2,.inl ⟨va,_,vc,rfl,G2,hx2,hw2,hr'⟩⟩
   ·rintro e w'' (⟨va,vn,vc,w',⟨G2,hx2,hw2,hr⟩,rfl,rfl⟩|⟨w',hf,_⟩)
    ·obtain⟨k1,k2⟩:=qa (w'':=(w'.setCell ⟨w.heap.size,0,none⟩ (.slice va vn vc)).setCell ⟨w.heap.size+1,0,none⟩ (.int .i64 0)) hw hb0 hx2 hw2 (by rw[gf,gf];exact Nat.le_refl _) rfl rfl rfl (fun b _ h1 h2=>sA w' _ _ _ _ b h1 h2)
     exact⟨_,k1,k2,_,rfl,⟨[_,_],rfl,.cons hr (.cons (.int _ _) .nil)⟩,rfl,fun i l h=>by simp at h⟩
    ·exact hf.elim
  | none =>
   rw[hv] at hu;obtain⟨b1,hu⟩:=hu;refine(qm pa _ pc d w hd1 hd2 (fun _ _ _ _=>False) (fun w'=>∃ G2,Ext (G.box LK (w.heap.size+2)) (((w.alloc slV).alloc inE).alloc (rdO (.slice pa (l.map Tok.enc).length pc) d)) G2 w'∧WI G2 w') ?_).mono ?_
   ·refine(hcall _ hu).mono ?_
    rintro e w' ⟨G2,hx2,hw2,v,rfl,hr,_,_⟩
    have hr':RP G2.I (.ifa 130 []) v:=hr
    cases hr'
    exact⟨(hheap hx2).1,(hheap hx2).2,.inr ⟨rfl,G2,hx2,hw2⟩⟩
   ·rintro e w'' (⟨va,vn,vc,w',hf,_⟩|⟨w',⟨G2,hx2,hw2⟩,rfl,rfl⟩)
    ·exact hf.elim
    ·obtain⟨k1,k2⟩:=qa (w'':=((w'.alloc (.cells #[] 130)).setCell ⟨w.heap.size,0,none⟩ (.slice none 0 0)).setCell ⟨w.heap.size+1,0,none⟩ (.int .i64 20)) hw hb0 hx2 hw2 (by rw[gf,gf,am];omega) rfl rfl rfl (fun b hb h1 h2=>by rw[sA _ _ _ _ _ b h1 h2,aA _ _ _ hb])
     exact⟨_,k1,k2,_,rfl,⟨[_,_],rfl,.cons (.sl0 _ _) (.cons (.int _ _) .nil)⟩,rfl,fun i l h=>by simp at h⟩
theorem wv {args:List AV} {bxs:List (List CV)} {x:AV×List (List CV)} (h:oz args bxs=some x):Contract Tryz.prog 48 args bxs (.ret x.1 x.2):=by
 unfold oz at h;split at h
 ·rename_i c deep;split at h
  case h_2=>cases h
  rename_i l hdec;split at h
  case isFalse=>cases h
  rename_i hlen;cases h;obtain rfl:=vt hdec;exact sQ hlen (fun hx=>hx)
 ·cases h
  refine sQ (l:=[]) (by simp) (fun hx => ?_)
  cases hx
  exact .sl0 _ _
 ·cases h
end Go.Abs
namespace Go.Abs
open Go Go.Proofs
set_option maxRecDepth 10000
attribute [local go_sem] cG cj bF bH cF cf ce ay aV aR bw bU bg opd avOf cvOf St.degAt St.put okPV dr okAV cQ cR cP cv aj if_true Bool.false_eq_true if_false Option.map_some Option.map_none Option.bind_some Option.bind_none du dh upd List.toList_toArray bC steal aH mvB cX cw bR AV.deg CV.deg AV.gv AV.isIter co cg bG List.length_nil List.length_cons List.filterMap_cons List.filterMap_nil beq_iff_eq List.getElem?_cons_zero List.getElem?_cons_succ Option.getD_some Bool.false_and Bool.and_false Bool.and_self bv bO aJ lend back idx dedup AV.ren CV.ren TV.ren AV.ptrs CV.ptrs ck AV.flat CV.flat bL bu az bV cz dK bD ar bK aQ bd bt aP dV CV.pv? content aN ownT aD reps pvs chunks aZ leave dT bW cN bf aK TV.deg TV.av LK CV.plain CV.noBld cq dS bound List.map_cons List.map_nil List.all_cons List.all_nil List.any_cons List.any_nil List.contains_cons List.contains_nil List.elem_cons List.elem_nil List.cons_append List.nil_append List.append_nil List.flatMap_cons List.flatMap_nil List.zip_cons_cons List.zip_nil_left List.zip_nil_right List.take_succ_cons List.take_zero List.take_nil List.drop_succ_cons List.drop_zero List.drop_nil List.isEmpty_nil List.isEmpty_cons Bool.and_true Bool.true_and Bool.or_true Bool.true_or Bool.or_false Bool.false_or Bool.not_true Bool.not_false Nat.add_zero Nat.zero_add Option.isNone_none Option.isNone_some Option.getD_none true_and and_true not_true_eq_false not_false_eq_true decide_true decide_false Nat.le_refl and_self Bool.not_eq_true Nat.sub_self or_true true_or Option.some.injEq List.length_map List.nil_eq and_false false_and AV.live CV.live CV.liveIn ax Option.orElse_some Option.orElse_none head aI aF Int.lt_irrefl List.length_append ite_self dt br bZ aY Key.clash Key.sees Key.writes Nat.lt_irrefl gt_iff_lt ci dp false_or or_false beq_self_eq_true Bool.true_beq Bool.false_beq
theorem rj (s:ByteArray) (pos:Nat) (h:pos<s.size):pos+(Utf8.decode s pos).2≤s.size:=by
 simp only[Utf8.decode]
 repeat' split
 all_goals simp_all
 all_goals omega
theorem qK (s:ByteArray) (pos:Nat) (h:pos<s.size) (ha:128≤(s[pos]'h).toNat):∀ j,pos≤j→j<pos+(Utf8.decode s pos).2→128≤(s.get! j).toNat:=by
 have hn:¬ (s[pos]'h).toNat<128:=by omega
 have h0:128≤(s.get! pos).toNat:=by have:=get_at s pos h;rw[Nat.add_zero] at this;rw[this];exact ha
 intro j h1 h2;obtain⟨k,rfl⟩:∃ k,j=pos+k:=⟨j - pos,by omega⟩
 have h3:k<(Utf8.decode s pos).2:=by omega
 clear h1 h2;simp only[Utf8.decode,get_at s pos h,hn,if_false] at h3;have key:k=0∨k=1∧(s.get! (pos+1)).toNat / 64=2∨k=2∧(s.get! (pos+2)).toNat / 64=2∨k=3∧(s.get! (pos+3)).toNat / 64=2:=by
  revert h3
  repeat' split
  all_goals simp_all
  all_goals omega
 rcases key with rfl|⟨rfl,e⟩|⟨rfl,e⟩|⟨rfl,e⟩
 ·exact h0
 all_goals omega
theorem qu (s:List UInt8) (pos:Nat) (h:pos<s.length):∃ (r wd:Nat),Utf8.decode ⟨s.toArray⟩ pos=(r,wd)∧1≤wd∧pos+wd≤s.length∧r≤2147483647 ∧
  ((r<128∧wd=1∧∃ b,s[pos]? = some b∧b.toNat=r)∨(128≤r∧∀ j b,pos≤j→j<pos+wd→s[j]? = some b→128≤b.toNat)):=by
 have hs:(⟨s.toArray⟩:ByteArray).size=s.length:=by simp[ByteArray.size]
 have hp:pos<(⟨s.toArray⟩:ByteArray).size:=by rw[hs];exact h
 have hb:s[pos]? = some ((⟨s.toArray⟩:ByteArray)[pos]'hp):=by
  rw[List.getElem?_eq_getElem h];rfl
 have hw:=rj ⟨s.toArray⟩ pos hp
 have hle:=decode_le ⟨s.toArray⟩ pos
 rw[hs] at hw;by_cases hc:((⟨s.toArray⟩:ByteArray)[pos]'hp).toNat<128
 ·have e:=decode_ascii ⟨s.toArray⟩ pos hp hc
  refine⟨_,_,e,Nat.le_refl _,by omega,by omega,.inl ⟨hc,rfl,_,hb,rfl⟩⟩
 ·have e:=decode_high ⟨s.toArray⟩ pos hp (by omega)
  refine⟨_,_,rfl,e.2,hw,hle,.inr ⟨e.1,fun j b h1 h2 hj => ?_⟩⟩
  have h3:=qK ⟨s.toArray⟩ pos hp (by omega) j h1 h2
  have h4:(⟨s.toArray⟩:ByteArray).get! j=b:=by
   have hlt:j<s.length:=(List.getElem?_eq_some_iff.1 hj).1
   have:=get_at ⟨s.toArray⟩ j (by rw[hs];exact hlt)
   rw[Nat.add_zero] at this
   rw[this];rw[List.getElem?_eq_getElem hlt] at hj
   exact Option.some.inj hj
  rw[h4] at h3;exact h3
theorem vr {s chars:List UInt8} {i j:Nat} (h:Lib.NoAny s chars i) (h2:∀ k b,i≤k→k<j→s[k]? = some b→chars.contains b=false):Lib.NoAny s chars j:=fun k b hk hb=>by
 by_cases hki:k<i
 ·exact h k b hki hb
 ·exact h2 k b (by omega) hk hb
def eU (r:Nat):Code→Option Code
 | .loop a=>bif Nat.beq ((ax a).getD 0) r then some a else eU r a
 | .seq a b=>(eU r a).orElse fun _=>eU r b
 | .cond _ a b=>(eU r a).orElse fun _=>eU r b
 | .block _ a=>eU r a
 | .scope a=>eU r a
 | _=>none
def lq (fn:Func) (r:Nat):Code:=((fn.body.bind (eU r))).getD .skip
abbrev anyH (s:List UInt8) (i:Nat):St := { sl:=upd (upd bot 45 (.c (.iter s i))) 1 (.c (.pv (.str eN))),bx:=nobox,nt:=55 }
theorem yE {b:UInt8} (h:128≤b.toNat):eN.contains b=false:=by
 cases hc:eN.contains b
 ·rfl
 ·have:b∈eN:=by simpa using hc
  have:b=10∨b=12∨b=13:=by simpa[eN] using this
  rcases this with rfl|rfl|rfl<;>exact absurd h (by decide)
theorem xI (s:List UInt8) (h8:s.length≤8):∀ (k i:Nat) (S:St),s.length - i≤k→i≤s.length→head ([1,45],[]) S=anyH s i→Lib.NoAny s eN i →
  Ends (exL K0 252 (.loop (lq Tryz.f252 18)) S) fun o S=>(o=.ret∧S.sl 4=.c (.pv (.int .i64 (Lib.indexAny s eN)))∨Lib.indexAny s eN = -1∧o=.exit 2)∧S.nt=55:=by
 intro k
 induction k with
 | zero =>
  intro i S hk hi hS hno;obtain rfl:i=s.length:=by omega
  have e:=Lib.indexAny_none hno
  conv in lq _ _=>whnf
  rw[aB];simp only[ax,Option.orElse_some,Option.getD_some,jP,mw,hS];simp only[go_sem,reduceLT,reduceCtorEq,reduceEqDiff,Nat.reduceBEq,reduceAdd,region0,aX,e]
 | succ k ih =>
  intro i S hk hi hS hno;by_cases hlt:i<s.length
  case neg=>exact ih i S (by omega) hi hS hno
  obtain⟨r,wd,hd,hw1,hw2,hr,hcase⟩:=qu s i hlt;have hit:fM s i=i+wd:=by unfold fM;rw[hd]
  have hr0:(0:Int)≤(r:Int)∧(r:Int)≤2147483647:=by omega
  have hru:=xx (r:Int) hr0
  obtain⟨v,hv⟩:∃ v,(if (r:Int)<128 then Lib.indexByte eN (r:Int).toNat.toUInt8 else -1)=v:=⟨_,rfl⟩
  rw[hv] at hru;have ih':=ih (i+wd)
  conv at ih' in lq _ _=>whnf
  conv in lq _ _=>whnf
  rw[aB];simp only[ax,Option.orElse_some,Option.getD_some,jP,mw,hS];cases hdec:decide (0≤v)
  ·have hno':Lib.NoAny s eN (i+wd):=by
    refine vr hno fun j b h1 h2 hj => ?_
    rcases hcase with⟨hr1,rfl,b',hb',hbr⟩|⟨hr1,hall⟩
    ·obtain rfl:j=i:=by omega
     rw[hj] at hb';cases hb';rw[if_pos (by omega)] at hv
     have hback:((r:Int)).toNat.toUInt8=b:=by rw[←hbr];simp
     rw[hback] at hv;rw[Lib.contains_iff_indexByte,hv,hdec]
    ·exact yE (hall j b h1 h2 hj)
   simp only[go_sem,reduceLT,reduceEqDiff,Nat.reduceBEq,reduceAdd,region0,gP,tT,hlt,hd,hit,hru,hdec];refine ih' _ (by omega) hw2 ?_ hno'
   rfl
  ·have hgo:Lib.indexAny s eN=(i:Int):=by
    rcases hcase with⟨hr1,rfl,b',hb',hbr⟩|⟨hr1,hall⟩
    ·rw[if_pos (by omega)] at hv
     have hback:((r:Int)).toNat.toUInt8=b':=by rw[←hbr];simp
     rw[hback] at hv;exact Lib.indexAny_hit hno hb' (by rw[Lib.contains_iff_indexByte,hv,hdec])
    ·rw[if_neg (by omega)] at hv
     rw[←hv] at hdec;cases hdec
   simp only[go_sem,reduceLT,reduceCtorEq,reduceEqDiff,Nat.reduceBEq,reduceAdd,region0,gP,tT,hlt,hd,hit,hru,hdec,aX,hgo]
theorem yb (s:List UInt8) (h8:s.length≤8):den K0 252 [.c (.pv (.str s)),.c (.pv (.str eN))] []=some (.ret (.c (.pv (.int .i64 (Lib.indexAny s eN)))) []):=by
 have hr:Tryz.f252.results=#[.tmp 4]:=rfl
 have hu:=zR (s.length:Int)
 have h8d:decide ((8:Int)<(s.length:Int))=false:=decide_eq_false (by omega)
 rw[h8d] at hu;have hloop:=xI s h8 s.length 0
 conv at hloop in lq _ _=>whnf
 refine jm rfl Tryz.func252 rfl Tryz.ntmps252 ⟨by simp,by simp[LK]⟩ ?_
 have e0:(eN==[])=false:=by decide
 have e1:(((3:Nat):Int)==1)=false:=by decide
 simp only[go_sem,reduceLT,reduceCtorEq,reduceEqDiff,Nat.reduceBEq,reduceAdd,region0,gP,K0_P,yC,hr,hu,cy gp,gu gp,e0,e1];obtain⟨o,S',e,hq,hn⟩:=hloop (anyH s 0) (by omega) (Nat.zero_le _) rfl (Lib.NoAny.zero _ _)
 rw[aB] at e ⊢
 simp only[ax,Option.orElse_some,Option.getD_some,jP,mw] at e ⊢
 rw[show head ([1,45],[]) (anyH s 0)=anyH s 0 from rfl] at e
 simp only[head,aI,aF,upd,AV.live,CV.live,reduceIte,reduceEqDiff];erw [e];rcases hq with⟨rfl,hv⟩|⟨hv,rfl⟩
 ·simp only[go_sem,hv]
 ·simp only[go_sem,reduceLT,region0,hv,hn]
end Go.Abs
namespace Go.Abs
open Go Go.Proofs Go.RowKit
def ip:Prim
 | [.c (.pv (.str s)),.c (.pv (.str p))],[]=>if p=[10,12,13]∧s.length<4294967281 then some (.c (.pv (.int .i64 (Lib.indexAny s p))),[]) else none
 | _,_=>none
def yB (P:Program) (f:Nat):Bool :=
 match P.funcs[f]? with
 | some fn => fn.name != "runtime.NumGoroutine" && (match fn.body with | some c => dw (fun _ => false) c | none => false)
 | none=>false
theorem xY:[252,286,285,313,155].all (yB Tryz.prog)=true:=by kernel_rfl
theorem Ba:Prog K0:=by
 refine⟨by kernel_rfl,fun g hg => ?_,fun f F args bxs x _ hF hx => ?_,fun f F args bxs r call _ hF=>by cases hF⟩
 ·have h1:g∈[252,286,285,313,155]:=by simpa[K0] using hg
  have h2:=List.all_eq_true.1 xY g h1
  unfold yB at h2;split at h2
  ·rename_i fn hfn;simp only[Bool.and_eq_true] at h2;obtain⟨h3,h4⟩:=h2;split at h4
   ·rename_i c hc;exact⟨fn,c,hfn,by simpa using h3,hc,h4⟩
   ·cases h4
  ·cases h2
 ·have h2:pr0 f=some F:=hF
  unfold pr0 at h2;split at h2
  ·rename_i hf;cases h2;have:f=155:=by simpa using hf
   subst this;exact kg hx
  ·cases h2
theorem h116:(Tryz.prog.info? 289).map (fun i=>(i.zero,i.size))=some (some (.agg (Array.replicate 256 (.bool false))),256):=by kernel_rfl
theorem rN {args:List AV} {bxs:List (List CV)} {x:AV×List (List CV)} (h:ip args bxs=some x):Contract Tryz.prog 252 args bxs (.ret x.1 x.2):=by
 unfold ip at h;split at h
 case h_2=>cases h
 rename_i s p;split at h
 case isFalse=>cases h
 rename_i hs;cases h;obtain⟨rfl,hs⟩:=hs;by_cases h8:s.length≤8
 ·exact ou Ba (by rfl) (yb s h8)
 ·refine bq fun G w cargs hw hargs => ?_
  obtain⟨x,y,rfl,hx,hy⟩:=dF hargs;cases hx.strv;cases hy.strv;have hsz:(⟨s.toArray⟩:ByteArray).size=s.length:=by simp[ByteArray.size]
  refine(Tryz.strings_IndexAny_long (zero_of_info h116).1 ⟨s.toArray⟩ ⟨([10,12,13]:List UInt8).toArray⟩ w (by decide) (by rw[hsz];omega) (by rw[hsz];exact hs) (by decide) ?_).mono ?_
  ·intro j b hb;have:b∈([10,12,13]:List UInt8):=List.mem_of_getElem? hb
   have:b=10∨b=12∨b=13:=by simpa using this
   rcases this with rfl|rfl|rfl<;>decide
  ·rintro e w' ⟨rfl,rfl⟩
   exact⟨_,rfl,.int _ _,((Below.refl _ _).alloc (Nat.le_refl _) _).alloc (by simp) _⟩
end Go.Abs
namespace Go.Abs
open Go Go.Proofs Go.RowKit
set_option maxRecDepth 100000 in
theorem jd (be:Nat) (older:List PanicEntry) (w:World) (y:Value) (te:TypeId) (h2:w.heap[be]? = some (.cells #[y] te (0,0))) :
  CallsD Tryz.prog 253 #[.pointer (some ⟨be,0,none⟩)] (.panicking ({ v:=.iface 263 (.agg #[]),recovered:=false }::older)) w fun e u' w' =>
   e=.returned (.tuple #[])∧u'=.panicking ({ v:=.iface 263 (.agg #[]),recovered:=true }::older) ∧
    w'=(w.alloc (.cells #[] 263)).setCell ⟨be,0,none⟩ (.int .i64 40):=by
 have hta:∀ w:World,(Instr.typeAssert (.iface 263 (.agg #[])) 20 263 true).run Tryz.prog w=.ok (.tuple #[.agg #[],.bool true]) w:=fun _=>by kernel_rfl
 have k2:(w.alloc (.cells #[] 263)).heap[be]? = some (.cells #[y] te (0,0)):=(aA w _ be (Array.getElem?_eq_some_iff.1 h2).1).trans h2
 have c3:(w.alloc (.cells #[] 263)).cell? ⟨be,0,none⟩=some y:=aa k2 0
 have f3:=dz k2 0
 clear k2 h2;refine callsD_of_wpS Tryz.func253 rfl fun c₀ cs hu => ?_
 apply wpS_seq
 apply wpS_region
 simp[wpOpsS,go_sem,recoverD,hu,Tryz.ntmps253,Exit.thenS];refine wpS_of_wp ?_
 go_wp2
 simp[bodyPostS,results,Tryz.results253]
theorem uD (pe:Addr) (w:World) :
  CallsD Tryz.prog 253 #[.pointer (some pe)] .returning w fun e u' w'=>e=.returned (.tuple #[])∧u'=.returning∧w'=w:=by
 refine callsD_of_wpS Tryz.func253 rfl fun c₀ cs hu => ?_
 apply wpS_seq
 apply wpS_region
 simp[wpOpsS,go_sem,recoverD,hu,Tryz.ntmps253,Exit.thenS];refine wpS_of_wp ?_
 go_wp2
 cases c₀
 simp_all [bodyPostS,results,Tryz.results253]
abbrev zS:Value:=.iface 263 (.agg #[])
theorem ql (b:Bool) (w:World) :
  Calls Tryz.prog 254 #[.bool b] w fun e w'=>w'=w∧e=(if b then .returned (.tuple #[]) else .panicked [{ v:=zS,recovered:=false }]):=by
 go_enter Tryz.func254,Tryz.ntmps254
 cases b
 ·go_wp2
  rw[show (Instr.panic (.iface 263 (.agg #[]))).run Tryz.prog w=.halt (.panic (.iface 263 (.agg #[]))) w from rfl]
  simp only[Result.andThen];rw[Oper.upon_panic];exact⟨rfl,by simp⟩
 ·go_wp2
  simp[bodyPost,results,Tryz.results254]
noncomputable def K0W:Cfg := { P:=Tryz.prog,pr:=fun _=>none,keep:=fun _ _=>([],[]),ownRet:=fun _=>false,good:=fun _=>false,hook:=fun _ _=>false }
abbrev rdS (x:Value):Obj:=.cells #[x] 266
structure DoOut (b0:Nat) (Ret:Nat→World→World→Prop) (Pan:World→World→Prop) (w1:World) (e:Ending) (w2:World):Prop where
 e0:w2.heap[b0]? = some inE
 out:(∃ v a n c ty,e=.returned v∧w2.heap[w1.heap.size]? = some (.cells #[.slice a n c] ty (0,0))∧Ret n w1 w2)∨(e=.panicked [{ v:=zS,recovered:=false }]∧Pan w1 w2)
set_option maxRecDepth 100000 in
theorem pq (x : Value) (g : FuncId) (fn : Func) (hfn : Tryz.prog.funcs[g]? = some fn) (hnm : fn.name ≠ "runtime.NumGoroutine") (hbd : fn.body.isSome = true) (vs : List Value) (w : World)
  (Tr:Option Addr→Nat→Nat→World→Prop) (Ret:Nat→World→World→Prop) (Pan:World→World→Prop)
  (hT:Calls Tryz.prog 50 #[x] (w.alloc inE) fun e w1=>w1.heap[w.heap.size]? = some inE∧∃ a n c,e=.returned (.slice a n c)∧Tr a n c w1)
  (hD:∀ a n c w1,Tr a n c w1→w1.heap[w.heap.size]? = some inE→Calls Tryz.prog g (.pointer (some ⟨w1.heap.size,0,none⟩)::vs).toArray (w1.alloc (rdS (.slice a n c))) fun e w2=>DoOut w.heap.size Ret Pan w1 e w2) :
  Calls Tryz.prog 216 #[x,.func (.func g) #[] vs.toArray] w fun e w'' =>
   (∃ w1 w2,Ret 0 w1 w2∧e=.returned (.int .i64 0)∧w''=w2.setCell ⟨w.heap.size,0,none⟩ (.int .i64 0)) ∨
   (∃ n w1 w2,Ret n w1 w2∧n≠0∧e=.returned (.int .i64 40)∧w''=(w2.alloc (.cells #[] 263)).setCell ⟨w.heap.size,0,none⟩ (.int .i64 40)) ∨
   (∃ w1 w2,Pan w1 w2∧e=.returned (.int .i64 40)∧w''=(w2.alloc (.cells #[] 263)).setCell ⟨w.heap.size,0,none⟩ (.int .i64 40)):=by
 have hmf:∀ (fn:Fn) (first cap:Array Value) (w:World),(Instr.makeFunc fn first cap).run Tryz.prog w=.ok (.func fn first cap) w:=fun _ _ _ _=>rfl
 go_enter_defers Tryz.func216,Tryz.ntmps216
 have hcf:∀ (args:Array Value) (w:World),(callFunc g args).run Tryz.prog w=.ok (.enter g args) w:=fun args w=>iI (K:=K0W) hfn hnm hbd
 go_wp2_with (go_at_call 50;refine hT.mono ?_)
 rintro e w1 ⟨k0,ya,yn,yc,rfl,hy⟩
 have hDD:=hD ya yn yc w1 hy k0
 go_wp2_with (refine hDD.mono ?_)
 rintro e w2 ⟨e0,⟨v,ra,rn,rc,ty,rfl,hr0,hR⟩|⟨rfl,hP⟩⟩
 ·have c1:w2.cell? ⟨w1.heap.size,0,none⟩=some (.slice ra rn rc):=aa hr0 0
  have c0:w2.cell? ⟨w.heap.size,0,none⟩=some (.int .i64 0):=aa e0 0
  have f0:=dz e0 0
  by_cases hn:rn=0
  ·subst hn;have hm:=ql true w2
   go_wp2_with (go_at_call 254;refine hm.mono ?_)
   refine leaves_cons (f:=253) (args:=#[.pointer (some ⟨w.heap.size,0,none⟩)]) (by simp) (by simp[go_sem]) ?_
   refine(uD _ _).mono ?_
   rintro e u' w'' ⟨rfl,rfl,rfl⟩
   have e2:(w2.setCell ⟨w.heap.size,0,none⟩ (.int .i64 0)).cell? ⟨w.heap.size,0,none⟩=some (.int .i64 0):=World.cell?_setCell_same _ _ _ c0
   refine⟨.int .i64 0,?_,.inl ⟨w1,w2,hR,rfl,rfl⟩⟩
   simp[results,Tryz.results216,go_sem,e2]
  ·have hne:((rn:Int)==0)=false:=by rw[beq_eq_false_iff_ne];omega
   have hm:=ql false w2
   go_wp2_with (go_at_call 254;refine hm.mono ?_)
   refine leaves_cons (f:=253) (args:=#[.pointer (some ⟨w.heap.size,0,none⟩)]) (by simp) (by simp[go_sem]) ?_
   refine(jd _ [] _ _ _ e0).mono ?_
   rintro e u' w'' ⟨rfl,rfl,rfl⟩
   have g2:(w2.alloc (.cells #[] 263)).heap[w.heap.size]? = some inE:=(aA w2 _ _ (Array.getElem?_eq_some_iff.1 e0).1).trans e0
   have d3:(w2.alloc (.cells #[] 263)).cell? ⟨w.heap.size,0,none⟩=some (.int .i64 0):=aa g2 0
   have e2:((w2.alloc (.cells #[] 263)).setCell ⟨w.heap.size,0,none⟩ (.int .i64 40)).cell? ⟨w.heap.size,0,none⟩=some (.int .i64 40):=World.cell?_setCell_same _ _ _ d3
   refine⟨.int .i64 40,?_,.inr (.inl ⟨rn,w1,w2,hR,hn,rfl,rfl⟩)⟩
   simp[results,Tryz.results216,go_sem,e2]
 ·go_wp2
  refine leaves_cons (f:=253) (args:=#[.pointer (some ⟨w.heap.size,0,none⟩)]) (by simp) (by simp[go_sem]) ?_
  refine(jd _ [] _ _ _ e0).mono ?_
  rintro e u' w'' ⟨rfl,rfl,rfl⟩
  have g2:(w2.alloc (.cells #[] 263)).heap[w.heap.size]? = some inE:=(aA w2 _ _ (Array.getElem?_eq_some_iff.1 e0).1).trans e0
  have d3:(w2.alloc (.cells #[] 263)).cell? ⟨w.heap.size,0,none⟩=some (.int .i64 0):=aa g2 0
  have e2:((w2.alloc (.cells #[] 263)).setCell ⟨w.heap.size,0,none⟩ (.int .i64 40)).cell? ⟨w.heap.size,0,none⟩=some (.int .i64 40):=World.cell?_setCell_same _ _ _ d3
  refine⟨.int .i64 40,?_,.inr (.inr ⟨w1,w2,hP,rfl,rfl⟩)⟩
  simp[results,Tryz.results216,go_sem,e2]
end Go.Abs
namespace Go.Abs
open Go Go.Proofs Go.RowKit
def fx:Nat→List (List CV)→List Nat
 | _,[]=>[]
 | k,_::l=>k::fx (k+1) l
theorem zi:∀ {l:List (List CV)} {k i:Nat},i<l.length→(fx k l)[i]? = some (k+i)
 | [],_,_,h=>by simp at h
 | _::l,k,0,_=>by simp[fx]
 | _::l,k,i+1,h=>by
  rw[fx,List.getElem?_cons_succ,zi (by simpa using h)]
  congr 1
  omega
theorem uF:∀ {l:List (List CV)} {k s:Nat},s∈fx k l→k≤s
 | [],_,_,h=>by cases h
 | _::l,k,s,h=>by
  rw[fx] at h;rcases List.mem_cons.1 h with rfl|h
  ·exact Nat.le_refl _
  ·have:=uF h;omega
theorem sq:∀ (l:List (List CV)) (k:Nat),(fx k l).Nodup
 | [],_=>List.nodup_nil
 | _::l,k=>by
  rw[fx];exact List.nodup_cons.2 ⟨fun h=>by have:=uF h;omega,sq l (k+1)⟩
theorem Ad:∀ (l:List (List CV)) (k:Nat),(fx k l).length=l.length
 | [],_=>rfl
 | _::l,k=>by rw[fx,List.length_cons,Ad l (k+1),List.length_cons]
theorem sc {bx:Nat→Option (List CV)}:∀ (l:List (List CV)) (k:Nat),(∀ i c,l[i]? = some c→bx (k+i)=some c)→aJ bx (fx k l)=some l
 | [],_,_=>rfl
 | c::l,k,h=>by
  have h0:=h 0 c rfl
  have h1:=sc (bx:=bx) l (k+1) fun i d hd=>by
   have:=h (i+1) d (by simpa using hd)
   rw[show k+1+i=k+(i+1) by omega];exact this
  rw[fx,aJ,show bx k=some c from h0,h1]
def cL (bxs:List (List CV)):List Nat:=0::fx LK bxs
def kB (bxs bs:List (List CV)):List (List CV):=bs.map fun b=>(b.map (CV.ren (back (cL bxs)))).map (CV.ren aK)
def rG (good:FuncId→Bool):List AV→List (List CV)→Plan
 | [.c (.pv (.sl c)),.c (.fn g caps)],bxs =>
  .call 50 [.c (.pv (.sl c))] [] fun r=>match r with
   | .ret (.c (.pv (.sl t))) [] =>
    if good g then
     .call g ((AV.c (.loc 0 0)::caps.map fun x=>AV.c (.loc x.1 x.2)).map fun a=>(a.deg).ren (lend (cL bxs))) (([.pv (.sl t)]::bxs).map fun b=>b.map (CV.ren (lend (cL bxs)))) fun r2=>match r2 with
      | .ret _ ([v]::bs)=>(match v.pv? with
       | some (.sl m)=>.done (.ret (.c (.pv (.int .i64 (if m.isEmpty then 0 else 40)))) (kB bxs bs))
       | _=>.fail)
      | .pan (.pv (.ifa x [])) (_::bs)=>if x=263 then .done (.ret (.c (.pv (.int .i64 40))) (kB bxs bs)) else .fail
      | _=>.fail
    else .fail
   | _=>.fail
 | _,_=>.fail
section
variable {G G1 G3:Gh} {w w1 w2 w'':World}
theorem Dm {o:Obj} (hw:WI G w) {dd:Nat} (hd:dd<LK) (hbb:G.bb dd=none):Gr (fun _=>False) G w (G.box dd w.heap.size) (w.alloc o):=by
 refine⟨⟨fun _ _ _ h=>h,fun c hc ho=>⟨?_,aA w _ c hc,fun _=>rfl⟩,by rw[am];omega,rfl,rfl,rfl,fun k hk => ?_⟩,fun s b hb => ?_,fun b ℓ hb _=>⟨?_,aA w _ b (dU hw hb),fun _=>rfl⟩⟩
 ·show upd G.ow w.heap.size _ c=none
  unfold upd;rw[if_neg (by omega)];exact ho
 ·show upd G.bb dd _ k=_
  unfold upd;rw[if_neg (by omega)]
 ·show upd G.bb dd _ s=_
  unfold upd;rw[if_neg (fun e=>by rw[e,hbb] at hb;cases hb)];exact hb
 ·show upd G.ow w.heap.size _ b=_
  have:=dU hw hb
  unfold upd;rw[if_neg (by omega)];exact hb
structure WFin (G:Gh) (w:World) (bs:List (List CV)) (G3:Gh) (w2:World):Prop where
 ext:Ext G w G3 w2
 wi:WI G3 w2
 ow:G3.ow w.heap.size=none
 no:∀ o,G3.I w.heap.size o=none
 lt:w.heap.size<w2.heap.size
 box:∀ (i:Nat) (l:List CV),bs[i]? = some l→BoxR G3 w2 (LK+i) l
theorem Au {bs:List (List CV)} (hw:WI G w) (hbb:∀ s b,G.bb s=some b→LK≤s) (h:WFin G w bs G3 w2)
  (hs:w2.heap.size≤w''.heap.size) (ho:w''.os=w2.os) (hp:w''.output=w2.output) (ht:w''.tape=w2.tape) (hh:∀ b,b<w2.heap.size→b≠w.heap.size→w''.heap[b]? = w2.heap[b]?) :
  Ext G w { G3 with bb:=G.bb } w''∧WI { G3 with bb:=G.bb } w''∧∀ (i:Nat) (l:List CV),(bs.map fun b=>b.map (CV.ren aK))[i]? = some l→BoxR { G3 with bb:=G.bb } w'' (LK+i) l:=by
 have hlent:∀ k,LK≤k→G3.bb k=G.bb k:=h.ext.lent
 have hold:∀ b,b<w.heap.size→G.ow b=none→G3.ow b=none∧w''.heap[b]? = w.heap[b]? ∧ ∀ o,G3.I b o=G.I b o:=fun b hb hn=>by
  have h3:=h.ext.old b hb hn
  have:=h.ext.size
  exact⟨h3.1,(hh b (by omega) (by omega)).trans h3.2.1,h3.2.2⟩
 have how:∀ b ℓ,G3.ow b=some ℓ→w''.heap[b]? = w2.heap[b]? := fun b ℓ hb=>by
  refine hh b (dU h.wi hb) fun e => ?_
  rw[e,h.ow] at hb;cases hb
 have hsz:=h.ext.size
 refine⟨⟨h.ext.I,hold,by omega,ho.trans h.ext.os,hp.trans h.ext.output,ht.trans h.ext.tape,fun _ _=>rfl⟩,⟨fun b o y hI => ?_,fun b hb=>h.wi.fresh b (by omega),h.wi.boxI,fun s b hb => ?_,hw.tab.map fun b hb hn=>⟨(hold b hb hn).1,(hold b hb hn).2.1⟩⟩,fun i l hl => ?_⟩
 ·have h1:G3.I b o=some y:=hI
  have e:w''.heap[b]? = w2.heap[b]? := hh b (I_lt h.wi h1) (fun e=>by rw[e,h.no] at h1;cases h1)
  have:=h.wi.cell b o y h1
  unfold World.cell? at this ⊢
  rw[e];exact this
 ·have hb':G.bb s=some b:=hb
  exact h.wi.bbow s b (by rw[hlent s (hbb s b hb')];exact hb')
 ·rw[List.getElem?_map,Option.map_eq_some_iff] at hl
  obtain⟨l0,hl0,rfl⟩:=hl;obtain⟨b,cs,ty,h1,h2,h3,h4⟩:=h.box i l0 hl0;have hb3:=h.wi.bbow _ b h1
  refine⟨b,cs,ty,?_,(how b _ hb3).trans h2,⟨by simpa using h3.1,h3.2.map (fun v e=>nu e)⟩,fun k u hu => ?_⟩
  ·show G.bb (LK+i)=some b
   rw[←hlent (LK+i) (by omega)];exact h1
  ·rw[List.getElem?_map,Option.map_eq_some_iff] at hu
   obtain⟨u',hu',rfl⟩:=hu;obtain⟨y,h5,h6⟩:=h4 k u' hu';refine⟨y,h5,?_⟩
   by_cases hpl:u'.plain=true
   ·refine .of_RN (RN.ren (G:=G3) (G1 := { G3 with bb:=G.bb }) (fun _ _ _ h=>h) (fun s k b hs hb => ?_) (h6.to_RN hpl))
    unfold aK at hs;split at hs
    ·rename_i hk;cases hs
     show G.bb s=some b
     rw[←hlent s hk];exact hb
    ·cases hs
   ·cases u'<;>simp[CV.plain] at hpl
    case iter s2 pos=>exact IterAt.one h6
    case cmap es =>
     obtain⟨b',clock,k1,k2,k3⟩:=(h6:MapAt G3 w2 _ es y);exact⟨b',clock,k1,k2,(how b' _ k2).trans k3⟩
    rename_i e c;have h7:OwnAt G3 w2 (.cell (LK+i) k) e c y:=h6
    show OwnAt { G3 with bb:=G.bb } w'' (.cell (LK+i) k) e c y
    rcases h7 with⟨h7,ad,h8,h9⟩|⟨hne,b',cap,cur,sz,k1,k2,k3,k4⟩
    ·exact .inl ⟨h7,ad,h8,h9.map fun b' hb'=>⟨hb',how b' _ hb'⟩⟩
    ·exact .inr ⟨hne,b',cap,cur,sz,k1,k2,(how b' _ k2).trans k3,k4⟩
theorem yh {ℓ:Own} {v:CV} {x:Value} {m:List (List PV)} (h:RC G w ℓ v x) (hv:v.pv? = some (.sl m)):∃ a c,x=.slice a m.length c:=by
 cases v<;>simp only[CV.pv?] at hv<;>try cases hv
 ·obtain⟨a,cap,rfl,_⟩:=RP.slice_inv (show RP G.I (.sl m) x from h)
  exact⟨a,cap,rfl⟩
 ·obtain⟨a,cap,rfl,_⟩:=RP.slice_inv (OwnAt.rp (show OwnAt G w ℓ _ m x from h))
  exact⟨a,cap,rfl⟩
 ·have:x=.slice none 0 0:=h
  exact⟨none,0,this⟩
 ·obtain⟨a,cap,rfl,_⟩:=RP.slice_inv (show RP G.I (.sl m) x from h.1)
  exact⟨a,cap,rfl⟩
theorem Dn {g:Nat→Option Nat} {v:CV} {p:PV} (hv:v.pv? = some p):v.ren g=v:=by
 cases v<;>simp only[CV.pv?] at hv<;>first|rfl|cases hv
end
theorem xZ {good:FuncId→Bool} {call:CallF} {args:List AV} {bxs:List (List CV)} {r:Res} (h:(rG good args bxs).run call=some r) :
    ∃ (c:List (List PV)) (g:FuncId) (caps:List (Nat×Nat)) (t:List (List PV)) (r2:Res),args=[.c (.pv (.sl c)),.c (.fn g caps)]∧good g=true ∧
      call 50 [.c (.pv (.sl c))] []=some (.ret (.c (.pv (.sl t))) []) ∧
      call g ((AV.c (.loc 0 0)::caps.map fun x=>AV.c (.loc x.1 x.2)).map fun a=>(a.deg).ren (lend (cL bxs))) (([.pv (.sl t)]::bxs).map fun b=>b.map (CV.ren (lend (cL bxs))))=some r2 ∧
      ((∃ u v bs m,r2=.ret u ([v]::bs)∧v.pv? = some (.sl m)∧r=.ret (.c (.pv (.int .i64 (if m.isEmpty then 0 else 40)))) (kB bxs bs)) ∨
       (∃ b bs,r2=.pan (.pv (.ifa 263 [])) (b::bs)∧r=.ret (.c (.pv (.int .i64 40))) (kB bxs bs))):=by
  unfold rG at h;split at h
  case h_2=>simp[Plan.run] at h
  rename_i c g caps;rw[Plan.run] at h;split at h
  case h_2=>cases h
  rename_i r1 hr1;split at h
  case h_2=>simp[Plan.run] at h
  rename_i t;split at h
  case isFalse=>simp[Plan.run] at h
  rename_i hg;rw[Plan.run] at h;split at h
  case h_2=>cases h
  rename_i r2 hr2;refine⟨c,g,caps,t,r2,rfl,hg,hr1,hr2,?_⟩
  split at h
  · rename_i u v bs;split at h
    · rename_i m hm;simp only[Plan.run,Option.some.injEq] at h;exact .inl ⟨u,v,bs,m,rfl,hm,h.symm⟩
    · simp[Plan.run] at h
  · rename_i x b bs;split at h
    · rename_i hx;subst hx;simp only[Plan.run,Option.some.injEq] at h;exact .inr ⟨b,bs,rfl,h.symm⟩
    · simp[Plan.run] at h
  · simp[Plan.run] at h
theorem yd {good : FuncId → Bool} (hgd : ∀ g, good g = true → ∃ fn, Tryz.prog.funcs[g]? = some fn ∧ fn.name ≠ "runtime.NumGoroutine" ∧ fn.body.isSome = true) (hT : good 50 = true) {call : CallF}
  (hc:∀ g args bxs r,good g=true→call g args bxs=some r→Contract Tryz.prog g args bxs r) {args:List AV} {bxs:List (List CV)} {r:Res} (h:(rG good args bxs).run call=some r) :
  Contract Tryz.prog 216 args bxs r:=by
 obtain⟨c,g,caps,t,r2,rfl,hg,hr1,hr2,hfin⟩:=xZ h;intro G w cargs hw hargs hno hb hbb;obtain⟨x,y,rfl,hx,hy⟩:=dF hargs;obtain⟨vs,rfl,hcaps⟩:∃ vs:List Value,y=.func (.func g) #[] vs.toArray∧All2 (fun (c:Nat×Nat) (v:Value)=>∃ b,G.bb c.1=some b∧v=Value.pointer (some ⟨b,c.2,none⟩)) caps vs:=hy
 obtain⟨fn,hfn,hnm,hbd⟩:=hgd g hg;have hge:∀ s b,G.bb s=some b→LK≤s:=fun s b e=>by
  obtain⟨i,_,rfl⟩:=hbb s b e;omega
 have hn0:G.bb 0=none:=by
  cases e:G.bb 0 with
  | none=>rfl
  | some b=>have:=hge 0 b e;unfold LK at this;omega
 obtain⟨g0,hw0⟩:=fl (w':=w.alloc inE) hw ((Below.refl _ _).alloc (Nat.le_refl _) _);have hs0:(w.alloc inE).heap.size=w.heap.size+1:=am w _
 have hE:∀ {G1:Gh} {w1:World},Ext G (w.alloc inE) G1 w1→w1.heap[w.heap.size]? = some inE∧G1.ow w.heap.size=none∧(∀ o,G1.I w.heap.size o=none)∧w.heap.size<w1.heap.size:=fun {G1 w1} hx=>by
  have h1:=hx.old w.heap.size (by rw[hs0];omega) (hw.fresh _ (Nat.le_refl _)).2
  have h2:=hx.size
  rw[hs0] at h2;exact⟨h1.2.1.trans (heap_alloc_new w _),h1.1,fun o=>(h1.2.2 o).trans ((hw.fresh _ (Nat.le_refl _)).1 o),by omega⟩
 let bx0:Nat→Option (List CV):=fun k=>if LK≤k then bxs[k - LK]? else none
 have hbx0:∀ s l,bx0 s=some l→LK≤s∧bxs[s - LK]? = some l:=fun s l e=>by
  simp only[bx0] at e
  split at e
  ·rename_i hk;exact⟨hk,e⟩
  ·cases e
 have hbox0:∀ s l,bx0 s=some l→BoxR G w s l:=fun s l e=>by
  obtain⟨h1,h2⟩:=hbx0 s l e;have:=hb (s - LK) l h2
  rw[show LK+(s - LK)=s by omega] at this
  exact this
 have hf0:FR G (w.alloc inE) { sl:=bot,bx:=bx0,nt:=0 } { tmps:=#[],defers:=[] } :=
  ⟨rfl,fun _=>trivial,fun s l e=>(hbox0 s l e).gr hw g0 (fun h=>h) (fun _ h=>h),fun s e hlt=>by
   cases hq:G.bb s with
   | none=>rfl
   | some b=>have:=hge s b hq;omega⟩
 have hcT:Contract Tryz.prog 50 ([AV.c (.pv (.sl c))].map fun a=>(a.deg).ren (lend [])) (([]:List (List CV)).map fun c=>c.map (CV.ren (lend []))) (.ret (.c (.pv (.sl t))) []):=hc _ _ _ _ hT hr1
 have hTr:=jR (L:=[]) (o:=.ret) List.nodup_nil hf0 hw0 (fun s e=>by cases e) rfl (.cons ⟨.ret,RA.gr_plain (ℓ':=.ret) hx g0 rfl⟩ .nil:All2 (fun v x=>∃ ℓ,RA G (w.alloc inE) ℓ v x) [AV.c (.pv (.sl c))] [x]) hcT
 let Tr:Option Addr→Nat→Nat→World→Prop:=fun a n cc w1=>∃ G1,Gr (mt []) G (w.alloc inE) G1 w1∧WI G1 w1∧G1.bb=G.bb∧RP G1.I (.sl t) (.slice a n cc)
 have hT':Calls Tryz.prog 50 #[x] (w.alloc inE) fun e w1=>w1.heap[w.heap.size]? = some inE∧∃ a n cc,e=.returned (.slice a n cc)∧Tr a n cc w1:=by
  refine hTr.mono ?_
  rintro e w1 ⟨G1,g1,hw1,hbb1,z,rfl,hz,_⟩
  have hz':RP G1.I (.sl t) z:=hz
  obtain⟨a,cap,rfl,_⟩:=hz'.slice_inv;exact⟨(hE g1.ext).1,a,_,cap,rfl,G1,g1,hw1,hbb1,hz'⟩
 have hD:∀ a n cc w1,Tr a n cc w1→Calls Tryz.prog g (.pointer (some ⟨w1.heap.size,0,none⟩)::vs).toArray (w1.alloc (rdS (.slice a n cc))) fun e w2=>∃ G3,Ext G (w.alloc inE) G3 w2∧WI G3 w2∧G3.bb 0=some w1.heap.size ∧
   match r2 with
   | .ret u cs=>∃ z,e=.returned z∧cs.length=(cL bxs).length∧∀ (i s:Nat) (l:List CV),(cL bxs)[i]? = some s→cs[i]? = some l→BoxR G3 w2 s (l.map (CV.ren (back (cL bxs))))
   | .pan u cs=>∃ z,e=.panicked [{ v:=z,recovered:=false }]∧RN G3 (u.ren (back (cL bxs))) z∧cs.length=(cL bxs).length∧∀ (i s:Nat) (l:List CV),(cL bxs)[i]? = some s→cs[i]? = some l→BoxR G3 w2 s (l.map (CV.ren (back (cL bxs)))):=by
  rintro a n cc w1 ⟨G1,g1,hw1,hbb1,hz⟩
  have hno1:G1.bb 0=none:=by rw[hbb1];exact hn0
  have g2:=Dm (o:=rdS (.slice a n cc)) hw1 (dd:=0) (by unfold LK;omega) hno1
  have hw2:=Ag (o:=rdS (.slice a n cc)) hw1 hno1
  have hbb2:(G1.box 0 w1.heap.size).bb 0=some w1.heap.size:=by simp[Gh.box,upd]
  have hbbs:∀ s,s≠0→(G1.box 0 w1.heap.size).bb s=G.bb s:=fun s hs=>by
   show upd G1.bb 0 _ s=_
   unfold upd;rw[if_neg hs,hbb1]
  have hf2:FR (G1.box 0 w1.heap.size) (w1.alloc (rdS (.slice a n cc))) { sl:=bot,bx:=upd bx0 0 (some [.pv (.sl t)]),nt:=0 } { tmps:=#[],defers:=[] }:=by
   refine⟨rfl,fun _=>trivial,fun s l e => ?_,fun s e hlt => ?_⟩
   ·have e':upd bx0 0 (some [.pv (.sl t)]) s=some l:=e
    unfold upd at e'
    split at e'
    ·rename_i hs;subst hs;cases e';refine⟨w1.heap.size,_,_,hbb2,heap_alloc_new w1 _,⟨rfl,fun e=>by simp at e⟩,fun k v hk => ?_⟩
     match k with
     | 0 =>
      simp only[List.getElem?_cons_zero,Option.some.injEq] at hk
      subst hk;exact⟨_,rfl,hz⟩
     | k+1=>simp at hk
    ·have h1:=((hbox0 s l e').gr hw g0 (fun h=>h) (fun _ h=>h)).gr hw0 g1 (fun ⟨_,hm,_⟩=>by cases hm) (fun _ ⟨_,hm,_⟩=>by cases hm)
     exact h1.gr hw1 g2 (fun h=>h) (fun _ h=>h)
   ·have e':upd bx0 0 (some [.pv (.sl t)]) s=none:=e
    unfold upd at e'
    split at e'
    ·cases e'
    ·rename_i hs;rw[hbbs s hs];cases hq:G.bb s with
     | none=>rfl
     | some b=>have:=hge s b hq;omega
  have hnd:(cL bxs).Nodup:=List.nodup_cons.2 ⟨fun hm=>by have:=uF hm;unfold LK at this;omega,sq bxs LK⟩
  have hgB:aJ (upd bx0 0 (some [.pv (.sl t)])) (cL bxs)=some ([.pv (.sl t)]::bxs):=by
   unfold cL;rw[aJ,show upd bx0 0 (some [CV.pv (.sl t)]) 0=some [CV.pv (.sl t)] by simp[upd],sc bxs LK fun i c hi=>by
    show upd bx0 0 _ (LK+i)=_
    unfold upd;rw[if_neg (by unfold LK;omega)]
    simp only[bx0];rw[if_pos (by omega),Nat.add_sub_cancel_left]
    exact hi]
  have hargs2:All2 (fun v x=>∃ ℓ,RA (G1.box 0 w1.heap.size) (w1.alloc (rdS (.slice a n cc))) ℓ v x) (AV.c (.loc 0 0)::caps.map fun x=>AV.c (.loc x.1 x.2)) (.pointer (some ⟨w1.heap.size,0,none⟩)::vs) :=
   .cons ⟨.ret,w1.heap.size,hbb2,rfl⟩ (All2.cV (hcaps.imp fun cp v _ ⟨b,h1,h2⟩=>⟨.ret,b,(hbbs cp.1 (fun e=>by rw[e,hn0] at h1;cases h1)).trans h1,h2⟩))
  refine(jR (o:=.ret) hnd hf2 hw2 (fun s e=>by cases e) hgB hargs2 (hc g _ _ r2 hg hr2)).mono ?_
  rintro e w2 ⟨G3,g3,hw3,hbb3,hq⟩
  refine⟨G3,g1.ext.trans (g2.ext.trans g3.ext),hw3,by rw[hbb3];exact hbb2,?_⟩
  cases r2 with
  | ret u cs =>
   obtain⟨z,h1,_,h3,h4⟩:=hq;exact⟨z,h1,h3,h4⟩
  | pan u cs=>exact hq
 have hlk:∀ i,i<bxs.length→(cL bxs)[i+1]? = some (LK+i):=fun i hi=>by
  unfold cL;rw[List.getElem?_cons_succ,zi hi]
 have hll:(cL bxs).length=bxs.length+1:=by unfold cL;rw[List.length_cons,Ad]
 have hbs:∀ {bs:List (List CV)} {G3:Gh} {w2:World},bs.length=bxs.length→Ext G (w.alloc inE) G3 w2→WI G3 w2→(∀ (i:Nat) (l:List CV),i<bxs.length→bs[i]? = some l→BoxR G3 w2 (LK+i) (l.map (CV.ren (back (cL bxs))))) →
   WFin G w (bs.map fun b=>b.map (CV.ren (back (cL bxs)))) G3 w2:=fun {bs G3 w2} hln hx hwi hbo=>by
  obtain⟨_,h2,h3,h4⟩:=hE hx;refine⟨g0.ext.trans hx,hwi,h2,h3,h4,fun i l hl => ?_⟩
  rw[List.getElem?_map,Option.map_eq_some_iff] at hl
  obtain⟨l0,hl0,rfl⟩:=hl;exact hbo i l0 (by rw[←hln];exact(List.getElem?_eq_some_iff.1 hl0).1) hl0
 have hwB:∀ bs:List (List CV),kB bxs bs=(bs.map fun b=>b.map (CV.ren (back (cL bxs)))).map fun b=>b.map (CV.ren aK):=fun bs=>by
  unfold kB;rw[List.map_map];rfl
 rcases hfin with⟨u,v,bs,m,rfl,hm,rfl⟩|⟨b,bs,rfl,rfl⟩
 ·let Rt:Nat→World→World→Prop:=fun n _ w2=>n=m.length∧bs.length=bxs.length∧∃ G3,WFin G w (bs.map fun b=>b.map (CV.ren (back (cL bxs)))) G3 w2
  have hW:=pq x g fn hfn hnm hbd vs w Tr Rt (fun _ _=>False) hT' (fun a n cc w1 hTr1 k0=>by
   refine(hD a n cc w1 hTr1).mono ?_
   rintro e w2 ⟨G3,hx3,hw3,hb3,z,rfl,hln,hbo⟩
   rw[List.length_cons,hll] at hln;obtain⟨b',cs,ty,e1,e2,⟨e3,_⟩,e4⟩:=hbo 0 0 [v] rfl rfl;rw[hb3] at e1
   cases e1
   obtain⟨zz,e5,e6⟩:=e4 0 (v.ren (back (cL bxs))) rfl;rw[Dn hm] at e6
   obtain⟨ra,rc,rfl⟩:=yh e6 hm;have ecs:cs=#[.slice ra m.length rc]:=by
    have hsz:cs.size=1:=by simpa using e3
    apply Array.ext
    ·simpa using hsz
    ·intro i h1 h2;have hi:i=0:=by omega
     subst hi;rw[Array.getElem?_eq_getElem h1] at e5
     simpa using e5
   subst ecs;exact⟨(hE hx3).1,.inl ⟨z,ra,m.length,rc,ty,rfl,e2,rfl,by omega,G3,hbs (by omega) hx3 hw3 fun i l hi hl=>hbo (i+1) (LK+i) l (hlk i hi) (by simpa using hl)⟩⟩)
  refine hW.mono ?_
  have fin:∀ {w2 w'':World} {k:Int},(bs.length=bxs.length∧∃ G3,WFin G w (bs.map fun b=>b.map (CV.ren (back (cL bxs)))) G3 w2)→w2.heap.size≤w''.heap.size→w''.os=w2.os→w''.output=w2.output→w''.tape=w2.tape →
    (∀ b,b<w2.heap.size→b≠w.heap.size→w''.heap[b]? = w2.heap[b]?)→∃ G',Ext G w G' w''∧WI G' w''∧REnd bxs.length G' w'' (.returned (.int .i64 k)) (.ret (.c (.pv (.int .i64 k))) (kB bxs bs)):=fun {w2 w'' k} ⟨hln,G3,hF⟩ h1 h2 h3 h4 h5=>by
   obtain⟨k1,k2,k3⟩:=Au hw hge hF h1 h2 h3 h4 h5;refine⟨_,k1,k2,_,rfl,.int _ _,by rw[hwB];simpa using hln,?_⟩
   rw[hwB];exact k3
  rintro e w'' (⟨w1,w2,⟨hn,hR⟩,rfl,rfl⟩|⟨n,w1,w2,⟨hn,hR⟩,hne,rfl,rfl⟩|⟨_,_,hf,_⟩)
  ·have:m.isEmpty=true:=by
    cases m with
    | nil=>rfl
    | cons _ _=>simp at hn
   rw[this,if_pos rfl];exact fin hR (by rw[gf];exact Nat.le_refl _) rfl rfl rfl fun b _ h2=>cK _ _ _ (by simpa using h2)
  ·have:m.isEmpty=false:=by
    cases m with
    | nil=>exact absurd hn hne
    | cons _ _=>rfl
   rw[this,if_neg (by simp)]
   exact fin hR (by rw[gf,am];omega) rfl rfl rfl fun b hb h2=>(cK _ _ _ (by simpa using h2)).trans (aA _ _ _ hb)
  ·exact hf.elim
 ·have hW:=pq x g fn hfn hnm hbd vs w Tr (fun _ _ _=>False) (fun _ w2=>bs.length=bxs.length∧∃ G3,WFin G w (bs.map fun b=>b.map (CV.ren (back (cL bxs)))) G3 w2) hT' (fun a n cc w1 hTr1 k0=>by
   refine(hD a n cc w1 hTr1).mono ?_
   rintro e w2 ⟨G3,hx3,hw3,hb3,z,rfl,hrn,hln,hbo⟩
   rw[List.length_cons,hll] at hln;have hz:RP G3.I (.ifa 263 []) z:=hrn
   cases hz
   exact⟨(hE hx3).1,.inr ⟨rfl,by omega,G3,hbs (by omega) hx3 hw3 fun i l hi hl=>hbo (i+1) (LK+i) l (hlk i hi) (by simpa using hl)⟩⟩)
  refine hW.mono ?_
  rintro e w'' (⟨_,_,hf,_⟩|⟨_,_,_,hf,_⟩|⟨w1,w2,⟨hln,G3,hF⟩,rfl,rfl⟩)
  ·exact hf.elim
  ·exact hf.elim
  ·obtain⟨k1,k2,k3⟩:=Au (w'':=(w2.alloc (.cells #[] 263)).setCell ⟨w.heap.size,0,none⟩ (.int .i64 40)) hw hge hF (by rw[gf,am];omega) rfl rfl rfl fun b hb h2=>(cK _ _ _ (by simpa using h2)).trans (aA _ _ _ hb)
   refine⟨_,k1,k2,_,rfl,.int _ _,by rw[hwB];simpa using hln,?_⟩
   rw[hwB];exact k3
end Go.Abs
namespace Go.Abs
open Go Go.Proofs Go.RowKit
def yV:Prim
 | [.c (.pv (.str s)),.c (.pv (.str c))],[]=>if s.length<bz∧c.length<4294967281∧c.all (fun b=>decide (b.toNat<128))=true then some (.c (.pv (.str (Lib.trimS s c))),[]) else none
 | _,_=>none
def yv:Prim
 | [.c (.pv (.str s))],[]=>if s.length≤18 then(match Lib.atoi s with|some n=>some (.tup [.c (.pv (.int .i64 n)),.c (.pv .nilifc)],[])|none=>none) else none
 | _,_=>none
theorem yG {args:List AV} {bxs:List (List CV)} {x:AV×List (List CV)} (h:yV args bxs=some x):Contract Tryz.prog 339 args bxs (.ret x.1 x.2):=by
 unfold yV at h;split at h
 case h_2=>cases h
 rename_i s c;split at h
 case isFalse=>cases h
 rename_i hs;cases h;refine bq fun G w cargs hw hargs => ?_
 obtain⟨x,y,rfl,hx,hy⟩:=dF hargs;cases hx.strv;cases hy.strv;refine(Any.strings_Trim_laid Tryz.lays160 (by kernel_rfl) ⟨s.toArray⟩ ⟨c.toArray⟩ w (by show s.toArray.size≤_;have:=hs.1;unfold bz at this;simp;omega) (by show c.toArray.size<_;simpa using hs.2.1) (by exact ascii_of_all hs.2.2)).mono ?_
 rintro e w' ⟨rfl,hb⟩
 exact⟨_,rfl,.str _,hb⟩
theorem ym {args:List AV} {bxs:List (List CV)} {x:AV×List (List CV)} (h:yv args bxs=some x):Contract Tryz.prog 340 args bxs (.ret x.1 x.2):=by
 unfold yv at h;split at h
 case h_2=>cases h
 rename_i s;split at h
 case isFalse=>cases h
 rename_i hs;split at h
 case h_2=>cases h
 rename_i n hn;cases h;intro G w cargs hw hargs _ _ _;obtain⟨x,rfl,hx⟩:=de hargs;cases hx.strv;refine(Tryz.strconv_Atoi ⟨s.toArray⟩ n (by show s.toArray.size≤_;simpa using hs) hn w).mono ?_
 rintro e w' ⟨rfl,t,rfl⟩
 obtain⟨g,hw'⟩:=fl hw (Lib.bytesWorld_below w _ t);exact⟨G,g.ext,hw',_,rfl,⟨_,rfl,.cons (.int _ _) (.cons .nilifc .nil)⟩,rfl,fun i l h=>by simp at h⟩
end Go.Abs
namespace Go.Abs
open Go Go.Proofs Go.RowKit
set_option maxRecDepth 10000
def parse1P:List AV→List (List CV)→Plan
 | [.c (.loc s 0),.c (.loc t 0)],[[.pv (.sl m)],[.own e c]] =>
  if s=100000∧t=100001 then
   .call 218 [.c (.loc 100000 0)] [[.pv (.sl m)]] fun r=>match r with
    | .pan (.pv p) [[.pv (.sl m2)]]=>.done (.pan (.pv p) [[.pv (.sl m2)],[.top]])
    | .ret (.agg [.pv (.sl q),.pv (.str z)]) [[.pv (.sl m2)]] =>
     if (e=80∨c.isEmpty=true)∧lens 2 c=true∧c.length+1<fg then .done (.ret (.tup []) [[.pv (.sl m2)],[.own 80 (c++[[.sl q,.str z]])]]) else .fail
    | _=>.fail
  else .fail
 | _,_=>.fail
noncomputable def K1 (good:FuncId→Bool):Cfg := { P:=Tryz.prog,pr:=fun _=>none,keep:=fun _ _=>([],[]),ownRet:=fun _=>false,good:=good,hook:=fun _ _=>false }
def p1A : Oper := { dst := some 3, op := Op.load 39 (Operand.tmp 1), type := 39, pos := "sels.go:301", after := #[], guard := none }
def p1B : Oper := { dst := some 4, op := Op.move (Operand.tmp 0), type := 236, pos := "sels.go:301", after := #[], guard := none }
def p1C : Oper := { dst := some 5, op := Op.call { callee := Callee.value (Operand.func 218), args := #[Operand.tmp 4], argTypes := #[236] }, type := 80, pos := "sels.go:301", after := #[{ on := 1, ground := Ground.data }], guard := none }
def p1D:List Oper:=[
  { dst := some 6, op := Op.buildSlice 39 1 #[(0, Operand.tmp 5)], type := 39, pos := "sels.go:301", after := #[{ on := 2, ground := Ground.data }], guard := none },
  { dst := some 7, op := Op.call { callee := Callee.builtin Builtin.append, args := #[Operand.tmp 3, Operand.tmp 6], argTypes := #[39, 39] }, type := 39, pos := "sels.go:301",
    after:=#[{ on:=0,ground:=Ground.data }, { on:=3,ground:=Ground.data }, { on:=2,ground:=Ground.chain }],guard:=none },
  { dst := none, op := Op.store 39 (Operand.tmp 1) (Operand.tmp 7), type := 0, pos := "sels.go:301",
    after:=#[{ on:=4,ground:=Ground.data }, { on:=4,ground:=Ground.chain }, { on:=0,ground:=Ground.phase }, { on:=1,ground:=Ground.phase }, { on:=2,ground:=Ground.phase }, { on:=3,ground:=Ground.phase }, { on:=4,ground:=Ground.phase }],guard:=none }]
def p1Ops:Array Oper:=(p1A::p1B::p1C::p1D).toArray
theorem nh:Tryz.f217.body=some (Code.region 0 p1Ops true):=rfl
theorem Dv:dw (fun _=>false) (Code.region 0 p1Ops true)=true:=by kernel_rfl
theorem vD:aH p1Ops.toList=[3]:=rfl
section
variable {good:FuncId→Bool} {call:CallF} {G:Gh} {w:World} {S:St} {a:Act} {Q:Exit→Act→World→Prop}
structure P1S (S:St) (m:List (List PV)):Prop where
 nt:S.nt=8
 s0:S.sl 0=.c (.loc 100000 0)
 s1:S.sl 1=.c (.loc 100001 0)
 b0:S.bx 100000=some [.pv (.sl m)]
 bn:∀ s,s<LK→S.bx s=none
theorem rV {m:List (List PV)} {e:TypeId} {c:List (List PV)} (h:P1S S m) (hb:S.bx 100001=some [.own e c]):∃ S',aR (K1 good) call p1Ops.toList p1A S=some (.norm,S')∧P1S S' m∧S'.sl 4=S.sl 4∧∃ v,S'.bx 100001=some [v]:=by
 have hsh:cA Tryz.prog 39=some none:=by kernel_rfl
 have hP:(K1 good).P=Tryz.prog:=rfl
 refine⟨{ sl:=upd S.sl 3 (.c (.own e c)),bx:=upd S.bx 100001 (some [(CV.own e c).deg]),nt:=S.nt },by
  unfold aR;simp only[bw,p1A,vD,bU,opd,h.s1,bL,hP,hsh,hb,bR,List.getElem?_cons_zero,AV.isIter]
  simp[St.degAt,St.put,h.nt,aj,bV,CV.plain],⟨h.nt,h.s0,h.s1,h.b0,fun s hs => ?_⟩,rfl,_,rfl⟩
 have:s≠100001:=by unfold LK at hs;omega
 simp[upd,this,h.bn s hs]
theorem tC {m:List (List PV)} (h:P1S S m):∃ S',aR (K1 good) call p1Ops.toList p1B S=some (.norm,S')∧P1S S' m∧S'.sl 4=.c (.loc 100000 0)∧S'.bx 100001=S.bx 100001:=by
 refine⟨{ sl:=upd S.sl 4 (.c (.loc 100000 0)),bx:=S.bx,nt:=S.nt },by
  unfold aR;simp only[bw,p1B,vD,bU,opd,h.s0,bg,AV.isIter,steal,bC,bR];simp[St.degAt,St.put,h.nt,aj],⟨h.nt,h.s0,h.s1,h.b0,h.bn⟩,rfl,rfl⟩
theorem yR {m m2:List (List PV)} {p:PV} (hg:good 218=true) (h:P1S S m) (h4:S.sl 4=.c (.loc 100000 0))
  (hc:call 218 [.c (.loc 100000 0)] [[.pv (.sl m)]]=some (.pan (.pv p) [[.pv (.sl m2)]])) :
  ∃ S',aR (K1 good) call p1Ops.toList p1C S=some (.pan (.pv p),S')∧P1S S' m2∧S'.bx 100001=S.bx 100001:=by
 have hG:(K1 good).good=good:=rfl
 have hO:∀ f,(K1 good).ownRet f=false:=fun _=>rfl
 refine⟨{ sl:=S.sl,bx:=upd S.bx 100000 (some [.pv (.sl m2)]),nt:=S.nt },by
  unfold aR;simp only[bw,p1C,bU,opd,h4,bv,bO,hG,hO,hg,if_true,List.map_cons,List.map_nil,List.append_nil,List.all_cons,List.all_nil,AV.flat,CV.flat,Bool.and_true,List.flatMap_cons,List.flatMap_nil,AV.ptrs,CV.ptrs,dedup,List.contains_nil,aJ,h.b0,AV.deg,CV.deg,AV.ren,CV.ren,lend,idx,Option.map_some,LK,Nat.add_zero,Bool.false_eq_true,if_false,hc];simp[ck,CV.ren,aj],⟨h.nt,h.s0,h.s1,rfl,fun s hs => ?_⟩,rfl⟩
 have:s≠100000:=by unfold LK at hs;omega
 simp[upd,this,h.bn s hs]
def p1Fin (m2:List (List PV)):St := { sl:=fun _=>.c .top,bx:=fun k=>if k=100000 then some [.pv (.sl m2)] else if k=100001 then some [.top] else none,nt:=8 }
theorem Dg {m2:List (List PV)} {v:CV} (h:P1S S m2) (hb:S.bx 100001=some [v]) (hf:FR G w S a):FR G w (p1Fin m2) a:=by
 refine⟨by rw[hf.size,h.nt];rfl,fun t=>trivial,fun s l hl => ?_,fun s hs hlk=>hf.nob s (h.bn s hlk) hlk⟩
 have hl:(if s=100000 then some [CV.pv (.sl m2)] else if s=100001 then some [CV.top] else none)=some l:=hl
 split at hl
 ·rename_i e;cases hl;exact hf.box s _ (by rw[e];exact h.b0)
 split at hl
 ·rename_i e;cases hl;obtain⟨b,cs,ty,h1,h2,⟨h3,_⟩,h4⟩:=hf.box s _ (by rw[e];exact hb)
  refine⟨b,cs,ty,h1,h2,⟨h3,?_⟩,fun k v' hv => ?_⟩
  ·first|trivial|exact fun h=>by simp at h|simp[Bld]
  ·cases k with
   | zero =>
    cases hv
    obtain⟨x,h5,h6⟩:=h4 0 v rfl;exact⟨x,h5,h6.one⟩
   | succ k=>simp at hv
 ·cases hl
theorem CO (hs:Sound (K1 good) call) (hm:Tryz.prog.follows .mixedOrders=true) {m m2:List (List PV)} {p:PV} {e:TypeId} {c:List (List PV)} (hg:good 218=true)
  (hc:call 218 [.c (.loc 100000 0)] [[.pv (.sl m)]]=some (.pan (.pv p) [[.pv (.sl m2)]]))
  (h:P1S S m) (hb:S.bx 100001=some [.own e c]) (hf:FR G w S a) (hw:WI G w) (hp:Post G w a.defers (.pan (.pv p),p1Fin m2) Q):(Code.region 0 p1Ops true).wp Tryz.prog Q a w:=by
 refine wp_region_any hm ?_
 obtain⟨gd,hwd⟩:=eA hw;have hfd:=hf.gr0 hw gd rfl
 have hpd:Post G w.drew a.defers (.pan (.pv p),p1Fin m2) Q:=fun a2 w2 G2 h1 h2 h3 h4=>hp a2 w2 G2 (gd.ext.trans h1) h2 h3 h4
 have atC:∀ {S1:St} {G1:Gh} {w1:World} {a1:Act} (N:Act→World→Prop),P1S S1 m→S1.sl 4=.c (.loc 100000 0)→(∃ v,S1.bx 100001=some [v])→FR G1 w1 S1 a1→WI G1 w1→Post G1 w1 a1.defers (.pan (.pv p),p1Fin m2) Q→wpOp Tryz.prog p1Ops Q 2 N a1 w1:=by
  intro S1 G1 w1 a1 N k1 k2 k3 k4 k5 k6;obtain⟨S2,e1,e2,e3⟩:=yR (call:=call) hg k1 k2 hc;obtain⟨v,k3⟩:=k3;exact gI (K:=K1 good) (ops:=p1Ops.toList) (o:=p1C) (r:=(.pan (.pv p),S2)) hs e1 k4 k5 rfl N fun a2 w2 G2 j1 j2 j3 j4=>k6 a2 w2 G2 j1 j2 (Dg e2 (by rw[e3];exact k3) j3) j4
 have r0:Region.ready .any p1Ops (Array.replicate 6 false)=[0,1]:=by kernel_rfl
 have r1:Region.ready .any p1Ops ((Array.replicate 6 false).setIfInBounds 0 true)=[1]:=by kernel_rfl
 have r2:Region.ready .any p1Ops ((Array.replicate 6 false).setIfInBounds 1 true)=[0,2]:=by kernel_rfl
 have r3:Region.ready .any p1Ops (((Array.replicate 6 false).setIfInBounds 0 true).setIfInBounds 1 true)=[2]:=by kernel_rfl
 have r4:Region.ready .any p1Ops (((Array.replicate 6 false).setIfInBounds 1 true).setIfInBounds 0 true)=[2]:=by kernel_rfl
 show wpAny Tryz.prog .any p1Ops Q 6 (Array.replicate 6 false) a w.drew
 refine⟨fun h0=>(by rw[r0] at h0;cases h0),fun i hi => ?_⟩
 rw[r0] at hi;simp only[List.mem_cons,List.not_mem_nil,or_false] at hi;rcases hi with rfl|rfl
 ·obtain⟨S1,e1,e2,e3,e4⟩:=rV (good:=good) (call:=call) h hb;refine gI (K:=K1 good) (ops:=p1Ops.toList) (r:=(.norm,S1)) hs e1 hfd hwd rfl _ fun a1 w1 G1 j1 j2 j3 j4 => ?_
  refine⟨fun h0=>(by rw[r1] at h0;cases h0),fun i hi => ?_⟩
  rw[r1] at hi;obtain rfl:=List.mem_singleton.1 hi;obtain⟨S2,f1,f2,f3,f4⟩:=tC (good:=good) (call:=call) e2;refine gI (K:=K1 good) (ops:=p1Ops.toList) (r:=(.norm,S2)) hs f1 j3 j2 rfl _ fun a2 w2 G2 l1 l2 l3 l4 => ?_
  refine⟨fun h0=>(by rw[r3] at h0;cases h0),fun i hi => ?_⟩
  rw[r3] at hi;obtain rfl:=List.mem_singleton.1 hi;exact atC _ f2 f3 (by rw[f4];exact e4) l3 l2 (by rw[l4,j4];exact hpd.ext (j1.trans l1))
 ·obtain⟨S1,e1,e2,e3,e4⟩:=tC (good:=good) (call:=call) h;refine gI (K:=K1 good) (ops:=p1Ops.toList) (r:=(.norm,S1)) hs e1 hfd hwd rfl _ fun a1 w1 G1 j1 j2 j3 j4 => ?_
  refine⟨fun h0=>(by rw[r2] at h0;cases h0),fun i hi => ?_⟩
  rw[r2] at hi;simp only[List.mem_cons,List.not_mem_nil,or_false] at hi;rcases hi with rfl|rfl
  ·obtain⟨S2,f1,f2,f3,f4⟩:=rV (good:=good) (call:=call) e2 (by rw[e4];exact hb)
   refine gI (K:=K1 good) (ops:=p1Ops.toList) (r:=(.norm,S2)) hs f1 j3 j2 rfl _ fun a2 w2 G2 l1 l2 l3 l4 => ?_
   refine⟨fun h0=>(by rw[r4] at h0;cases h0),fun i hi => ?_⟩
   rw[r4] at hi;obtain rfl:=List.mem_singleton.1 hi;exact atC _ f2 (by rw[f3];exact e3) f4 l3 l2 (by rw[l4,j4];exact hpd.ext (j1.trans l1))
  ·exact atC _ e2 e3 ⟨_,by rw[e4];exact hb⟩ j3 j2 (by rw[j4];exact hpd.ext j1)
end
namespace P1
attribute [local go_sem] cG cj bF bH cF cf ce ay aV aR bw bU bg opd avOf cvOf St.degAt St.put okPV dr okAV cQ cR cP cv aj if_true Bool.false_eq_true if_false Option.map_some Option.map_none Option.bind_some Option.bind_none du dh upd List.toList_toArray bC steal aH mvB cX cw bR AV.deg CV.deg AV.gv AV.isIter co cg bG List.length_nil List.length_cons List.filterMap_cons List.filterMap_nil beq_iff_eq List.getElem?_cons_zero List.getElem?_cons_succ Option.getD_some Bool.false_and Bool.and_false Bool.and_self bv bO aJ lend back idx dedup AV.ren CV.ren TV.ren AV.ptrs CV.ptrs ck AV.flat CV.flat bL bu az bV cz dK bD ar bK aQ bd bt aP dV CV.pv? content aN ownT aD reps pvs chunks aZ leave dT bW cN bf aK TV.deg TV.av LK CV.plain CV.noBld cq dS bound List.map_cons List.map_nil List.all_cons List.all_nil List.any_cons List.any_nil List.contains_cons List.contains_nil List.elem_cons List.elem_nil List.cons_append List.nil_append List.append_nil List.flatMap_cons List.flatMap_nil List.zip_cons_cons List.zip_nil_left List.zip_nil_right List.take_succ_cons List.take_zero List.take_nil List.drop_succ_cons List.drop_zero List.drop_nil List.isEmpty_nil List.isEmpty_cons Bool.and_true Bool.true_and Bool.or_true Bool.true_or Bool.or_false Bool.false_or Bool.not_true Bool.not_false Nat.add_zero Nat.zero_add Option.isNone_none Option.isNone_some Option.getD_none true_and and_true not_true_eq_false not_false_eq_true decide_true decide_false Nat.le_refl and_self Bool.not_eq_true Nat.sub_self or_true true_or Option.some.injEq List.length_map List.nil_eq and_false false_and AV.live CV.live CV.liveIn ax Option.orElse_some Option.orElse_none head aI aF Int.lt_irrefl List.length_append ite_self dt br bZ aY Key.clash Key.sees Key.writes Nat.lt_irrefl gt_iff_lt ci dp false_or or_false beq_self_eq_true Bool.true_beq Bool.false_beq
theorem qZ:cA Tryz.prog 39=Option.some Option.none:=by kernel_rfl
theorem kP:bm Tryz.prog 39=Option.some (Go.Abs.Desc.sl 80 Bool.false):=by kernel_rfl
theorem uc:szOf Tryz.prog 80=Option.some 2:=by kernel_rfl
theorem na:zeroCells Tryz.prog 80=Option.some [Go.Abs.CV.nils,Go.Abs.CV.pv (Go.Abs.PV.str [])]:=by kernel_rfl
theorem pI:iA Tryz.prog 39=Option.some (80,2):=by kernel_rfl
theorem uK:szOf Tryz.prog 39=Option.some 1:=by kernel_rfl
theorem xV (a b:PV):lens 2 [[a,b]]=true:=rfl
theorem BP {good:FuncId→Bool} {call:CallF} (hg:good 218=true) {m m2 q c:List (List PV)} {z:List UInt8} {e:TypeId}
  (hc:call 218 [.c (.loc 100000 0)] [[.pv (.sl m)]]=some (.ret (.agg [.pv (.sl q),.pv (.str z)]) [[.pv (.sl m2)]]))
  (he:e=80∨c.isEmpty=true) (hl:lens 2 c=true) (hlen:c.length+1<fg) :
  leave (K1 good) 217 Tryz.f217 2 (bB (K1 good) call 0 217 (.region 0 p1Ops true) (aZ 8 [.c (.loc 100000 0),.c (.loc 100001 0)] [[.pv (.sl m)],[.own e c]]))=some (.ret (.tup []) [[.pv (.sl m2)],[.own 80 (c++[[.sl q,.str z]])]]):=by
 have hP:(K1 good).P=Tryz.prog:=rfl
 have hG:(K1 good).good=good:=rfl
 have hO:∀ f,(K1 good).ownRet f=false:=fun _=>rfl
 have hh:∀ f i,(K1 good).hook f i=false:=fun _ _=>rfl
 have hr:Tryz.f217.results=#[]:=rfl
 simp only[bB,p1Ops,p1A,p1B,p1C,p1D,hh,hP,hG,hO,go_sem,reduceLT,reduceCtorEq,reduceEqDiff,Nat.reduceBEq,reduceAdd,reduceSub,reduceLeDiff,reduceMul,qZ,bo (len:=1) kP uc na ⟨rfl,by decide,by decide⟩,eZ pI,dk kP,uK,hr,hg,hc,he,hl,hlen,xV]
 rw[tB (by kernel_rfl)]
 simp only[go_sem,reduceEqDiff,reduceSub,reduceLeDiff]
end P1
open Classical in
noncomputable def p1Ex (m m2:List (List PV)) (p:PV) (e:TypeId) (c:List (List PV)):Code→St→Option (Out×St):=fun _ S=>if P1S S m∧S.bx 100001=some [.own e c] then some (.pan (.pv p),p1Fin m2) else none
theorem xJ {good : FuncId → Bool} (hgd : ∀ g, good g = true → ∃ fn, Tryz.prog.funcs[g]? = some fn ∧ fn.name ≠ "runtime.NumGoroutine" ∧ fn.body.isSome = true) (hg : good 218 = true) {call : CallF}
  (hc:∀ g args bxs r,good g=true→call g args bxs=some r→Contract Tryz.prog g args bxs r) {args:List AV} {bxs:List (List CV)} {r:Res} (h:(parse1P args bxs).run call=some r) :
  Contract Tryz.prog 217 args bxs r:=by
 have hs:Sound (K1 good) call:=⟨hgd,hc⟩
 have hm:Tryz.prog.follows .mixedOrders=true:=by kernel_rfl
 unfold parse1P at h;split at h
 case h_2=>cases h
 rename_i s t m e c;split at h
 case isFalse=>cases h
 rename_i hst;obtain⟨rfl,rfl⟩:=hst;simp only[Plan.run] at h;split at h
 case h_2=>cases h
 rename_i r1 hr1;split at h
 ·rename_i p m2;simp only[Plan.run,Option.some.injEq] at h;subst h;have hP:P1S (aZ 8 [.c (.loc 100000 0),.c (.loc 100001 0)] [[.pv (.sl m)],[.own e c]]) m∧(aZ 8 [.c (.loc 100000 0),.c (.loc 100001 0)] [[.pv (.sl m)],[.own e c]]).bx 100001=some [.own e c] :=
   ⟨⟨rfl,rfl,rfl,rfl,fun s hs=>by show (if LK≤s then _ else none)=none;rw[if_neg (by omega)]⟩,rfl⟩
  have hx:enter (K1 good) (p1Ex m m2 p e c) 217 [.c (.loc 100000 0),.c (.loc 100001 0)] [[.pv (.sl m)],[.own e c]]=some (.pan (.pv p) [[.pv (.sl m2)],[.top]]):=by
   unfold enter;have hf:(K1 good).P.funcs[217]? = some Tryz.f217:=Tryz.func217
   have hn:Tryz.f217.ntmps=8:=rfl
   rw[hf];simp only[nh,hn];rw[if_pos ⟨by simp,by simp[LK]⟩]
   unfold p1Ex;rw[if_pos hP];rfl
  exact pk (K:=K1 good) hx fun fn b hfn hb {Q S G w a r} hr hf hw hp=>by
   have hfn:Tryz.prog.funcs[217]? = some fn:=hfn
   rw[Tryz.func217] at hfn;cases hfn;rw[nh] at hb;cases hb;unfold p1Ex at hr;split at hr
   case isFalse=>cases hr
   rename_i hPS;cases hr;exact CO hs hm hg hr1 hPS.1 hPS.2 hf hw hp
 ·rename_i q z m2;split at h
  case isFalse=>cases h
  rename_i hE;simp only[Plan.run,Option.some.injEq] at h;subst h;obtain⟨he,hl,hlen⟩:=hE;have hx:enter (K1 good) (bB (K1 good) call 0 217) 217 [.c (.loc 100000 0),.c (.loc 100001 0)] [[.pv (.sl m)],[.own e c]]=some (.ret (.tup []) [[.pv (.sl m2)],[.own 80 (c++[[.sl q,.str z]])]]):=by
   unfold enter;have hf:(K1 good).P.funcs[217]? = some Tryz.f217:=Tryz.func217
   have hn:Tryz.f217.ntmps=8:=rfl
   rw[hf];simp only[nh,hn];rw[if_pos ⟨by simp,by simp[LK]⟩]
   exact P1.BP hg hr1 he hl hlen
  exact pk (K:=K1 good) hx fun fn b hfn hb {Q S G w a r} hr hf hw hp=>by
   have hfn:Tryz.prog.funcs[217]? = some fn:=hfn
   rw[Tryz.func217] at hfn;cases hfn;rw[nh] at hb;cases hb;exact wk hs hm 0 _ _ hr Dv hf hw hp
 ·cases h
end Go.Abs
namespace Go.Abs
open Go Go.Proofs Go.RowKit
section
variable {P:Program}
def fi (s:ByteArray):List MapEntry→Nat→Option (Nat×Value)
 | [],_=>none
 | e::es,i=>match e.key with
  | .string k=>if s==k then some (i,e.val) else fi s es (i+1)
  | _=>fi s es (i+1)
theorem jU {s:ByteArray}:∀ {es:List MapEntry} (i:Nat),(∀ e∈es, ∃ k,e.key=.string k)→Instr.findNow .string (.string s) es i=some (fi s es i)
 | [],_,_=>rfl
 | e::es,i,h=>by
  obtain⟨k,hk⟩:=h e (by simp)
  have ih:=jU (s:=s) (es:=es) (i+1) fun e he=>h e (by simp[he])
  rw[Instr.findNow,fi,hk,ih];have e1:Instr.sameNow .string (.string s) (.string k)=some (s==k):=rfl
  rw[e1];cases hq:(s==k)<;>simp[hq]
theorem qC (s k:ByteArray):(s==k)=decide (s=k):=by
 obtain⟨a⟩:=s;obtain⟨b⟩:=k;have e:((⟨a⟩:ByteArray)==⟨b⟩)=(a==b):=rfl
 rw[e];by_cases h:a=b
 ·subst h;simp
 ·have h2:¬ (⟨a⟩:ByteArray)=⟨b⟩:=fun h'=>h (ByteArray.mk.inj h')
  rw[decide_eq_false h2,beq_eq_false_iff_ne];exact h
theorem qW {t key elem:TypeId} (ht:P.underlying t=some (.map key elem)) (hk:P.underlying key=some .string) (w:World) (es:Array MapEntry) (clock:Nat) (s:ByteArray) (v:Value)
  (hall:∀ e∈es.toList, ∃ k,e.key=.string k) (hf:fi s es.toList 0=none) :
  (Instr.mapUpdate t (.map (some w.heap.size)) (.string s) v).run P (w.alloc (.map es clock))=.ok () (w.alloc (.map (es.push { key:=.string s,val:=v,born:=clock }) (clock+1))):=by
 have hh:(w.alloc (.map es clock)).heap[w.heap.size]? = some (.map es clock):=heap_alloc_new w _
 have hc:(Instr.checkKey false 10000 key (.string s)).run P (w.alloc (.map es clock))=.ok () (w.alloc (.map es clock)):=MapKept.run_checkKey (k:=.string s) hk (by simp[MapKept.IsKey]) false 9999
 have hnow:Instr.findNow .string (.string s) es.toList 0=some none:=by rw[jU 0 hall,hf]
 have hset:(setObj w.heap.size (.map (es.push { key:=.string s,val:=v,born:=clock }) (clock+1))).run P (w.alloc (.map es clock))=.ok () (w.alloc (.map (es.push { key:=.string s,val:=v,born:=clock }) (clock+1))):=by
  simp only[setObj,Sem.run,hh];exact congrArg (Result.ok ()) (qA w _ _)
 have hget:(getObj w.heap.size).run P (w.alloc (.map es clock))=.ok (.map es clock) (w.alloc (.map es clock)):=by simp only[getObj,Sem.run,hh]
 unfold Instr.mapUpdate;simp only[Sem.run_bind,run_underlying ht,Result.andThen_ok,hget,hc,MapKept.run_findKey hk hnow,hset]
theorem rI {t key elem:TypeId} (ht:P.underlying t=some (.map key elem)) (hk:P.underlying key=some .string) {w:World} {r:Nat} {es:Array MapEntry} {clock:Nat} (hb:w.heap[r]? = some (.map es clock)) (s:ByteArray)
  (hall:∀ e∈es.toList, ∃ k,e.key=.string k) {i:Nat} {v:Value} (hf:fi s es.toList 0=some (i,v)) :
  (Instr.lookup t (.map (some r)) (.string s) true).run P w=.ok (.tuple #[v,.bool true]) w:=by
 have hc:(Instr.checkKey es.isEmpty 10000 key (.string s)).run P w=.ok () w:=MapKept.run_checkKey (k:=.string s) hk (by simp[MapKept.IsKey]) es.isEmpty 9999
 have hnow:Instr.findNow .string (.string s) es.toList 0=some (some (i,v)):=by rw[jU 0 hall,hf]
 have hget:(getObj r).run P w=.ok (.map es clock) w:=by simp only[getObj,Sem.run,hb]
 unfold Instr.lookup;simp only[Sem.run_bind,run_underlying ht,Result.andThen_ok,hget,hc,MapKept.run_findKey hk hnow,Sem.run_pure];rfl
theorem mX {t key elem:TypeId} (ht:P.underlying t=some (.map key elem)) (hk:P.underlying key=some .string) {w:World} {r:Nat} {es:Array MapEntry} {clock:Nat} (hb:w.heap[r]? = some (.map es clock)) (s:ByteArray)
  (hall:∀ e∈es.toList, ∃ k,e.key=.string k) (hf:fi s es.toList 0=none) {z:Value} (hz:(zeroValue elem).run P w=.ok z w) :
  (Instr.lookup t (.map (some r)) (.string s) true).run P w=.ok (.tuple #[z,.bool false]) w:=by
 have hc:(Instr.checkKey es.isEmpty 10000 key (.string s)).run P w=.ok () w:=MapKept.run_checkKey (k:=.string s) hk (by simp[MapKept.IsKey]) es.isEmpty 9999
 have hnow:Instr.findNow .string (.string s) es.toList 0=some none:=by rw[jU 0 hall,hf]
 have hget:(getObj r).run P w=.ok (.map es clock) w:=by simp only[getObj,Sem.run,hb]
 unfold Instr.lookup;simp only[Sem.run_bind,run_underlying ht,Result.andThen_ok,hget,hc,MapKept.run_findKey hk hnow,hz,Sem.run_pure];rfl
end
end Go.Abs
namespace Go.Abs
open Go Go.Proofs Go.RowKit
abbrev gy:List UInt8:=[107,101,121,102,114,97,109,101,115]
abbrev me:List UInt8:=[102,111,110,116,45,102,97,99,101]
abbrev lJ:List UInt8:=[109,101,100,105,97]
abbrev fJ:List UInt8:=[108,97,121,101,114]
def ko (nm:List UInt8) (wh:Int):Option FuncId :=
 if nm=[] then some 106
 else if nm=gy then some 107
 else if nm=me then some 108
 else if nm=lJ then(if wh=2 then none else some 109)
 else if nm=fJ then(if wh=0 then some 110 else none)
 else none
section
variable (a e:Bool) (nm:ByteArray) (p b:Value) (w:World)
abbrev stmA:Array Value:=#[.bool a,.string nm,p,b,.bool e]
abbrev stmO:Obj:=.cells (stmA a e nm p b) 88
abbrev zItm:Array Value:=#[.int .i64 0,.slice none 0 0,.slice none 0 0,.slice none 0 0,.int .i64 0,.int .i64 0,.slice none 0 0,.slice none 0 0]
abbrev itmO (c:Array Value):Obj:=.cells c 43
abbrev itW:World:=(w.alloc (stmO a e nm p b)).alloc (itmO zItm)
abbrev bnd (f:FuncId):Value:=.func (.func f) #[.agg (stmA a e nm p b)] #[]
abbrev rowI (k:List UInt8) (f:FuncId) (n:Nat):MapEntry := { key:=.string ⟨k.toArray⟩,val:=bnd a e nm p b f,born:=n }
def dA:Nat→Array MapEntry
 | 0=>#[]
 | 1=>#[rowI a e nm p b [] 106 0]
 | 2=>#[rowI a e nm p b [] 106 0,rowI a e nm p b gy 107 1]
 | 3=>#[rowI a e nm p b [] 106 0,rowI a e nm p b gy 107 1,rowI a e nm p b me 108 2]
 | 4=>#[rowI a e nm p b [] 106 0,rowI a e nm p b gy 107 1,rowI a e nm p b me 108 2,rowI a e nm p b lJ 109 3]
 | _=>#[rowI a e nm p b [] 106 0,rowI a e nm p b gy 107 1,rowI a e nm p b me 108 2,rowI a e nm p b lJ 109 3,rowI a e nm p b fJ 110 4]
def mapW (n:Nat):World:=(itW a e nm p b w).alloc (.map (dA a e nm p b n) n)
end
theorem pt (a e:Bool) (nm:ByteArray) (p b:Value) (w:World) (n m:Nat) (k:List UInt8) (f:FuncId) (hall:∀ x∈(dA a e nm p b n).toList, ∃ k,x.key=.string k) (hf:fi ⟨k.toArray⟩ (dA a e nm p b n).toList 0=none)
  (hp:(dA a e nm p b n).push (rowI a e nm p b k f n)=dA a e nm p b m) (hm:m=n+1) :
  (Instr.mapUpdate 152 (.map (some (w.heap.size+1+1))) (.string ⟨k.toArray⟩) (bnd a e nm p b f)).run Tryz.prog (mapW a e nm p b w n)=.ok () (mapW a e nm p b w m):=by
 subst hm;have ht:Tryz.prog.underlying 152=some (.map 9 151):=by kernel_rfl
 have hk:Tryz.prog.underlying 9=some .string:=by kernel_rfl
 have hs0:(itW a e nm p b w).heap.size=w.heap.size+1+1:=by simp[]
 have:=qW ht hk (itW a e nm p b w) (dA a e nm p b n) n ⟨k.toArray⟩ (bnd a e nm p b f) hall hf
 rw[hs0] at this
 unfold mapW;rw[←hp];exact this
theorem Dx (a e:Bool) (nm:ByteArray) (p b:Value) (w:World):(Instr.makeMap 152 none).run Tryz.prog (itW a e nm p b w)=.ok (.map (some (w.heap.size+1+1))) (mapW a e nm p b w 0):=by
 have:=run_makeMap_plain (P:=Tryz.prog) (w:=itW a e nm p b w) 152
 rw[show (itW a e nm p b w).heap.size=w.heap.size+1+1 by simp[]] at this
 exact this
theorem aw {w:World} {b:Nat} {cs:Array Value} {ty:TypeId} (h:w.heap[b]? = some (.cells cs ty (0,0))) (o:Nat):w.frozen? ⟨b,o,none⟩=false:=by
 unfold World.frozen?
 rw[h];simp
theorem oU (a e:Bool) (nm:ByteArray) (p b:Value) (w:World) (n:Nat):(mapW a e nm p b w n).heap[w.heap.size]? = some (stmO a e nm p b):=by
 unfold mapW;rw[aA _ _ _ (by simp only[am];omega),aA _ _ _ (by simp only[am];omega)]
 exact heap_alloc_new w _
theorem ap (a e:Bool) (nm:ByteArray) (p b:Value) (w:World) (n:Nat):(mapW a e nm p b w n).heap[w.heap.size+1]? = some (itmO zItm):=by
 unfold mapW;rw[aA _ _ _ (by simp only[am];omega)]
 have:=heap_alloc_new (w.alloc (stmO a e nm p b)) (itmO zItm)
 rw[am] at this
 exact this
theorem uv (W:World) (r:Nat) (x y:Array Value):(W.setRow r x).setRow r y=W.setRow r y:=by
 have e:((W.setRow r x).setRow r y).heap=(W.setRow r y).heap:=by
  apply Array.ext
  ·simp[World.setRow]
  ·intro i h1 h2;simp only[World.setRow,Array.getElem_modify];split
   ·cases W.heap[i]'(by simpa[World.setRow] using h1)<;>rfl
   ·rfl
 exact congrArg (fun h=>({ W with heap:=h }:World)) e
theorem jQ {W:World} {r:Nat} {ty:TypeId} (h:W.heap[r]? = some (.cells zItm ty (0,0))) (y0 y1 y2 y3 y4 y5 y6 y7:Value) :
  ((((((((W.setCell ⟨r,0,none⟩ y0).setCell ⟨r,1,none⟩ y1).setCell ⟨r,2,none⟩ y2).setCell ⟨r,3,none⟩ y3).setCell ⟨r,4,none⟩ y4).setCell ⟨r,5,none⟩ y5).setCell ⟨r,6,none⟩ y6).setCell ⟨r,7,none⟩ y7)=W.setRow r #[y0,y1,y2,y3,y4,y5,y6,y7]:=by
 have s:∀ (x:Array Value) (o:Nat) (v:Value),(W.setRow r x).setCell ⟨r,o,none⟩ v=W.setRow r (x.setIfInBounds o v):=fun x o v=>by
  rw[gJ (setRow_heap W r _ x ty _ h) v,uv]
 rw[gJ h,s,s,s,s,s,s,s];simp only[zItm,List.setIfInBounds_toArray,List.set_cons_zero,List.set_cons_succ]
section
variable {a e:Bool} {nm:ByteArray} {p b:Value} {w:World}
structure ItEnd (w:World) (Q:Ending→World→Prop) (en:Ending) (w':World):Prop where
 out:∃ k0 a1 n1 r1 a2 n2 r2 a3 n3 r3 k4 k5 a6 n6 r6 a7 n7 r7 t,en=.returned (.tuple #[.agg #[.int .i64 k0,.slice a1 n1 r1,.slice a2 n2 r2,.slice a3 n3 r3,.int .i64 k4,.int .i64 k5,.slice a6 n6 r6,.slice a7 n7 r7],.bool t])∧w'.heap[w.heap.size+1]? = some (itmO zItm)∧Q en (w'.setRow (w.heap.size+1) #[.int .i64 k0,.slice a1 n1 r1,.slice a2 n2 r2,.slice a3 n3 r3,.int .i64 k4,.int .i64 k5,.slice a6 n6 r6,.slice a7 n7 r7])
structure ItWalk (a e q l is:Bool) (nm:ByteArray) (p b:Value) (w:World) (n:Nat) (v:Value) (Q:Ending→World→Prop):Prop where
 no:(!is||(a==q)||(!l && !e))=true→Q (.returned (.tuple #[.agg zItm,.bool false])) ((mapW a e nm p b w n).setRow (w.heap.size+1) zItm)
 go:(!is||(a==q)||(!l && !e))=false→∃ f,v=bnd a e nm p b f∧(∀ (args:Array Value) (w:World),(callFunc f args).run Tryz.prog w=.ok (.enter f args) w) ∧
  Calls Tryz.prog f #[.agg (stmA a e nm p b)] (mapW a e nm p b w n) fun en w'=>ItEnd w Q en w'
end
set_option maxRecDepth 100000 in
theorem xz (a e q l is:Bool) (nm:ByteArray) (hE:nm.toList.isEmpty=q) (hL:(nm.toList==fJ)=l) (p b:Value) (w:World) (Q:Ending→World→Prop) (v:Value) (wh:Int) (n:Nat)
  (hcase:(wh=2∧n=3)∨(wh=0∧n=5)∨((wh==2)=false∧(wh==0)=false∧n=4))
  (hl:(Instr.lookup 152 (.map (some (w.heap.size+1+1))) (.string nm) true).run Tryz.prog (mapW a e nm p b w n)=.ok (.tuple #[v,.bool is]) (mapW a e nm p b w n)) (hQ:ItWalk a e q l is nm p b w n v Q) :
  Calls Tryz.prog 56 #[.agg (stmA a e nm p b),.int .i64 wh] w Q:=by
 have hm:=Dx a e nm p b w
 have hmf:∀ (fn:Fn) (first cap:Array Value) (w:World),(Instr.makeFunc fn first cap).run Tryz.prog w=.ok (.func fn first cap) w:=fun _ _ _ _=>rfl
 have h1:=pt a e nm p b w 0 1 [] 106 (by simp[dA]) rfl rfl rfl
 have h2:=pt a e nm p b w 1 2 gy 107 (by simp[dA]) rfl rfl rfl
 have h3:=pt a e nm p b w 2 3 me 108 (by simp[dA]) rfl rfl rfl
 have h4:=pt a e nm p b w 3 4 lJ 109 (by simp[dA]) rfl rfl rfl
 have h5:=pt a e nm p b w 4 5 fJ 110 (by simp[dA]) rfl rfl rfl
 have c0:∀ n,(mapW a e nm p b w n).cell? ⟨w.heap.size,0,none⟩=some (.bool a):=fun n=>aa (oU a e nm p b w n) 0
 have c1:∀ n,(mapW a e nm p b w n).cell? ⟨w.heap.size,1,none⟩=some (.string nm):=fun n=>aa (oU a e nm p b w n) 1
 have c2:∀ n,(mapW a e nm p b w n).cell? ⟨w.heap.size,2,none⟩=some p:=fun n=>aa (oU a e nm p b w n) 2
 have c3:∀ n,(mapW a e nm p b w n).cell? ⟨w.heap.size,3,none⟩=some b:=fun n=>aa (oU a e nm p b w n) 3
 have c4:∀ n,(mapW a e nm p b w n).cell? ⟨w.heap.size,4,none⟩=some (.bool e):=fun n=>aa (oU a e nm p b w n) 4
 have rowEnd:∀ (W:World) (y0 y1 y2 y3 y4 y5 y6 y7:Value) (k:Nat),W.heap[w.heap.size+1]? = some (itmO zItm)→k<8→(W.setRow (w.heap.size+1) #[y0,y1,y2,y3,y4,y5,y6,y7]).cell? ⟨w.heap.size+1,k,none⟩=#[y0,y1,y2,y3,y4,y5,y6,y7][k]? := fun W y0 y1 y2 y3 y4 y5 y6 y7 k h _=>fB h k
 obtain⟨hno,hgo⟩:=hQ;have hL2:(nm.toList=fJ)=(l=true):=by rw[←hL];simp
 cases is
 case false =>
  have hn1:=hno rfl
  clear hgo hno;have f0:∀ n,(mapW a e nm p b w n).frozen? ⟨w.heap.size+1,0,none⟩=false:=fun n=>aw (ap a e nm p b w n) 0
  have z0:∀ n,(mapW a e nm p b w n).cell? ⟨w.heap.size+1,0,none⟩=some (.int .i64 0):=fun n=>aa (ap a e nm p b w n) 0
  have f1:∀ n,(mapW a e nm p b w n).frozen? ⟨w.heap.size+1,1,none⟩=false:=fun n=>aw (ap a e nm p b w n) 1
  have z1:∀ n,(mapW a e nm p b w n).cell? ⟨w.heap.size+1,1,none⟩=some (.slice none 0 0):=fun n=>aa (ap a e nm p b w n) 1
  have f2:∀ n,(mapW a e nm p b w n).frozen? ⟨w.heap.size+1,2,none⟩=false:=fun n=>aw (ap a e nm p b w n) 2
  have z2:∀ n,(mapW a e nm p b w n).cell? ⟨w.heap.size+1,2,none⟩=some (.slice none 0 0):=fun n=>aa (ap a e nm p b w n) 2
  have f3:∀ n,(mapW a e nm p b w n).frozen? ⟨w.heap.size+1,3,none⟩=false:=fun n=>aw (ap a e nm p b w n) 3
  have z3:∀ n,(mapW a e nm p b w n).cell? ⟨w.heap.size+1,3,none⟩=some (.slice none 0 0):=fun n=>aa (ap a e nm p b w n) 3
  have f4:∀ n,(mapW a e nm p b w n).frozen? ⟨w.heap.size+1,4,none⟩=false:=fun n=>aw (ap a e nm p b w n) 4
  have z4:∀ n,(mapW a e nm p b w n).cell? ⟨w.heap.size+1,4,none⟩=some (.int .i64 0):=fun n=>aa (ap a e nm p b w n) 4
  have f5:∀ n,(mapW a e nm p b w n).frozen? ⟨w.heap.size+1,5,none⟩=false:=fun n=>aw (ap a e nm p b w n) 5
  have z5:∀ n,(mapW a e nm p b w n).cell? ⟨w.heap.size+1,5,none⟩=some (.int .i64 0):=fun n=>aa (ap a e nm p b w n) 5
  have f6:∀ n,(mapW a e nm p b w n).frozen? ⟨w.heap.size+1,6,none⟩=false:=fun n=>aw (ap a e nm p b w n) 6
  have z6:∀ n,(mapW a e nm p b w n).cell? ⟨w.heap.size+1,6,none⟩=some (.slice none 0 0):=fun n=>aa (ap a e nm p b w n) 6
  have f7:∀ n,(mapW a e nm p b w n).frozen? ⟨w.heap.size+1,7,none⟩=false:=fun n=>aw (ap a e nm p b w n) 7
  have z7:∀ n,(mapW a e nm p b w n).cell? ⟨w.heap.size+1,7,none⟩=some (.slice none 0 0):=fun n=>aa (ap a e nm p b w n) 7
  have g0:=fun n=>rowEnd (mapW a e nm p b w n) (.int .i64 0) (.slice none 0 0) (.slice none 0 0) (.slice none 0 0) (.int .i64 0) (.int .i64 0) (.slice none 0 0) (.slice none 0 0) 0 (ap a e nm p b w n) (by decide)
  have g1:=fun n=>rowEnd (mapW a e nm p b w n) (.int .i64 0) (.slice none 0 0) (.slice none 0 0) (.slice none 0 0) (.int .i64 0) (.int .i64 0) (.slice none 0 0) (.slice none 0 0) 1 (ap a e nm p b w n) (by decide)
  have g2:=fun n=>rowEnd (mapW a e nm p b w n) (.int .i64 0) (.slice none 0 0) (.slice none 0 0) (.slice none 0 0) (.int .i64 0) (.int .i64 0) (.slice none 0 0) (.slice none 0 0) 2 (ap a e nm p b w n) (by decide)
  have g3:=fun n=>rowEnd (mapW a e nm p b w n) (.int .i64 0) (.slice none 0 0) (.slice none 0 0) (.slice none 0 0) (.int .i64 0) (.int .i64 0) (.slice none 0 0) (.slice none 0 0) 3 (ap a e nm p b w n) (by decide)
  have g4:=fun n=>rowEnd (mapW a e nm p b w n) (.int .i64 0) (.slice none 0 0) (.slice none 0 0) (.slice none 0 0) (.int .i64 0) (.int .i64 0) (.slice none 0 0) (.slice none 0 0) 4 (ap a e nm p b w n) (by decide)
  have g5:=fun n=>rowEnd (mapW a e nm p b w n) (.int .i64 0) (.slice none 0 0) (.slice none 0 0) (.slice none 0 0) (.int .i64 0) (.int .i64 0) (.slice none 0 0) (.slice none 0 0) 5 (ap a e nm p b w n) (by decide)
  have g6:=fun n=>rowEnd (mapW a e nm p b w n) (.int .i64 0) (.slice none 0 0) (.slice none 0 0) (.slice none 0 0) (.int .i64 0) (.int .i64 0) (.slice none 0 0) (.slice none 0 0) 6 (ap a e nm p b w n) (by decide)
  have g7:=fun n=>rowEnd (mapW a e nm p b w n) (.int .i64 0) (.slice none 0 0) (.slice none 0 0) (.slice none 0 0) (.int .i64 0) (.int .i64 0) (.slice none 0 0) (.slice none 0 0) 7 (ap a e nm p b w n) (by decide)
  rcases hcase with⟨rfl,rfl⟩|⟨rfl,rfl⟩|⟨w2,w0,rfl⟩
  all_goals
   go_enter Tryz.func56,Tryz.ntmps56
   go_wp2
   rw[jQ (ap _ _ nm p b w _)];simp[bodyPost,results,Tryz.results56,go_sem,g0,g1,g2,g3,g4,g5,g6,g7];exact hn1
 case true =>
  cases hq:(a==q)
  case true =>
   have hn1:=hno (by rw[hq];rfl)
   clear hgo hno;have f0:∀ n,(mapW a e nm p b w n).frozen? ⟨w.heap.size+1,0,none⟩=false:=fun n=>aw (ap a e nm p b w n) 0
   have z0:∀ n,(mapW a e nm p b w n).cell? ⟨w.heap.size+1,0,none⟩=some (.int .i64 0):=fun n=>aa (ap a e nm p b w n) 0
   have f1:∀ n,(mapW a e nm p b w n).frozen? ⟨w.heap.size+1,1,none⟩=false:=fun n=>aw (ap a e nm p b w n) 1
   have z1:∀ n,(mapW a e nm p b w n).cell? ⟨w.heap.size+1,1,none⟩=some (.slice none 0 0):=fun n=>aa (ap a e nm p b w n) 1
   have f2:∀ n,(mapW a e nm p b w n).frozen? ⟨w.heap.size+1,2,none⟩=false:=fun n=>aw (ap a e nm p b w n) 2
   have z2:∀ n,(mapW a e nm p b w n).cell? ⟨w.heap.size+1,2,none⟩=some (.slice none 0 0):=fun n=>aa (ap a e nm p b w n) 2
   have f3:∀ n,(mapW a e nm p b w n).frozen? ⟨w.heap.size+1,3,none⟩=false:=fun n=>aw (ap a e nm p b w n) 3
   have z3:∀ n,(mapW a e nm p b w n).cell? ⟨w.heap.size+1,3,none⟩=some (.slice none 0 0):=fun n=>aa (ap a e nm p b w n) 3
   have f4:∀ n,(mapW a e nm p b w n).frozen? ⟨w.heap.size+1,4,none⟩=false:=fun n=>aw (ap a e nm p b w n) 4
   have z4:∀ n,(mapW a e nm p b w n).cell? ⟨w.heap.size+1,4,none⟩=some (.int .i64 0):=fun n=>aa (ap a e nm p b w n) 4
   have f5:∀ n,(mapW a e nm p b w n).frozen? ⟨w.heap.size+1,5,none⟩=false:=fun n=>aw (ap a e nm p b w n) 5
   have z5:∀ n,(mapW a e nm p b w n).cell? ⟨w.heap.size+1,5,none⟩=some (.int .i64 0):=fun n=>aa (ap a e nm p b w n) 5
   have f6:∀ n,(mapW a e nm p b w n).frozen? ⟨w.heap.size+1,6,none⟩=false:=fun n=>aw (ap a e nm p b w n) 6
   have z6:∀ n,(mapW a e nm p b w n).cell? ⟨w.heap.size+1,6,none⟩=some (.slice none 0 0):=fun n=>aa (ap a e nm p b w n) 6
   have f7:∀ n,(mapW a e nm p b w n).frozen? ⟨w.heap.size+1,7,none⟩=false:=fun n=>aw (ap a e nm p b w n) 7
   have z7:∀ n,(mapW a e nm p b w n).cell? ⟨w.heap.size+1,7,none⟩=some (.slice none 0 0):=fun n=>aa (ap a e nm p b w n) 7
   have g0:=fun n=>rowEnd (mapW a e nm p b w n) (.int .i64 0) (.slice none 0 0) (.slice none 0 0) (.slice none 0 0) (.int .i64 0) (.int .i64 0) (.slice none 0 0) (.slice none 0 0) 0 (ap a e nm p b w n) (by decide)
   have g1:=fun n=>rowEnd (mapW a e nm p b w n) (.int .i64 0) (.slice none 0 0) (.slice none 0 0) (.slice none 0 0) (.int .i64 0) (.int .i64 0) (.slice none 0 0) (.slice none 0 0) 1 (ap a e nm p b w n) (by decide)
   have g2:=fun n=>rowEnd (mapW a e nm p b w n) (.int .i64 0) (.slice none 0 0) (.slice none 0 0) (.slice none 0 0) (.int .i64 0) (.int .i64 0) (.slice none 0 0) (.slice none 0 0) 2 (ap a e nm p b w n) (by decide)
   have g3:=fun n=>rowEnd (mapW a e nm p b w n) (.int .i64 0) (.slice none 0 0) (.slice none 0 0) (.slice none 0 0) (.int .i64 0) (.int .i64 0) (.slice none 0 0) (.slice none 0 0) 3 (ap a e nm p b w n) (by decide)
   have g4:=fun n=>rowEnd (mapW a e nm p b w n) (.int .i64 0) (.slice none 0 0) (.slice none 0 0) (.slice none 0 0) (.int .i64 0) (.int .i64 0) (.slice none 0 0) (.slice none 0 0) 4 (ap a e nm p b w n) (by decide)
   have g5:=fun n=>rowEnd (mapW a e nm p b w n) (.int .i64 0) (.slice none 0 0) (.slice none 0 0) (.slice none 0 0) (.int .i64 0) (.int .i64 0) (.slice none 0 0) (.slice none 0 0) 5 (ap a e nm p b w n) (by decide)
   have g6:=fun n=>rowEnd (mapW a e nm p b w n) (.int .i64 0) (.slice none 0 0) (.slice none 0 0) (.slice none 0 0) (.int .i64 0) (.int .i64 0) (.slice none 0 0) (.slice none 0 0) 6 (ap a e nm p b w n) (by decide)
   have g7:=fun n=>rowEnd (mapW a e nm p b w n) (.int .i64 0) (.slice none 0 0) (.slice none 0 0) (.slice none 0 0) (.int .i64 0) (.int .i64 0) (.slice none 0 0) (.slice none 0 0) 7 (ap a e nm p b w n) (by decide)
   rcases hcase with⟨rfl,rfl⟩|⟨rfl,rfl⟩|⟨w2,w0,rfl⟩
   all_goals cases a<;>cases q
   all_goals first
    | (exfalso;exact absurd hq (by decide))
    | skip
   all_goals
    go_enter Tryz.func56,Tryz.ntmps56
    go_wp2
    rw[jQ (ap _ _ nm p b w _)];simp[bodyPost,results,Tryz.results56,go_sem,g0,g1,g2,g3,g4,g5,g6,g7];exact hn1
  case false =>
   cases hle:(!l && !e)
   case true =>
    have hn1:=hno (by rw[hq,hle];rfl)
    clear hgo hno;have f0:∀ n,(mapW a e nm p b w n).frozen? ⟨w.heap.size+1,0,none⟩=false:=fun n=>aw (ap a e nm p b w n) 0
    have z0:∀ n,(mapW a e nm p b w n).cell? ⟨w.heap.size+1,0,none⟩=some (.int .i64 0):=fun n=>aa (ap a e nm p b w n) 0
    have f1:∀ n,(mapW a e nm p b w n).frozen? ⟨w.heap.size+1,1,none⟩=false:=fun n=>aw (ap a e nm p b w n) 1
    have z1:∀ n,(mapW a e nm p b w n).cell? ⟨w.heap.size+1,1,none⟩=some (.slice none 0 0):=fun n=>aa (ap a e nm p b w n) 1
    have f2:∀ n,(mapW a e nm p b w n).frozen? ⟨w.heap.size+1,2,none⟩=false:=fun n=>aw (ap a e nm p b w n) 2
    have z2:∀ n,(mapW a e nm p b w n).cell? ⟨w.heap.size+1,2,none⟩=some (.slice none 0 0):=fun n=>aa (ap a e nm p b w n) 2
    have f3:∀ n,(mapW a e nm p b w n).frozen? ⟨w.heap.size+1,3,none⟩=false:=fun n=>aw (ap a e nm p b w n) 3
    have z3:∀ n,(mapW a e nm p b w n).cell? ⟨w.heap.size+1,3,none⟩=some (.slice none 0 0):=fun n=>aa (ap a e nm p b w n) 3
    have f4:∀ n,(mapW a e nm p b w n).frozen? ⟨w.heap.size+1,4,none⟩=false:=fun n=>aw (ap a e nm p b w n) 4
    have z4:∀ n,(mapW a e nm p b w n).cell? ⟨w.heap.size+1,4,none⟩=some (.int .i64 0):=fun n=>aa (ap a e nm p b w n) 4
    have f5:∀ n,(mapW a e nm p b w n).frozen? ⟨w.heap.size+1,5,none⟩=false:=fun n=>aw (ap a e nm p b w n) 5
    have z5:∀ n,(mapW a e nm p b w n).cell? ⟨w.heap.size+1,5,none⟩=some (.int .i64 0):=fun n=>aa (ap a e nm p b w n) 5
    have f6:∀ n,(mapW a e nm p b w n).frozen? ⟨w.heap.size+1,6,none⟩=false:=fun n=>aw (ap a e nm p b w n) 6
    have z6:∀ n,(mapW a e nm p b w n).cell? ⟨w.heap.size+1,6,none⟩=some (.slice none 0 0):=fun n=>aa (ap a e nm p b w n) 6
    have f7:∀ n,(mapW a e nm p b w n).frozen? ⟨w.heap.size+1,7,none⟩=false:=fun n=>aw (ap a e nm p b w n) 7
    have z7:∀ n,(mapW a e nm p b w n).cell? ⟨w.heap.size+1,7,none⟩=some (.slice none 0 0):=fun n=>aa (ap a e nm p b w n) 7
    have g0:=fun n=>rowEnd (mapW a e nm p b w n) (.int .i64 0) (.slice none 0 0) (.slice none 0 0) (.slice none 0 0) (.int .i64 0) (.int .i64 0) (.slice none 0 0) (.slice none 0 0) 0 (ap a e nm p b w n) (by decide)
    have g1:=fun n=>rowEnd (mapW a e nm p b w n) (.int .i64 0) (.slice none 0 0) (.slice none 0 0) (.slice none 0 0) (.int .i64 0) (.int .i64 0) (.slice none 0 0) (.slice none 0 0) 1 (ap a e nm p b w n) (by decide)
    have g2:=fun n=>rowEnd (mapW a e nm p b w n) (.int .i64 0) (.slice none 0 0) (.slice none 0 0) (.slice none 0 0) (.int .i64 0) (.int .i64 0) (.slice none 0 0) (.slice none 0 0) 2 (ap a e nm p b w n) (by decide)
    have g3:=fun n=>rowEnd (mapW a e nm p b w n) (.int .i64 0) (.slice none 0 0) (.slice none 0 0) (.slice none 0 0) (.int .i64 0) (.int .i64 0) (.slice none 0 0) (.slice none 0 0) 3 (ap a e nm p b w n) (by decide)
    have g4:=fun n=>rowEnd (mapW a e nm p b w n) (.int .i64 0) (.slice none 0 0) (.slice none 0 0) (.slice none 0 0) (.int .i64 0) (.int .i64 0) (.slice none 0 0) (.slice none 0 0) 4 (ap a e nm p b w n) (by decide)
    have g5:=fun n=>rowEnd (mapW a e nm p b w n) (.int .i64 0) (.slice none 0 0) (.slice none 0 0) (.slice none 0 0) (.int .i64 0) (.int .i64 0) (.slice none 0 0) (.slice none 0 0) 5 (ap a e nm p b w n) (by decide)
    have g6:=fun n=>rowEnd (mapW a e nm p b w n) (.int .i64 0) (.slice none 0 0) (.slice none 0 0) (.slice none 0 0) (.int .i64 0) (.int .i64 0) (.slice none 0 0) (.slice none 0 0) 6 (ap a e nm p b w n) (by decide)
    have g7:=fun n=>rowEnd (mapW a e nm p b w n) (.int .i64 0) (.slice none 0 0) (.slice none 0 0) (.slice none 0 0) (.int .i64 0) (.int .i64 0) (.slice none 0 0) (.slice none 0 0) 7 (ap a e nm p b w n) (by decide)
    rcases hcase with⟨rfl,rfl⟩|⟨rfl,rfl⟩|⟨w2,w0,rfl⟩
    all_goals cases a<;>cases q<;>cases l<;>cases e
    all_goals first
     | (exfalso;exact absurd hq (by decide))
     | (exfalso;exact absurd hle (by decide))
     | skip
    all_goals
     go_enter Tryz.func56,Tryz.ntmps56
     go_wp2
     rw[jQ (ap _ _ nm p b w _)];simp[bodyPost,results,Tryz.results56,go_sem,g0,g1,g2,g3,g4,g5,g6,g7];exact hn1
   case false =>
    obtain⟨f,rfl,hcf,hF⟩:=hgo (by rw[hq,hle];rfl)
    clear hno hgo;rcases hcase with⟨rfl,rfl⟩|⟨rfl,rfl⟩|⟨w2,w0,rfl⟩
    all_goals cases a<;>cases q<;>cases l<;>cases e
    all_goals first
     | (exfalso;exact absurd hq (by decide))
     | (exfalso;exact absurd hle (by decide))
     | skip
    all_goals
     go_enter Tryz.func56,Tryz.ntmps56
     go_wp2_with (refine hF.mono ?_)
     rintro en w' ⟨⟨k0,a1,n1,r1,a2,n2,r2,a3,n3,r3,k4,k5,a6,n6,r6,a7,n7,r7,t,rfl,hr,hfin⟩⟩
     have f0:w'.frozen? ⟨w.heap.size+1,0,none⟩=false:=aw hr 0
     have z0:w'.cell? ⟨w.heap.size+1,0,none⟩=some (.int .i64 0):=aa hr 0
     have f1:w'.frozen? ⟨w.heap.size+1,1,none⟩=false:=aw hr 1
     have z1:w'.cell? ⟨w.heap.size+1,1,none⟩=some (.slice none 0 0):=aa hr 1
     have f2:w'.frozen? ⟨w.heap.size+1,2,none⟩=false:=aw hr 2
     have z2:w'.cell? ⟨w.heap.size+1,2,none⟩=some (.slice none 0 0):=aa hr 2
     have f3:w'.frozen? ⟨w.heap.size+1,3,none⟩=false:=aw hr 3
     have z3:w'.cell? ⟨w.heap.size+1,3,none⟩=some (.slice none 0 0):=aa hr 3
     have f4:w'.frozen? ⟨w.heap.size+1,4,none⟩=false:=aw hr 4
     have z4:w'.cell? ⟨w.heap.size+1,4,none⟩=some (.int .i64 0):=aa hr 4
     have f5:w'.frozen? ⟨w.heap.size+1,5,none⟩=false:=aw hr 5
     have z5:w'.cell? ⟨w.heap.size+1,5,none⟩=some (.int .i64 0):=aa hr 5
     have f6:w'.frozen? ⟨w.heap.size+1,6,none⟩=false:=aw hr 6
     have z6:w'.cell? ⟨w.heap.size+1,6,none⟩=some (.slice none 0 0):=aa hr 6
     have f7:w'.frozen? ⟨w.heap.size+1,7,none⟩=false:=aw hr 7
     have z7:w'.cell? ⟨w.heap.size+1,7,none⟩=some (.slice none 0 0):=aa hr 7
     have g0:=rowEnd w' (.int .i64 k0) (.slice a1 n1 r1) (.slice a2 n2 r2) (.slice a3 n3 r3) (.int .i64 k4) (.int .i64 k5) (.slice a6 n6 r6) (.slice a7 n7 r7) 0 hr (by decide)
     have g1:=rowEnd w' (.int .i64 k0) (.slice a1 n1 r1) (.slice a2 n2 r2) (.slice a3 n3 r3) (.int .i64 k4) (.int .i64 k5) (.slice a6 n6 r6) (.slice a7 n7 r7) 1 hr (by decide)
     have g2:=rowEnd w' (.int .i64 k0) (.slice a1 n1 r1) (.slice a2 n2 r2) (.slice a3 n3 r3) (.int .i64 k4) (.int .i64 k5) (.slice a6 n6 r6) (.slice a7 n7 r7) 2 hr (by decide)
     have g3:=rowEnd w' (.int .i64 k0) (.slice a1 n1 r1) (.slice a2 n2 r2) (.slice a3 n3 r3) (.int .i64 k4) (.int .i64 k5) (.slice a6 n6 r6) (.slice a7 n7 r7) 3 hr (by decide)
     have g4:=rowEnd w' (.int .i64 k0) (.slice a1 n1 r1) (.slice a2 n2 r2) (.slice a3 n3 r3) (.int .i64 k4) (.int .i64 k5) (.slice a6 n6 r6) (.slice a7 n7 r7) 4 hr (by decide)
     have g5:=rowEnd w' (.int .i64 k0) (.slice a1 n1 r1) (.slice a2 n2 r2) (.slice a3 n3 r3) (.int .i64 k4) (.int .i64 k5) (.slice a6 n6 r6) (.slice a7 n7 r7) 5 hr (by decide)
     have g6:=rowEnd w' (.int .i64 k0) (.slice a1 n1 r1) (.slice a2 n2 r2) (.slice a3 n3 r3) (.int .i64 k4) (.int .i64 k5) (.slice a6 n6 r6) (.slice a7 n7 r7) 6 hr (by decide)
     have g7:=rowEnd w' (.int .i64 k0) (.slice a1 n1 r1) (.slice a2 n2 r2) (.slice a3 n3 r3) (.int .i64 k4) (.int .i64 k5) (.slice a6 n6 r6) (.slice a7 n7 r7) 7 hr (by decide)
     go_wp2
     rw[jQ hr];simp[bodyPost,results,Tryz.results56,go_sem,g0,g1,g2,g3,g4,g5,g6,g7];exact hfin
end Go.Abs
namespace Go.Abs
open Go Go.Proofs Go.RowKit
def uw:Res:=.ret (.tup [.agg [.pv (.int .i64 0),.nils,.nils,.nils,.pv (.int .i64 0),.pv (.int .i64 0),.nils,.nils],.c (.pv (.bool false))]) []
def zT (cs:List CV):Bool:=match pvs cs with
 | some [.int .i64 _,.sl _,.sl _,.sl _,.int .i64 _,.int .i64 _,.sl _,.sl _]=>true
 | _=>false
def si (good:FuncId→Bool):List AV→List (List CV)→Plan
 | [.agg [.pv (.bool a),.pv (.str nm),.pv (.sl p),.pv (.sl b),.pv (.bool e)],.c (.pv (.int .i64 wh))],[] =>
  match ko nm wh with
  | none=>.done uw
  | some g =>
   if (a==nm.isEmpty)||(!(nm==fJ) && !e) then .done uw
   else if good g then
    .call g [.agg [.pv (.bool a),.pv (.str nm),.pv (.sl p),.pv (.sl b),.pv (.bool e)]] [] fun r=>match r with
     | .ret (.tup [.agg cs,.c (.pv (.bool t))]) []=>if zT cs then .done (.ret (.tup [.agg cs,.c (.pv (.bool t))]) []) else .fail
     | _=>.fail
   else .fail
 | _,_=>.fail
theorem BX (bs:ByteArray):∀ (n i:Nat) (r:List UInt8),bs.size - i=n→ByteArray.toList.loop bs i r=r.reverse++bs.data.toList.drop i:=by
 intro n
 induction n with
 | zero =>
  intro i r h;unfold ByteArray.toList.loop;rw[if_neg (by omega),List.drop_eq_nil_of_le (by have:bs.data.toList.length=bs.size:=rfl;omega),List.append_nil]
 | succ n ih =>
  intro i r h;unfold ByteArray.toList.loop;rw[if_pos (by omega),ih (i+1) _ (by omega),List.reverse_cons,List.append_assoc]
  congr 1
  have hl:i<bs.data.toList.length:=by have:bs.data.toList.length=bs.size:=rfl;omega
  rw[List.drop_eq_getElem_cons hl,List.singleton_append]
  congr 1
  have hi:i<bs.data.size:=hl
  show bs.data[i]! = bs.data.toList[i]
  rw[getElem!_pos bs.data i hi];rfl
theorem toList_mk (l:List UInt8):(ByteArray.mk l.toArray).toList=l:=by
 unfold ByteArray.toList;rw[BX _ _ 0 [] rfl];simp
theorem tb {l m:List UInt8} (h:l≠m):((⟨l.toArray⟩:ByteArray)==⟨m.toArray⟩)=false:=by
 rw[qC];exact decide_eq_false fun e=>h (by
  have:=congrArg (fun x=>x.data.toList) e
  simpa using this)
theorem tU (l:List UInt8):((⟨l.toArray⟩:ByteArray)==⟨l.toArray⟩)=true:=by
 rw[qC];exact decide_eq_true rfl
section
variable {a e:Bool} {nm:List UInt8} {p b:Value} {w:World}
theorem yP (a e:Bool) (nm:ByteArray) (p b:Value) (w:World) (n:Nat):(mapW a e nm p b w n).heap[w.heap.size+1+1]? = some (.map (dA a e nm p b n) n):=by
 unfold mapW;have:=heap_alloc_new (itW a e nm p b w) (.map (dA a e nm p b n) n)
 rw[show (itW a e nm p b w).heap.size=w.heap.size+1+1 by simp[]] at this
 exact this
theorem Ao (a e:Bool) (nm:ByteArray) (p b:Value) (n:Nat) (hn:n=3∨n=4∨n=5):∀ x∈(dA a e nm p b n).toList, ∃ k,x.key=.string k:=by
 rcases hn with rfl|rfl|rfl<;>simp[dA]
def eo (wh:Int):Nat:=if wh=2 then 3 else if wh=0 then 5 else 4
theorem iY (wh:Int):(wh=2∧eo wh=3)∨(wh=0∧eo wh=5)∨((wh==2)=false∧(wh==0)=false∧eo wh=4):=by
 unfold eo;by_cases h:wh=2
 ·exact .inl ⟨h,if_pos h⟩
 ·by_cases h0:wh=0
  ·exact .inr (.inl ⟨h0,by rw[if_neg h,if_pos h0]⟩)
  ·exact .inr (.inr ⟨by simpa using h,by simpa using h0,by rw[if_neg h,if_neg h0]⟩)
theorem jL (wh:Int):eo wh=3∨eo wh=4∨eo wh=5:=by
 rcases iY wh with⟨_,h⟩|⟨_,h⟩|⟨_,_,h⟩<;>simp[h]
theorem wF (a e:Bool) (nm:List UInt8) (bnm:ByteArray) (p b:Value) (wh:Int):match ko nm wh with
  | some f=>∃ i,fi ⟨nm.toArray⟩ (dA a e bnm p b (eo wh)).toList 0=some (i,bnd a e bnm p b f)
  | none=>fi ⟨nm.toArray⟩ (dA a e bnm p b (eo wh)).toList 0=none:=by
 unfold ko;by_cases h1:nm=[]
 ·subst h1;rw[if_pos rfl];rcases jL wh with h|h|h<;>rw[h]<;>exact⟨_,rfl⟩
 have m1:=tb h1
 rw[if_neg h1];by_cases h2:nm=gy
 ·subst h2;rw[if_pos rfl];rcases jL wh with h|h|h<;>rw[h]<;>exact⟨1,by simp only[dA,fi,m1,tU];rfl⟩
 have m2:=tb h2
 rw[if_neg h2];by_cases h3:nm=me
 ·subst h3;rw[if_pos rfl];rcases jL wh with h|h|h<;>rw[h]<;>exact⟨2,by simp only[dA,fi,m1,m2,tU];rfl⟩
 have m3:=tb h3
 rw[if_neg h3];by_cases h4:nm=lJ
 ·subst h4;rw[if_pos rfl];rcases iY wh with⟨hw,h⟩|⟨hw,h⟩|⟨hw,_,h⟩
  ·rw[if_pos hw,h];simp only[dA,fi,m1,m2,m3];rfl
  ·rw[if_neg (by omega),h]
   exact⟨3,by simp only[dA,fi,m1,m2,m3,tU];rfl⟩
  ·rw[if_neg (by simpa using hw),h]
   exact⟨3,by simp only[dA,fi,m1,m2,m3,tU];rfl⟩
 have m4:=tb h4
 rw[if_neg h4];by_cases h5:nm=fJ
 ·subst h5;rw[if_pos rfl];rcases iY wh with⟨hw,h⟩|⟨hw,h⟩|⟨_,hw,h⟩
  ·rw[if_neg (by omega),h]
   simp only[dA,fi,m1,m2,m3];rfl
  ·rw[if_pos hw,h];exact⟨4,by simp only[dA,fi,m1,m2,m3,m4,tU];rfl⟩
  ·rw[if_neg (by simpa using hw),h]
   simp only[dA,fi,m1,m2,m3,m4];rfl
 have m5:=tb h5
 rw[if_neg h5];rcases jL wh with h|h|h<;>rw[h]<;>simp only[dA,fi,m1,m2,m3,m4,m5]<;>rfl
theorem Bf (a e:Bool) (nm:List UInt8) (p b:Value) (w:World) (wh:Int):∃ v,(Instr.lookup 152 (.map (some (w.heap.size+1+1))) (.string ⟨nm.toArray⟩) true).run Tryz.prog (mapW a e ⟨nm.toArray⟩ p b w (eo wh))=.ok (.tuple #[v,.bool (ko nm wh).isSome]) (mapW a e ⟨nm.toArray⟩ p b w (eo wh)) ∧
  ∀ f,ko nm wh=some f→v=bnd a e ⟨nm.toArray⟩ p b f:=by
 have ht:Tryz.prog.underlying 152=some (.map 9 151):=by kernel_rfl
 have hk:Tryz.prog.underlying 9=some .string:=by kernel_rfl
 have h:=wF a e nm ⟨nm.toArray⟩ p b wh
 have hall:=Ao a e ⟨nm.toArray⟩ p b (eo wh) (jL wh)
 cases hq:ko nm wh with
 | none =>
  rw[hq] at h;have hz:∀ W:World,(zeroValue 151).run Tryz.prog W=.ok .nilFunc W:=fun _=>by kernel_rfl
  exact⟨_,mX ht hk (yP a e ⟨nm.toArray⟩ p b w (eo wh)) ⟨nm.toArray⟩ hall h (hz _),fun f hf=>by cases hf⟩
 | some f =>
  rw[hq] at h;obtain⟨i,h⟩:=h;exact⟨_,rI ht hk (yP a e ⟨nm.toArray⟩ p b w (eo wh)) ⟨nm.toArray⟩ hall h,fun g hg=>by cases hg;rfl⟩
end
section
variable {G0 G:Gh} {w0 W:World}
theorem sf {r:Nat} {new:Array Value} (hw0:WI G0 w0) (hx:Ext G0 w0 G W) (hw:WI G W) (hn:∀ o,G.I r o=none) (ho:G.ow r=none) (hr:w0.heap.size≤r):Ext G0 w0 G (W.setRow r new)∧WI G (W.setRow r new):=by
 have hold:∀ c,c<w0.heap.size→G0.ow c=none→G.ow c=none∧(W.setRow r new).heap[c]? = w0.heap[c]? ∧ ∀ k,G.I c k=G0.I c k:=fun c hc hnc=>by
  obtain⟨h1,h2,h3⟩:=hx.old c hc hnc;exact⟨h1,(setRow_other W r c new (by omega)).trans h2,h3⟩
 refine⟨⟨hx.I,hold,by rw[dI];exact hx.size,hx.os,hx.output,hx.tape,hx.lent⟩,⟨fun c o y h => ?_,fun c hc=>hw.fresh c (by rw[dI] at hc;exact hc),hw.boxI,hw.bbow,hw0.tab.map fun c hc hnc=>⟨(hold c hc hnc).1,(hold c hc hnc).2.1⟩⟩⟩
 have hne:c≠r:=fun e=>by rw[e,hn] at h;cases h
 rw[cell_setRow_other W r new ⟨c,o,none⟩ hne];exact hw.cell c o y h
theorem Ak {cs:List CV} {ys:List Value} (h:zT cs=true) (hy:All2 (RN G) cs ys) :
  ∃ k0 a1 n1 r1 a2 n2 r2 a3 n3 r3 k4 k5 a6 n6 r6 a7 n7 r7,ys=[.int .i64 k0,.slice a1 n1 r1,.slice a2 n2 r2,.slice a3 n3 r3,.int .i64 k4,.int .i64 k5,.slice a6 n6 r6,.slice a7 n7 r7]:=by
 unfold zT at h;split at h
 case h_2=>cases h
 rename_i k0 s1 s2 s3 k4 k5 s6 s7 hp;have hq:=kz hp hy
 cases hq with|cons q0 hq=>cases hq with|cons q1 hq=>cases hq with|cons q2 hq=>cases hq with|cons q3 hq=>cases hq with|cons q4 hq=>cases hq with|cons q5 hq=>cases hq with|cons q6 hq=>cases hq with|cons q7 hq =>
 cases hq
 cases q0
 cases q4
 cases q5
 obtain⟨_,_,rfl,_⟩:=q1.slice_inv;obtain⟨_,_,rfl,_⟩:=q2.slice_inv;obtain⟨_,_,rfl,_⟩:=q3.slice_inv;obtain⟨_,_,rfl,_⟩:=q6.slice_inv;obtain⟨_,_,rfl,_⟩:=q7.slice_inv;exact⟨_,_,_,_,_,_,_,_,_,_,_,_,_,_,_,_,_,_,rfl⟩
end
theorem AN {good : FuncId → Bool} (hgd : ∀ g, good g = true → ∃ fn, Tryz.prog.funcs[g]? = some fn ∧ fn.name ≠ "runtime.NumGoroutine" ∧ fn.body.isSome = true) {call : CallF}
  (hc:∀ g args bxs r,good g=true→call g args bxs=some r→Contract Tryz.prog g args bxs r) {args:List AV} {bxs:List (List CV)} {r:Res} (h:(si good args bxs).run call=some r) :
  Contract Tryz.prog 56 args bxs r:=by
 unfold si at h;split at h
 case h_2=>simp[Plan.run] at h
 rename_i a nm p b e wh;intro G w cargs hw hargs _ _ hbb;obtain⟨x,y,rfl,hx,hy⟩:=dF hargs;obtain⟨vs,rfl,hvs⟩:∃ vs:List Value,x=.agg vs.toArray∧All2 (RN G) [.pv (.bool a),.pv (.str nm),.pv (.sl p),.pv (.sl b),.pv (.bool e)] vs:=hx
 have hy':RP G.I (.int .i64 wh) y:=hy
 cases hy'
 have hvs0:=hvs
 cases hvs with|cons q1 hvs=>cases hvs with|cons q2 hvs=>cases hvs with | @cons _ vp _ _ q3 hvs=>cases hvs with | @cons _ vb _ _ q4 hvs=>cases hvs with|cons q5 hvs =>
 cases hvs
 have q1':RP G.I (.bool a) _:=q1
 have q2':RP G.I (.str nm) _:=q2
 have q5':RP G.I (.bool e) _:=q5
 cases q1'
 cases q2'
 cases q5'
 have hEe:(ByteArray.mk nm.toArray).toList.isEmpty=nm.isEmpty:=by rw[toList_mk]
 have hLl:((ByteArray.mk nm.toArray).toList==fJ)=(nm==fJ):=by rw[toList_mk]
 obtain⟨v,hl,hv⟩:=Bf a e nm vp vb w wh;obtain⟨g0,hw0⟩:=jW (o:=none) hw (stmO a e ⟨nm.toArray⟩ vp vb) (fun s=>by simp)
 obtain⟨g1,hw1⟩:=jW (o:=none) hw0 (itmO zItm) (fun s=>by simp)
 obtain⟨g2,hw2⟩:=jW (o:=none) hw1 (.map (dA a e ⟨nm.toArray⟩ vp vb (eo wh)) (eo wh)) (fun s=>by simp)
 have hx2:=g0.ext.trans (g1.ext.trans g2.ext)
 have hs1:(w.alloc (stmO a e ⟨nm.toArray⟩ vp vb)).heap.size=w.heap.size+1:=am w _
 have hs2:((w.alloc (stmO a e ⟨nm.toArray⟩ vp vb)).alloc (itmO zItm)).heap.size=w.heap.size+1+1:=by rw[am,hs1]
 have hs3:(mapW a e ⟨nm.toArray⟩ vp vb w (eo wh)).heap.size=w.heap.size+1+1+1:=by
  unfold mapW;rw[am,hs2]
 generalize hG2:({ ({ ({ G with ow:=upd G.ow w.heap.size none }:Gh) with ow:=upd (upd G.ow w.heap.size none) (w.alloc (stmO a e ⟨nm.toArray⟩ vp vb)).heap.size none }:Gh) with ow:=upd (upd (upd G.ow w.heap.size none) (w.alloc (stmO a e ⟨nm.toArray⟩ vp vb)).heap.size none) ((w.alloc (stmO a e ⟨nm.toArray⟩ vp vb)).alloc (itmO zItm)).heap.size none }:Gh)=G2 at *
 have hI2:G2.I=G.I:=by rw[←hG2]
 have hbb2:G2.bb=G.bb:=by rw[←hG2]
 have ho2:G2.ow (w.heap.size+1)=none:=by
  rw[←hG2,hs1,hs2];simp[upd]
 have hn2:∀ o,G2.I (w.heap.size+1) o=none:=fun o=>by rw[hI2];exact(hw.fresh _ (by omega)).1 o
 have hno:r=uw→∃ G',Ext G w G' ((mapW a e ⟨nm.toArray⟩ vp vb w (eo wh)).setRow (w.heap.size+1) zItm)∧WI G' ((mapW a e ⟨nm.toArray⟩ vp vb w (eo wh)).setRow (w.heap.size+1) zItm)∧REnd ([]:List (List CV)).length G' ((mapW a e ⟨nm.toArray⟩ vp vb w (eo wh)).setRow (w.heap.size+1) zItm) (.returned (.tuple #[.agg zItm,.bool false])) r:=fun hr=>by
  obtain⟨h1,h2⟩:=sf (new:=zItm) hw hx2 hw2 hn2 ho2 (by omega)
  refine⟨G2,h1,h2,?_⟩
  rw[hr];refine⟨_,rfl,⟨[.agg zItm,.bool false],rfl,.cons ⟨[.int .i64 0,.slice none 0 0,.slice none 0 0,.slice none 0 0,.int .i64 0,.int .i64 0,.slice none 0 0,.slice none 0 0],rfl,?_⟩ (.cons (RP.bool false) .nil)⟩,rfl,fun i l h=>by simp at h⟩
  exact .cons (RP.int _ _) (.cons rfl (.cons rfl (.cons rfl (.cons (RP.int _ _) (.cons (RP.int _ _) (.cons rfl (.cons rfl .nil)))))))
 refine xz a e nm.isEmpty (nm==fJ) (ko nm wh).isSome ⟨nm.toArray⟩ hEe hLl vp vb w _ v wh (eo wh) (iY wh) hl ⟨fun hcond=>hno ?_,fun hcond => ?_⟩
 ·-- nothing
  cases hk:ko nm wh with
  | none =>
   rw[hk] at h;simp only[Plan.run,Option.some.injEq] at h;exact h.symm
  | some f =>
   rw[hk] at h hcond;simp only[Option.isSome_some,Bool.not_true,Bool.false_or] at hcond;simp only at h;rw[if_pos hcond] at h;simp only[Plan.run,Option.some.injEq] at h;exact h.symm
 ·cases hk:ko nm wh with
  | none=>rw[hk] at hcond;simp at hcond
  | some f =>
   rw[hk] at h hcond;simp only[Option.isSome_some,Bool.not_true,Bool.false_or] at hcond;simp only at h;rw[if_neg (by rw[hcond];simp)] at h
   split at h
   case isFalse=>simp[Plan.run] at h
   rename_i hg;obtain⟨fn,hfn,hnm,hbd⟩:=hgd f hg;refine⟨f,hv f hk,fun args w=>iI (K:=K0W) hfn hnm hbd,?_⟩
   simp only[Plan.run] at h;split at h
   case h_2=>cases h
   rename_i r1 hr1;have hC:=hc f _ _ r1 hg hr1 G2 (mapW a e ⟨nm.toArray⟩ vp vb w (eo wh)) [.agg #[.bool a,.string ⟨nm.toArray⟩,vp,vb,.bool e]] hw2
    (.cons ⟨_,rfl,hvs0.imp fun _ _ _ h=>h.mono (fun b o y h=>by rw[hI2];exact h) (fun s b h=>by rw[hbb2];exact h)⟩ .nil) (by simp[bC]) (fun i l h=>by simp at h) (fun s b h=>by rw[hbb2] at h;exact hbb s b h)
   refine hC.mono ?_
   rintro en w3 ⟨G3,hx3,hw3,hend⟩
   split at h
   case h_2=>simp[Plan.run] at h
   rename_i cs t;split at h
   case isFalse=>simp[Plan.run] at h
   rename_i hcs;simp only[Plan.run,Option.some.injEq] at h;subst h;obtain⟨z,rfl,hz,_⟩:=hend;have hz0:=hz
   obtain⟨zs,rfl,hzs⟩:∃ vs:List Value,z=.tuple vs.toArray∧All2 (RT G3) [.agg cs,.c (.pv (.bool t))] vs:=hz
   cases hzs with|cons u1 hzs=>cases hzs with|cons u2 hzs =>
   cases hzs
   obtain⟨ys,rfl,hys⟩:=u1;have u2':RP G3.I (.bool t) _:=u2
   cases u2'
   obtain⟨k0,a1,n1,r1,a2,n2,r2,a3,n3,r3,k4,k5,a6,n6,r6,a7,n7,r7,rfl⟩:=Ak hcs hys;have hold:=hx3.old (w.heap.size+1) (by rw[hs3];omega) ho2
   obtain⟨h1,h2⟩:=sf (new:=#[.int .i64 k0,.slice a1 n1 r1,.slice a2 n2 r2,.slice a3 n3 r3,.int .i64 k4,.int .i64 k5,.slice a6 n6 r6,.slice a7 n7 r7]) hw (hx2.trans hx3) hw3 (fun o=>(hold.2.2 o).trans (hn2 o)) hold.1 (by omega)
   exact⟨k0,a1,n1,r1,a2,n2,r2,a3,n3,r3,k4,k5,a6,n6,r6,a7,n7,r7,t,rfl,hold.2.1.trans (ap a e ⟨nm.toArray⟩ vp vb w (eo wh)),G3,h1,h2,_,rfl,hz0,rfl,fun i l h=>by simp at h⟩
end Go.Abs
namespace Go.Abs
open Go Go.Proofs
def Du:List (Nat×Nat×List Nat×List Nat):=[
 (46,3,[0,1,5,6],[]),
 (46,7,[0,1,5,6,7],[]),
 (119,3,[1,3,7,8,9],[1,3]),
 (127,3,[1,3,4],[1]),
 (61,3,[3,6,7,8],[]),
 (70,3,[0,3,4],[]),
 (28,4,[0,1,5],[]),
 (28,9,[0,1,5,6],[]),
 (49,2,[3],[6]),
 (52,3,[0,3,4],[]),
 (74,3,[0,3,6,7,8],[3]),
 (76,3,[0,3,4],[]),
 (207,2,[0,3],[]),
 (92,2,[0,1,2,7],[]),
 (183,1,[0,8,9,10],[100000]),
 (185,1,[0,6,7,8],[100000]),
 (188,3,[0,3,4],[]),
 (274,2,[0,3],[]),
 (120,12,[0,1,5,39,40,41],[]),
 (120,22,[1,8,63,64,65],[8]),
 (113,4,[4,5,6],[]),
 (54,4,[0,1,5],[]),
 (99,5,[0,4,6],[4]),
 (189,5,[5,15,16,17],[]),
 (53,2,[0,3,4],[]),
 (53,4,[0,3,4],[]),
 (178,4,[0,1,5,6,7],[]),
 (179,4,[2,4,5,6],[2,5,10]),
 (179,6,[2,4,5,7],[2,5,7,10]),
 (158,2,[0,1,2,7],[100000]),
 (162,6,[0,2,3,4,29],[100000]),
 (165,2,[0,5],[]),
 (167,2,[0,1,5],[]),
 (168,1,[0,1],[]),
 (170,4,[0,1,4,6,7],[4]),
 (98,2,[0,2,3,8,9],[8,9]),
 (111,3,[3,4],[]),
 (268,3,[0,2,4,5],[2,9]),
 (269,2,[0,3],[100000]),
 (250,15,[0,1,5,6,7,8,9,10],[]),
 (252,12,[0,6,8],[6]),
 (252,18,[1,45],[]),
 (301,1,[0,1,4],[]),
 (302,11,[0,1,3,4,10,11,12,13,14,15,16],[12]),
 (302,18,[0,1,3,4,10,11,12,13,17],[12]),
 (284,5,[0,1,5,6,7,8,9],[]),
 (284,11,[0,1,5,6,7,8,10],[]),
 (285,5,[0,7,8,9],[]),
 (285,12,[0,7,8,9,12],[]),
 (285,25,[0,7,8,9,14,15],[]),
 (285,29,[0,7,8,9,14,15,16],[]),
 (285,38,[175],[]),
 (287,2,[0,2,4],[2]),
 (312,3,[0,4,5],[]),
 (312,8,[4,6,7,8],[]),
 (328,5,[0,3,4],[]),
 (14,4,[0,1,5],[]),
 (75,3,[3,8,9,10],[]),
 (77,3,[0,3,4],[]),
 (174,3,[3,6,7,8],[]),
 (116,3,[0,3,4],[]),
 (23,4,[0,1,2,7],[]),
 (94,2,[0,1,2,7],[100000,100001]),
 (90,4,[1,2,15,16,17],[100000]),
 (280,2,[0,1,7,8],[100000]),
 (50,1,[0],[]),
 (50,3,[0],[]),
 (124,3,[1,5,8,9,10],[]),
 (181,4,[0,3,4,5],[]),
 (103,2,[0,1,7,8],[100000]),
 (47,2,[0,1,5],[]),
 (29,4,[0,1,5],[]),
 (172,3,[3,9,10,11],[]),
 (114,4,[3,4,5],[]),
 (63,3,[3,7,8,9],[]),
 (34,3,[0,3,4],[]),
 (147,2,[0,3],[]),
 (171,3,[4,9,10,11],[4]),
 (146,2,[0,3],[]),
 (146,7,[0,3,4,5,6],[4]),
 (180,5,[2,4,5],[2]),
 (121,3,[3,6,7,8],[]),
 (206,2,[0,1,5],[]),
 (88,4,[1,2,15,16,17],[100000]),
 (218,3,[0,2,3,4],[2,3,100000]),
 (194,3,[1,3,11,12,13],[1]),
 (203,2,[0,3],[]),
 (241,2,[0,1,7,8],[100000]),
 (82,4,[1,2,15,16,17],[100000]),
 (84,4,[1,2,15,16,17],[100000]),
 (86,4,[1,2,15,16,17],[100000]),
 (255,2,[0,4],[100000]),
 (236,2,[0,1,7,8],[100000]),
 (237,2,[0,1,7,8,9],[]),
 (295,3,[3,8,9,10],[]),
 (270,1,[0,1],[]),
 (292,2,[0,3],[100000]),
 (278,2,[0,1,7,8],[]),
 (244,2,[0,1,7,8],[100000]),
 (305,3,[3,8,9,10],[]),
 (11,4,[0,1,5],[]),
 (15,3,[3,6,7,8],[3]),
 (16,3,[0,3,4],[]),
 (24,4,[0,1,2,7],[]),
 (24,11,[0,1,2,7,8,9],[8]),
 (27,4,[0,1,5],[]),
 (30,3,[0,1,5],[]),
 (31,3,[0,1,5,6],[]),
 (39,2,[0,1,5],[]),
 (40,4,[1,2,15,16,17],[100000]),
 (59,6,[0,4,5,6],[4,5]),
 (65,1,[0,6,7,8],[100000]),
 (68,1,[0,6,7,8],[100000]),
 (72,3,[0,3,4],[]),
 (81,9,[1,2,5,6],[2]),
 (102,3,[3,8,9,10],[]),
 (109,4,[1,2,4,5,13,14,15],[1,2,4]),
 (110,3,[1,2,4,12,13,14],[1,2,4]),
 (117,6,[2,3,4,5],[2,3]),
 (118,4,[1,2,3,4,5],[1,2,3]),
 (138,2,[0,1,7,8],[100000]),
 (145,2,[0,3],[]),
 (148,2,[0,1,5],[]),
 (42,4,[0,1,12,13],[]),
 (1000000,0,[],[])]
def kq (f r:Nat):List Nat×List Nat:=match Du.find? (fun x=>x.1==f&&x.2.1==r) with|some x=>x.2.2|none=>([],[])
def prL:List (Nat×Prim):=[
 (298,mh),
 (153,iE),
 (155,eR),
 (211,oZ),
 (252,ip),
 (191,Az),
 (120,Ah),
 (190,kN),
 (131,qO),
 (295,tZ),
 (305,qP),
 (102,lA),
 (132,oh),
 (48,oz),
 (97,rg),
 (177,pAt),
 (175,rE),
 (339,yV),
 (340,yv),
 (327,rL),
 (1000000,fun _ _=>none)]
def prF (f:Nat):Option Prim:=(prL.find? (fun x=>x.1==f)).map (·.2)
def fh (f i:Nat):Bool:=(f==268&&i==6)||(f==65&&i==3)||(f==62&&i==0)
def ownB (f:Nat):Bool :=
 f==132 ||
 f==121 ||
 f==1000000
def zk (P:Program) (f:Nat):Bool :=
 match P.funcs[f]? with
 | some fn => fn.name != "runtime.NumGoroutine" && (match fn.body with | some c => dw (fh f) c | none => false)
 | none=>false
def goods:List Nat:=[3,4,5,6,7,8,9,10,11,12,13,14,15,16,17,18,19,20,21,22,23,24,25,26,27,28,29,30,31,32,33,34,35,36,37,38,39,40,41,42,43,44,45,46,47,48,49,50,51,52,53,54,55,56,57,58,59,60,61,62,63,64,65,66,67,68,69,70,71,72,73,74,75,76,77,78,79,80,81,82,83,84,85,86,87,88,89,90,91,92,93,94,95,96,97,98,99,100,101,102,103,104,105,106,107,108,109,110,111,112,113,114,115,116,117,118,119,120,121,122,123,124,125,126,127,128,129,130,131,132,133,134,135,136,137,138,139,140,141,142,143,144,145,146,147,148,149,150,151,152,153,154,155,156,157,158,159,160,161,162,163,164,165,166,167,168,169,170,171,172,173,174,175,176,177,178,179,180,181,182,183,184,185,186,187,188,189,190,191,192,193,194,195,196,197,198,199,200,201,202,203,204,205,206,207,208,209,210,211,212,213,214,215,216,217,218,219,220,221,222,223,224,225,226,227,228,229,230,231,232,233,235,236,237,238,239,240,241,242,243,244,245,246,247,248,249,250,252,253,254,255,256,257,258,259,260,261,262,263,264,265,266,267,268,269,270,271,272,274,275,276,277,278,279,280,281,283,284,285,286,287,288,289,290,291,292,293,294,295,296,297,298,299,300,301,302,303,304,305,306,307,308,309,310,311,312,313,314,315,316,317,318,319,320,321,322,323,324,325,326,327,328,329,330,331,332,333,334,335,336,337,338,339,340,341,342,343,344,345,346,347,348,349,350,351,352,353,354,355,356,357,358,359,360,361,362,363,364,394]
theorem th:goods.all (zk Tryz.prog)=true:=by kernel_rfl
theorem nR {g : Nat} (hg : goods.contains g = true) : ∃ fn, Tryz.prog.funcs[g]? = some fn ∧ fn.name ≠ "runtime.NumGoroutine" ∧ fn.body.isSome = true := by
 have h1:g∈goods:=by simpa using hg
 have h2:=List.all_eq_true.1 th g h1
 unfold zk at h2;split at h2
 ·rename_i fn hfn;simp only[Bool.and_eq_true] at h2;obtain⟨h3,h4⟩:=h2;split at h4
  ·rename_i c hc;exact⟨fn,hfn,by simpa using h3,by rw[hc];rfl⟩
  ·cases h4
 ·cases h2
def hpL:List (Nat×(List AV→List (List CV)→Plan)):=[
 (216,rG goods.contains),
 (217,parse1P),
 (56,si goods.contains),
 (1000000,fun _ _=>.fail)]
def hpF (f:Nat):Option (List AV→List (List CV)→Plan):=(hpL.find? (fun x=>x.1==f)).map (·.2)
noncomputable def K:Cfg := { P:=Tryz.prog,pr:=prF,keep:=kq,ownRet:=ownB,good:=goods.contains,hook:=fh,hp:=hpF }
theorem CJ:Prog K:=by
 refine⟨by kernel_rfl,fun g hg => ?_,fun f F args bxs x _ hF hx => ?_,fun f F args bxs r call _ hF hc hr => ?_⟩
 ·have h1:g∈goods:=by simpa[K] using hg
  have h2:=List.all_eq_true.1 th g h1
  unfold zk at h2;split at h2
  ·rename_i fn hfn;simp only[Bool.and_eq_true] at h2;obtain⟨h3,h4⟩:=h2;split at h4
   ·rename_i c hc;exact⟨fn,c,hfn,by simpa using h3,hc,h4⟩
   ·cases h4
  ·cases h2
 ·have h1:∀ y∈prL, ∀ args bxs x,y.2 args bxs=some x→Contract Tryz.prog y.1 args bxs (.ret x.1 x.2):=by
   intro y hy;simp only[prL,List.mem_cons,List.not_mem_nil,or_false] at hy
   repeat' (first|(rcases hy with rfl|hy)|(cases hy))
   all_goals first
    | exact fun _ _ _ h=>rP h
    | exact fun _ _ _ h=>pE h
    | exact fun _ _ _ h=>kg h
    | exact fun _ _ _ h=>xq h
    | exact fun _ _ _ h=>rN h
    | exact fun _ _ _ h=>yz h
    | exact fun _ _ _ h=>zo h
    | exact fun _ _ _ h=>pA h
    | exact fun _ _ _ h=>ua h
    | exact fun _ _ _ h=>xu h
    | exact fun _ _ _ h=>uh h
    | exact fun _ _ _ h=>vd h
    | exact fun _ _ _ h=>qd h
    | exact fun _ _ _ h=>wv h
    | exact fun _ _ _ h=>xm h
    | exact fun _ _ _ h=>CH h
    | exact fun _ _ _ h=>wy h
    | exact fun _ _ _ h=>yG h
    | exact fun _ _ _ h=>ym h
    | exact fun _ _ _ h=>uq h
    | exact fun _ _ _ h=>by cases h
  have h2:prF f=some F:=hF
  unfold prF at h2;rw[Option.map_eq_some_iff] at h2;obtain⟨y,hy,rfl⟩:=h2;have h3:=List.mem_of_find?_eq_some hy
  have h4:y.1=f:=by simpa using List.find?_some hy
  rw[←h4];exact h1 y h3 args bxs x hx
 ·have h1:∀ y∈hpL, ∀ args bxs r,(y.2 args bxs).run call=some r→Contract Tryz.prog y.1 args bxs r:=by
   intro y hy;simp only[hpL,List.mem_cons,List.not_mem_nil,or_false] at hy
   repeat' (first|(rcases hy with rfl|hy)|(cases hy))
   all_goals first
    | exact fun _ _ _ h=>yd (fun _=>nR) (by kernel_rfl) hc h
    | exact fun _ _ _ h=>AN (fun _=>nR) hc h
    | exact fun _ _ _ h=>xJ (fun _=>nR) (by kernel_rfl) hc h
    | exact fun _ _ _ h=>by cases h
  have h2:hpF f=some F:=hF
  unfold hpF at h2;rw[Option.map_eq_some_iff] at h2;obtain⟨y,hy,rfl⟩:=h2;have h3:=List.mem_of_find?_eq_some hy
  have h4:y.1=f:=by simpa using List.find?_some hy
  rw[←h4];exact h1 y h3 args bxs r hr
end Go.Abs
namespace Go.Abs
open Go Go.Proofs
theorem CM:K.good 8=true:=by kernel_rfl
theorem zf:K.good 9=true:=by kernel_rfl
theorem rF:K.good 12=true:=by kernel_rfl
theorem AP:K.good 15=true:=by kernel_rfl
theorem AY:K.good 17=true:=by kernel_rfl
theorem BF:K.good 19=true:=by kernel_rfl
theorem vv:K.good 21=true:=by kernel_rfl
theorem Bt:K.good 22=true:=by kernel_rfl
theorem vI:K.good 25=true:=by kernel_rfl
theorem rq:K.good 30=true:=by kernel_rfl
theorem Bq:K.good 48=true:=by kernel_rfl
theorem Bg:K.good 49=true:=by kernel_rfl
theorem ng:K.good 50=true:=by kernel_rfl
theorem Ca:K.good 55=true:=by kernel_rfl
theorem AR:K.good 56=true:=by kernel_rfl
theorem BD:K.good 95=true:=by kernel_rfl
theorem Cd:K.good 96=true:=by kernel_rfl
theorem Ce:K.good 97=true:=by kernel_rfl
theorem oP:K.good 101=true:=by kernel_rfl
theorem zZ:K.good 102=true:=by kernel_rfl
theorem oc:K.good 151=true:=by kernel_rfl
theorem se:K.good 152=true:=by kernel_rfl
theorem zh:K.good 153=true:=by kernel_rfl
theorem zG:K.good 154=true:=by kernel_rfl
theorem tx:K.good 155=true:=by kernel_rfl
theorem Ay:K.good 156=true:=by kernel_rfl
theorem sD:K.good 157=true:=by kernel_rfl
theorem nN:K.good 158=true:=by kernel_rfl
theorem yq:K.good 159=true:=by kernel_rfl
theorem sy:K.good 160=true:=by kernel_rfl
theorem ov:K.good 161=true:=by kernel_rfl
theorem yS:K.good 162=true:=by kernel_rfl
theorem zm:K.good 173=true:=by kernel_rfl
theorem Al:K.good 175=true:=by kernel_rfl
theorem Aj:K.good 176=true:=by kernel_rfl
theorem zr:K.good 177=true:=by kernel_rfl
theorem zp:K.good 209=true:=by kernel_rfl
theorem yU:K.good 211=true:=by kernel_rfl
theorem yT:K.good 212=true:=by kernel_rfl
theorem AH:K.good 214=true:=by kernel_rfl
theorem Ab:K.good 221=true:=by kernel_rfl
theorem zH:K.good 252=true:=by kernel_rfl
theorem wA:kq 49 2=([3],[6]):=by kernel_rfl
theorem uL:kq 158 2=([0,1,2,7],[100000]):=by kernel_rfl
theorem uC:kq 162 6=([0,2,3,4,29],[100000]):=by kernel_rfl
theorem xg:kq 50 1=([0],[]):=by kernel_rfl
theorem wz:kq 50 3=([0],[]):=by kernel_rfl
theorem xj:kq 30 3=([0,1,5],[]):=by kernel_rfl
theorem ue:kq 109 4=([1,2,4,5,13,14,15],[1,2,4]):=by kernel_rfl
end Go.Abs
namespace Go.Abs.Tk
open Go
theorem sR:begins 0=false:=by decide
theorem mE:within 0=false:=by decide
theorem nI:digit 0=false:=by decide
theorem pC {c:UInt8} (h:begins c=true):within c=true:=by simp[within,h]
theorem iW {c:UInt8} (h:begins c=true):digit c=false:=by
 simp only[begins,digit,decide_eq_true_eq,decide_eq_false_iff_not] at *;omega
theorem sG {c d:UInt8} (h:digit c=true) (hd:digit d=false):c≠d:=fun e=>by rw[e,hd] at h;cases h
theorem pR {c d:UInt8} (h:within c=true) (hd:within d=false):c≠d:=fun e=>by rw[e,hd] at h;cases h
theorem sH {c:UInt8} (h:blank c=true):c=32∨c=10∨c=9∨c=12∨c=13:=by simpa[blank,or_assoc] using h
theorem lr {c:UInt8} (h:within c=true):blank c=false:=by
 cases hb:blank c
 ·rfl
 ·rcases sH hb with rfl|rfl|rfl|rfl|rfl<;>revert h<;>decide
theorem re {c:UInt8} (h:digit c=true):within c=true:=by simp[within,h]
theorem tM {c:UInt8} (h:digit c=true):blank c=false:=lr (re h)
section run
variable {p:UInt8→Bool}
theorem Bu:run p []=0:=rfl
theorem run_le:∀ l:List UInt8,run p l≤l.length
 | []=>Nat.le_refl _
 | c::r=>by
  rw[run];have:=run_le r
  split<;>simp<;>omega
theorem Bn {c:UInt8} {r:List UInt8} (h:p c=true):0<run p (c::r):=by rw[run,if_pos h];omega
theorem sI:∀ l:List UInt8, ∀ b∈l.take (run p l),p b=true
 | [],b,h=>by simp at h
 | c::r,b,h=>by
  rw[run] at h;split at h
  ·rename_i hc;rw[List.take_succ_cons] at h;rcases List.mem_cons.1 h with rfl|h
   ·exact hc
   ·exact sI r b h
  ·simp at h
theorem sk (h0:p 0=false):∀ l:List UInt8,p (at0 (l.drop (run p l)))=false
 | []=>h0
 | c::r=>by
  rw[run];split
  ·rw[List.drop_succ_cons];exact sk h0 r
  ·rename_i hc
   simpa[at0] using hc
theorem wg:∀ {a y:List UInt8},(∀ b∈a,p b=true)→run p (a++y)=a.length+run p y
 | [],y,_=>by simp
 | c::a,y,h=>by
  rw[List.cons_append,run,if_pos (h c (by simp)),wg fun b hb=>h b (by simp[hb])]
  simp;omega
theorem sg:∀ {y:List UInt8},p (at0 y)=false→run p y=0
 | [],_=>rfl
 | c::r,h=>by
  rw[run,if_neg];simpa[at0] using h
theorem lx {a y:List UInt8} (h:∀ b∈a,p b=true) (hy:p (at0 y)=false):run p (a++y)=a.length:=by rw[wg h,sg hy];rfl
theorem jl {y:List UInt8} (h0:p 0=false):0<run p y↔p (at0 y)=true:=by
 cases y with
 | nil=>simp[run,at0,h0]
 | cons c r =>
  rw[run,at0];cases p c<;>simp
end run
theorem np {a y:List UInt8} (h:a≠[]):at0 (a++y)=at0 a:=by
 cases a with
 | nil=>exact absurd rfl h
 | cons c r=>rfl
def cW (x:List UInt8):Prop:=dJ x=true∧∀ b∈x,within b=true
theorem qc:dJ []=false:=by decide
theorem il {x:List UInt8} (h:cW x):x≠[]:=fun e=>by have:=h.1;rw[e,qc] at this;cases this
theorem uY {x:List UInt8} (h:cW x):0<x.length:=List.length_pos_iff.2 (il h)
theorem md {x y:List UInt8} (h:dJ x=true):dJ (x++y)=true:=by
 match x,h with
 | [],h=>rw[qc] at h;cases h
 | [c],h =>
  have hc:begins c=true:=by
   simp only[dJ,at0,List.tail_cons,sR,Bool.false_or,Bool.or_eq_true,Bool.and_eq_true,beq_iff_eq] at h;rcases h with h|⟨_,h⟩
   ·exact h
   ·exact absurd h (by decide)
  simp[dJ,at0,hc]
 | c::d::r,h=>exact h
theorem fZ {x:List UInt8} (h:dJ x=true):within (at0 x)=true:=by
 simp only[dJ,Bool.or_eq_true,Bool.and_eq_true,beq_iff_eq] at h;rcases h with h|⟨h,_⟩
 ·exact pC h
 ·rw[h];decide
theorem lk {x y:List UInt8} (h:cW x) (hy:within (at0 y)=false):name (x++y)=x.length:=by
 rw[name,if_pos (md h.1),lx h.2 hy]
theorem qy {y:List UInt8} (h:dJ y=false):name y=0:=by rw[name,h];rfl
theorem Ax {l:List UInt8} (h:0<name l):dJ l=true:=by
 rw[name] at h;split at h
 ·assumption
 ·omega
theorem iO {l:List UInt8}:0<name l↔dJ l=true:=by
 refine⟨Ax,fun h => ?_⟩
 rw[name,if_pos h];exact(jl mE).2 (fZ h)
theorem kc (l:List UInt8):name l≤l.length:=by
 rw[name];split
 ·exact run_le l
 ·omega
theorem nw:∀ {l:List UInt8} {n:Nat},shut l=some n→n≤l.length∧2≤n
 | c::r,n,h=>by
  rw[shut] at h;split at h
  ·rename_i hc;cases h;cases r with
   | nil=>exact absurd hc.2 (by decide)
   | cons d r=>simp
  ·rw[Option.map_eq_some_iff] at h;obtain⟨m,hm,rfl⟩:=h;have:=nw hm
   simp;omega
theorem sW (r:List UInt8):2≤comment r:=by unfold comment;split<;>omega
theorem oG {q:UInt8}:∀ {l:List UInt8} {n:Nat},inner q l=some n→n+1≤l.length
 | c::r,n,h=>by
  rw[inner] at h;split at h
  ·cases h;simp
  ·split at h
   ·cases h
   ·rw[Option.map_eq_some_iff] at h;obtain⟨m,hm,rfl⟩:=h;have:=oG hm
    simp;omega
theorem pK {q:UInt8} {y:List UInt8}:∀ {x:List UInt8},(∀ b∈x,b≠q∧ending b=false)→inner q (x++q::y)=some x.length
 | [],_=>by simp[inner]
 | c::x,h=>by
  have hc:=h c (by simp)
  rw[List.cons_append,inner,if_neg hc.1,if_neg (by simp[hc.2]),pK fun b hb=>h b (by simp[hb])]
  rfl
theorem ny:∀ {a y:List UInt8} {n:Int},(∀ b∈a,digit b=true)→num n (a++y)=num (num n a) y
 | [],_,_,_=>rfl
 | c::a,y,n,h=>by
  rw[List.cons_append,num,if_pos (h c (by simp)),num,if_pos (h c (by simp)),ny fun b hb=>h b (by simp[hb])]
theorem rS {y:List UInt8} {n:Int} (h:digit (at0 y)=false):num n y=n:=by
 cases y with
 | nil=>rfl
 | cons c r=>rw[num,if_neg];simpa[at0] using h
theorem qi:∀ {l:List UInt8} {n:Int},0≤n→n≤999999999→0≤num n l∧num n l≤999999999
 | [],n,h1,h2=>⟨h1,h2⟩
 | c::r,n,h1,h2=>by
  rw[num];split
  ·rename_i hc;have:48≤c.toNat:=by simp only[digit,decide_eq_true_eq] at hc;omega
   exact qi (by omega) (by omega)
  ·exact⟨h1,h2⟩
theorem jy {k:Nat} (h:k<10):digit (UInt8.ofNat (48+k))=true∧((UInt8.ofNat (48+k)).toNat:Int) - 48=k:=by
 have:(UInt8.ofNat (48+k)).toNat=48+k:=by rw[UInt8.toNat_ofNat'];omega
 refine⟨?_,by rw[this];omega⟩
 simp only[digit,this,decide_eq_true_eq];omega
theorem gk:∀ (k u:Nat),u≤k→∀ b∈Lib.decDigits u,digit b=true:=by
 intro k
 induction k with
 | zero =>
  intro u hu b hb;rw[Lib.decDigits,dif_pos (by omega)] at hb
  simp only[List.mem_singleton] at hb;rw[hb];exact(jy (by omega)).1
 | succ k ih =>
  intro u hu b hb;rw[Lib.decDigits] at hb;split at hb
  ·simp only[List.mem_singleton] at hb;rw[hb];exact(jy (by omega)).1
  ·rcases List.mem_append.1 hb with hb|hb
   ·exact ih (u / 10) (by omega) b hb
   ·simp only[List.mem_singleton] at hb;rw[hb];exact(jy (Nat.mod_lt _ (by omega))).1
theorem Cf:∀ (k u:Nat),u≤k→u≤999999999→num 0 (Lib.decDigits u)=u:=by
 intro k
 induction k with
 | zero =>
  intro u hu _;obtain rfl:u=0:=by omega
  rw[Lib.decDigits,dif_pos (by omega)]
  decide
 | succ k ih =>
  intro u hu hm;rw[Lib.decDigits];split
  ·rename_i h;have h2:=jy h
   rw[num,if_pos h2.1,num,h2.2];omega
  ·have h2:=jy (Nat.mod_lt u (by omega:0<10))
   rw[ny (gk (u / 10) (u / 10) (Nat.le_refl _)),ih (u / 10) (by omega) (by omega),num,if_pos h2.1,num,h2.2];omega
theorem oW:∀ (u:Nat),Lib.decDigits u≠[]:=by
 intro u h;rw[Lib.decDigits] at h;split at h<;>simp at h
end Go.Abs.Tk
