/-
  FACTS ON THE TYPES OF THIS PROGRAM, each by the kernel (printed by a program).
  WHAT THE FUNCTIONS COMPUTE: the smallest; the builder of texts.
  WHAT THE FUNCTIONS COMPUTE: loops; texts of words.
  WHAT THE FUNCTIONS COMPUTE: a token's text; numbers of an nth; simple selectors.
  WHAT THE FUNCTIONS COMPUTE, layer 1: tokens that are the same; lists of them.
  WHAT THE FUNCTIONS COMPUTE, layer 2: blocks' last tokens; values told flat; depth.
  WHAT THE FUNCTIONS COMPUTE, layer 2: are values the same?
  WHAT THE FUNCTIONS COMPUTE, layer 3, the document's answer: blanks, signs; values trimmed, cut by a sign.
  WHAT THE FUNCTIONS COMPUTE, layer 3: values trimmed, cut, joined.
  WHAT THE FUNCTIONS COMPUTE, layer 1: classes of bytes, runs, names.
  WHAT THE FUNCTIONS COMPUTE, layer 1: the scanner's small steps: a name, a token that is laid, a comment, a string.
  Functions as values: what captures nothing, or one variable of whatever cells; texts as the interpreter's data.
  WHAT THE FUNCTIONS COMPUTE, layer 4, the program's reader of selectors: what comes, tokens, signs, blanks, names, numbers.
  WHAT THE FUNCTIONS COMPUTE, layer 4, the document's reader of selectors: numbers; where a compound one ends; combinators.
  WHAT THE FUNCTIONS COMPUTE, layer 4, the document's reader of selectors: simple selectors.
  WHAT THE FUNCTIONS COMPUTE, layer 4, the document's reader of selectors: an nth; attributes.
  WHAT THE FUNCTIONS COMPUTE, layer 1: the scanner's number.
  DATA OF A TYPE: what reads as a value of a struct, of a slice; what reads as tokens, and as values.
  DATA OF A TYPE: what reads as selectors (as in layer 5's rows, upon the types of layer 3).
-/
import Derived.Test.YtlomcifkckgneaaGreatDoorRh1
import Derived.Test.YtlomcifkckgneaaGreatDoorRh2
import Derived.Test.YtlomcifkckgneaaGreatDoorRh3
import Derived.Test.YtlomcifkckgneaaGreatDoorRh4
import Derived.Test.YtlomcifkckgneaaGreatDoorRh5
set_option linter.unusedSimpArgs false
set_option linter.unusedVariables false
namespace Go.Abs
open Go Go.Proofs
theorem lL:K.good 11=true:=by kernel_rfl
theorem lS:K.good 13=true:=by kernel_rfl
theorem lM:K.good 16=true:=by kernel_rfl
theorem j6:K.good 27=true:=by kernel_rfl
theorem zm:K.good 32=true:=by kernel_rfl
theorem yG:K.good 33=true:=by kernel_rfl
theorem yB:K.good 34=true:=by kernel_rfl
theorem yT:K.good 37=true:=by kernel_rfl
theorem zg:K.good 39=true:=by kernel_rfl
theorem pB:K.good 40=true:=by kernel_rfl
theorem zR:K.good 41=true:=by kernel_rfl
theorem tr:K.good 64=true:=by kernel_rfl
theorem yX:K.good 65=true:=by kernel_rfl
theorem zp:K.good 66=true:=by kernel_rfl
theorem tL:K.good 71=true:=by kernel_rfl
theorem zy:K.good 72=true:=by kernel_rfl
theorem zJ:K.good 73=true:=by kernel_rfl
theorem tM:K.good 74=true:=by kernel_rfl
theorem zi:K.good 75=true:=by kernel_rfl
theorem zK:K.good 76=true:=by kernel_rfl
theorem tq:K.good 77=true:=by kernel_rfl
theorem zH:K.good 78=true:=by kernel_rfl
theorem zB:K.good 79=true:=by kernel_rfl
theorem yZ:K.good 80=true:=by kernel_rfl
theorem yx:K.good 106=true:=by kernel_rfl
theorem xj:K.good 113=true:=by kernel_rfl
theorem wa:K.good 114=true:=by kernel_rfl
theorem wN:K.good 115=true:=by kernel_rfl
theorem qU:K.good 116=true:=by kernel_rfl
theorem x9:K.good 117=true:=by kernel_rfl
theorem qm:K.good 118=true:=by kernel_rfl
theorem qf:K.good 119=true:=by kernel_rfl
theorem wE:K.good 120=true:=by kernel_rfl
theorem xY:K.good 123=true:=by kernel_rfl
theorem v8:K.good 124=true:=by kernel_rfl
theorem wJ:K.good 125=true:=by kernel_rfl
theorem xW:K.good 151=true:=by kernel_rfl
theorem wG:K.good 157=true:=by kernel_rfl
theorem vU:K.good 160=true:=by kernel_rfl
theorem un:fN 33 3=([0,3,4],[]):=by kernel_rfl
theorem vh:fN 65 5=([0,4,6],[4]):=by kernel_rfl
theorem uv:fN 34 2=([0,3,4],[]):=by kernel_rfl
theorem uk:fN 34 4=([0,3,4],[]):=by kernel_rfl
theorem sq:fN 115 2=([0,5],[]):=by kernel_rfl
theorem rQ:fN 117 2=([0,1,5],[]):=by kernel_rfl
theorem sN:fN 118 1=([0,1],[]):=by kernel_rfl
theorem rY:fN 120 4=([0,1,4,6,7],[4]):=by kernel_rfl
theorem uz:fN 64 2=([0,2,3,8,9],[8,9]):=by kernel_rfl
theorem vB:fN 70 1=([0],[]):=by kernel_rfl
theorem vL:fN 70 3=([0],[]):=by kernel_rfl
theorem r8:fN 151 2=([0,1,7,8],[]):=by kernel_rfl
end Go.Abs
namespace Go.Abs
open Go Go.Proofs
abbrev I (n:Int):AV := .c (.pv (.int .i64 n))
abbrev T (l:List UInt8):AV := .c (.pv (.str l))
abbrev B (b:Bool):AV := .c (.pv (.bool b))
abbrev L (l:List (List PV)):AV := .c (.pv (.sl l))
abbrev P0:AV := .c (.loc 100000 0)
theorem ae {f:FuncId} {fn:Func} {x:Code} {nt:Nat} {args:List AV} {bxs:List (List CV)} {r:Res} (hp:prF f=none) (hh:hpF f=none) (hf:Tryz.prog.funcs[f]? = some fn) (hx:fn.body=some x) (hn:fn.ntmps=nt)
  (hl:args.length≤nt∧nt<LK) (h:(exL K f x (a7 nt args bxs)).bind (fun r=>leave K f fn bxs.length (some r))=some r):den K f args bxs=some r:=by
 rw[pi (K:=K) hp hh hf hx,hn,if_pos hl]
 exact h
theorem fZ (f:FuncId) (h:(
 f==227 ||
 f==1000000)=false):K.ownRet f=false:=h
theorem eL (f i:Nat):K.hook f i=fe f i:=rfl
theorem K_P:K.P=Tryz.prog:=rfl
theorem ev (f r:Nat):K.keep f r=fN f r:=rfl
theorem nc {f:FuncId} {F:Prim} {args:List AV} {bxs cs:List (List CV)} {v:AV} (h:prF f=some F) (hF:F args bxs=some (v,cs)):den K f args bxs=some (.ret v cs):=by
 rw[my (K:=K) h,hF];rfl
set_option maxRecDepth 10000
theorem yp (n:Nat):lens n []=true:=rfl
end Go.Abs
namespace Go.Abs
open Go Go.Proofs
theorem aO (f:FuncId) (a:Code) (S:St):exL K f (.loop a) S=exL K f (.loop a) (head (fN f ((aH a).getD 0)) S):=by
 rw[aq,aq (S:=head _ S),ev,kB]
set_option maxRecDepth 10000
attribute [local go_sem] cS bA ck bM bL cT cq co aI a6 aX bt bV bf opd avOf cvOf St.degAt St.put okPV dD okAV cX cZ cY cx al if_true Bool.false_eq_true if_false Option.map_some Option.map_none Option.bind_some Option.bind_none dE dp upd List.toList_toArray bu steal aN mvB dt cA bW AV.deg CV.deg AV.gv AV.isIter cj ct bJ List.length_nil List.length_cons List.filterMap_cons List.filterMap_nil beq_iff_eq List.getElem?_cons_zero List.getElem?_cons_succ Option.getD_some eL fe Bool.false_and Bool.and_false Bool.and_self K_P fZ bv bS aR lend back idx dedup AV.ren CV.ren TV.ren AV.ptrs CV.ptrs b6 AV.flat CV.flat bI bz aJ bU cF dU bD aF bR aY bh bw aZ eD CV.pv? content aV ownT aM reps pvs chunks a7 leave ek b5 cU bd aQ TV.deg TV.av LK CV.plain CV.noBld ci ei bound List.map_cons List.map_nil List.all_cons List.all_nil List.any_cons List.any_nil List.contains_cons List.contains_nil List.elem_cons List.elem_nil List.cons_append List.nil_append List.append_nil List.flatMap_cons List.flatMap_nil List.zip_cons_cons List.zip_nil_left List.zip_nil_right List.take_succ_cons List.take_zero List.take_nil List.drop_succ_cons List.drop_zero List.drop_nil List.isEmpty_nil List.isEmpty_cons Bool.and_true Bool.true_and Bool.or_true Bool.true_or Bool.or_false Bool.false_or Bool.not_true Bool.not_false Nat.add_zero Nat.zero_add Option.isNone_none Option.isNone_some Option.getD_none true_and and_true not_true_eq_false not_false_eq_true decide_true decide_false Nat.le_refl and_self Bool.not_eq_true Nat.sub_self or_true true_or Option.some.injEq List.length_map List.nil_eq and_false false_and AV.live CV.live CV.liveIn ev aH Option.orElse_some Option.orElse_none head aU aP Int.lt_irrefl List.length_append ite_self dx bo bX a8 Key.clash Key.sees Key.writes Nat.lt_irrefl gt_iff_lt cm dG false_or or_false beq_self_eq_true Bool.true_beq Bool.false_beq
theorem bQ (n:Nat) (h:n<9223372036854775807):IntKind.i64.wrap ((n:Int)+1)=((n+1:Nat):Int):=by
 rw[IntWalk.i64_in _ (by omega)];rfl
theorem cv {α:Type} {l rest:List α} {x:α} {i:Nat} (h:l.drop i=x::rest):l[i]? = some x∧l.drop (i+1)=rest∧i<l.length:=by
 have h1:l[i]? = some x:=by
  have:(l.drop i)[0]? = some x:=by rw[h];rfl
  simpa using this
 refine ⟨h1,?_,(List.getElem?_eq_some_iff.1 h1).1⟩
 have:(l.drop i).tail=rest:=by rw[h];rfl
 rw[←this,List.tail_drop]
end Go.Abs
namespace Go.Abs
open Go Go.Proofs
set_option maxRecDepth 10000
attribute [local go_sem] cS bA ck bM bL cT cq co aI a6 aX bt bV bf opd avOf cvOf St.degAt St.put okPV dD okAV cX cZ cY cx al if_true Bool.false_eq_true if_false Option.map_some Option.map_none Option.bind_some Option.bind_none dE dp upd List.toList_toArray bu steal aN mvB dt cA bW AV.deg CV.deg AV.gv AV.isIter cj ct bJ List.length_nil List.length_cons List.filterMap_cons List.filterMap_nil beq_iff_eq List.getElem?_cons_zero List.getElem?_cons_succ Option.getD_some eL fe Bool.false_and Bool.and_false Bool.and_self K_P fZ bv bS aR lend back idx dedup AV.ren CV.ren TV.ren AV.ptrs CV.ptrs b6 AV.flat CV.flat bI bz aJ bU cF dU bD aF bR aY bh bw aZ eD CV.pv? content aV ownT aM reps pvs chunks a7 leave ek b5 cU bd aQ TV.deg TV.av LK CV.plain CV.noBld ci ei bound List.map_cons List.map_nil List.all_cons List.all_nil List.any_cons List.any_nil List.contains_cons List.contains_nil List.elem_cons List.elem_nil List.cons_append List.nil_append List.append_nil List.flatMap_cons List.flatMap_nil List.zip_cons_cons List.zip_nil_left List.zip_nil_right List.take_succ_cons List.take_zero List.take_nil List.drop_succ_cons List.drop_zero List.drop_nil List.isEmpty_nil List.isEmpty_cons Bool.and_true Bool.true_and Bool.or_true Bool.true_or Bool.or_false Bool.false_or Bool.not_true Bool.not_false Nat.add_zero Nat.zero_add Option.isNone_none Option.isNone_some Option.getD_none true_and and_true not_true_eq_false not_false_eq_true decide_true decide_false Nat.le_refl and_self Bool.not_eq_true Nat.sub_self or_true true_or Option.some.injEq List.length_map List.nil_eq and_false false_and AV.live CV.live CV.liveIn ev aH Option.orElse_some Option.orElse_none head aU aP Int.lt_irrefl List.length_append ite_self dx bo bX a8 Key.clash Key.sees Key.writes Nat.lt_irrefl gt_iff_lt cm dG false_or or_false beq_self_eq_true Bool.true_beq Bool.false_beq
theorem xI {n:Int} (h:I64 n):(Lib.itoa n).length≤21:=Lib.itoa_length_le n h.1 h.2
theorem pE (a b:Tok):((a.kind==b.kind)&&((a.text==b.text)&&((a.n==b.n)&&true)))=decide (a=b):=by
 obtain ⟨k,t,n⟩:=a
 obtain ⟨k',t',n'⟩:=b
 rw[Bool.eq_iff_iff,decide_eq_true_eq]
 simp[Tok.mk.injEq]
theorem dQ (l:List Val):lens 5 (encL l)=true:=by
 rw[de]
 simp only[lens,List.all_map,List.all_eq_true,Function.comp_apply,beq_iff_eq]
 intro v _
 exact pu v
theorem fy (a b c d e:PV):lens 5 [[a,b,c,d,e]]=true:=rfl
theorem k8 (l:List Val) (i:Nat) (k:Int) (t:Tok) (l':List Val) (h:l[i]? = some (.mk k t l')):(encL l)[(i:Int).toNat]? = some [.int .i64 k,.int .i64 t.kind,.str t.text,.int .i64 t.n,.sl (encL l')]:=mQ l i _ h
end Go.Abs
set_option linter.unusedSimpArgs true
namespace Go.Abs
open Go Go.Proofs
set_option maxRecDepth 10000
attribute [local go_sem] cS bA ck bM bL cT cq co aI a6 aX bt bV bf opd avOf cvOf St.degAt St.put okPV dD okAV cX cZ cY cx al if_true Bool.false_eq_true if_false Option.map_some Option.map_none Option.bind_some Option.bind_none dE dp upd List.toList_toArray bu steal aN mvB dt cA bW AV.deg CV.deg AV.gv AV.isIter cj ct bJ List.length_nil List.length_cons List.filterMap_cons List.filterMap_nil beq_iff_eq List.getElem?_cons_zero List.getElem?_cons_succ Option.getD_some eL fe Bool.false_and Bool.and_false Bool.and_self K_P fZ bv bS aR lend back idx dedup AV.ren CV.ren TV.ren AV.ptrs CV.ptrs b6 AV.flat CV.flat bI bz aJ bU cF dU bD aF bR aY bh bw aZ eD CV.pv? content aV ownT aM reps pvs chunks a7 leave ek b5 cU bd aQ TV.deg TV.av LK CV.plain CV.noBld ci ei bound List.map_cons List.map_nil List.all_cons List.all_nil List.any_cons List.any_nil List.contains_cons List.contains_nil List.elem_cons List.elem_nil List.cons_append List.nil_append List.append_nil List.flatMap_cons List.flatMap_nil List.zip_cons_cons List.zip_nil_left List.zip_nil_right List.take_succ_cons List.take_zero List.take_nil List.drop_succ_cons List.drop_zero List.drop_nil List.isEmpty_nil List.isEmpty_cons Bool.and_true Bool.true_and Bool.or_true Bool.true_or Bool.or_false Bool.false_or Bool.not_true Bool.not_false Nat.add_zero Nat.zero_add Option.isNone_none Option.isNone_some Option.getD_none true_and and_true not_true_eq_false not_false_eq_true decide_true decide_false Nat.le_refl and_self Bool.not_eq_true Nat.sub_self or_true true_or Option.some.injEq List.length_map List.nil_eq and_false false_and AV.live CV.live CV.liveIn ev aH Option.orElse_some Option.orElse_none head aU aP Int.lt_irrefl List.length_append ite_self dx bo bX a8 Key.clash Key.sees Key.writes Nat.lt_irrefl gt_iff_lt cm dG false_or or_false beq_self_eq_true Bool.true_beq Bool.false_beq
abbrev wc (k:Int) (t:Tok) (l:List Val):List CV:=[.pv (.int .i64 k),.pv (.int .i64 t.kind),.pv (.str t.text),.pv (.int .i64 t.n),.pv (.sl (encL l))]
end Go.Abs
namespace Go.Abs
open Go Go.Proofs
set_option maxRecDepth 10000
attribute [local go_sem] cS bA ck bM bL cT cq co aI a6 aX bt bV bf opd avOf cvOf St.degAt St.put okPV dD okAV cX cZ cY cx al if_true Bool.false_eq_true if_false Option.map_some Option.map_none Option.bind_some Option.bind_none dE dp upd List.toList_toArray bu steal aN mvB dt cA bW AV.deg CV.deg AV.gv AV.isIter cj ct bJ List.length_nil List.length_cons List.filterMap_cons List.filterMap_nil beq_iff_eq List.getElem?_cons_zero List.getElem?_cons_succ Option.getD_some eL fe Bool.false_and Bool.and_false Bool.and_self K_P fZ bv bS aR lend back idx dedup AV.ren CV.ren TV.ren AV.ptrs CV.ptrs b6 AV.flat CV.flat bI bz aJ bU cF dU bD aF bR aY bh bw aZ eD CV.pv? content aV ownT aM reps pvs chunks a7 leave ek b5 cU bd aQ TV.deg TV.av LK CV.plain CV.noBld ci ei bound List.map_cons List.map_nil List.all_cons List.all_nil List.any_cons List.any_nil List.contains_cons List.contains_nil List.elem_cons List.elem_nil List.cons_append List.nil_append List.append_nil List.flatMap_cons List.flatMap_nil List.zip_cons_cons List.zip_nil_left List.zip_nil_right List.take_succ_cons List.take_zero List.take_nil List.drop_succ_cons List.drop_zero List.drop_nil List.isEmpty_nil List.isEmpty_cons Bool.and_true Bool.true_and Bool.or_true Bool.true_or Bool.or_false Bool.false_or Bool.not_true Bool.not_false Nat.add_zero Nat.zero_add Option.isNone_none Option.isNone_some Option.getD_none true_and and_true not_true_eq_false not_false_eq_true decide_true decide_false Nat.le_refl and_self Bool.not_eq_true Nat.sub_self or_true true_or Option.some.injEq List.length_map List.nil_eq and_false false_and AV.live CV.live CV.liveIn ev aH Option.orElse_some Option.orElse_none head aU aP Int.lt_irrefl List.length_append ite_self dx bo bX a8 Key.clash Key.sees Key.writes Nat.lt_irrefl gt_iff_lt cm dG false_or or_false beq_self_eq_true Bool.true_beq Bool.false_beq cu cd bl aW au cP aE bT zp uv uk
theorem eU (k:Int) (t:Tok) (l:List Val):den K 66 [.agg (wc k t l)] []=some (.ret (B (Sl.ar (.mk k t l))) []):=by
 refine ae rfl rfl Tryz.func66 rfl Tryz.ntmps66 ⟨by simp,by simp[LK]⟩ ?_
 have hr:Tryz.f66.results = #[.tmp 2]:=rfl
 have hs:Sl.ar (.mk k t l)=((k==1)&&(t.kind==8)):=rfl
 rw[hs]
 cases e1:(k==1)
 ·simp only[go_sem,Nat.reduceLT,Nat.reduceEqDiff,Nat.reduceBEq,Nat.reduceAdd,Nat.reduceSub,Nat.reduceLeDiff,hr,e1]
 ·simp only[go_sem,Nat.reduceLT,Nat.reduceEqDiff,Nat.reduceBEq,Nat.reduceAdd,Nat.reduceSub,Nat.reduceLeDiff,hr,e1]
abbrev ic (l:List Val) (i j:Nat):St :=
  { sl:=upd (upd (upd bot 4 (I j)) 3 (I i)) 0 (L (encL l)),bx:=nobox,nt:=38 }
noncomputable def tlp2:Code := .loop (an Tryz.f34 2)
noncomputable def tlp4:Code := .loop (an Tryz.f34 4)
theorem vC (l:List Val) (i:Nat) (hl:l.length≤100000000) (v:Val) (hi:l[i]? = some v) (hb:Sl.ar v=true) :
  exL K 34 tlp2 (ic l i l.length)=exL K 34 tlp2 (ic l (i+1) l.length):=by
 obtain ⟨k,t,c⟩:=v
 have hil:i<l.length:=(List.getElem?_eq_some_iff.1 hi).1
 have hlt:decide ((i:Int)<(l.length:Int))=true:=decide_eq_true (by omega)
 have hget:=k8 l i k t c hi
 have hw:IntKind.i64.wrap ((i:Int)+1)=((i+1:Nat):Int):=bQ i (by omega)
 have hd:=eU k t c
 rw[hb] at hd
 unfold tlp2
 conv in an _ _=>whnf
 conv in an _ _=>whnf
 conv in exL _ _ _ (ic l i l.length)=>rw[aq]
 simp only[go_sem,Nat.reduceLT,reduceCtorEq,Nat.reduceEqDiff,Nat.reduceBEq,Nat.reduceAdd,ao af,hlt,hget,Int.natCast_nonneg,hw,hd]
 rw[aO]
 simp only[go_sem,reduceCtorEq,Nat.reduceEqDiff]
theorem wx (l:List Val) (i:Nat) (hl:l.length≤100000000) (v:Val) (hi:l[i]? = some v) (hb:Sl.ar v=false) :
  Ends (exL K 34 tlp2 (ic l i l.length)) fun o S=>o = .exit 0∧S.nt=38∧S.sl 0=L (encL l)∧S.sl 3=I i∧S.sl 4=I l.length:=by
 obtain ⟨k,t,c⟩:=v
 have hil:i<l.length:=(List.getElem?_eq_some_iff.1 hi).1
 have hlt:decide ((i:Int)<(l.length:Int))=true:=decide_eq_true (by omega)
 have hget:=k8 l i k t c hi
 have hd:=eU k t c
 rw[hb] at hd
 unfold tlp2
 conv in an _ _=>whnf
 rw[aq]
 simp only[go_sem,Nat.reduceLT,reduceCtorEq,Nat.reduceEqDiff,Nat.reduceBEq,Nat.reduceAdd,ao af,hlt,hget,Int.natCast_nonneg,hd,aw]
theorem uf (l:List Val):Ends (exL K 34 tlp2 (ic l l.length l.length)) fun o S=>o = .exit 0∧S.nt=38∧S.sl 0=L (encL l)∧S.sl 3=I l.length∧S.sl 4=I l.length:=by
 unfold tlp2
 conv in an _ _=>whnf
 rw[aq]
 simp only[go_sem,Nat.reduceLT,reduceCtorEq,Nat.reduceEqDiff,Nat.reduceBEq,Nat.reduceAdd,aw]
theorem nq (l:List Val) (hl:l.length≤100000000) : ∀ (rest:List Val) (i:Nat),l.drop i=rest→i≤l.length →
  Ends (exL K 34 tlp2 (ic l i l.length)) fun o S=>o = .exit 0∧S.nt=38 ∧ ∃ j:Nat,j≤l.length∧l.drop j=rest.dropWhile Sl.ar∧S.sl 0=L (encL l)∧S.sl 3=I j∧S.sl 4=I l.length
 | [],i,hd,hi=>by
  have hin:i=l.length:=by
   have:=List.drop_eq_nil_iff.1 hd
   omega
  subst hin
  refine b7 (uf l) fun o S q=>⟨q.1,q.2.1,l.length,Nat.le_refl _,?_,q.2.2⟩
  simp
 | v::rest,i,hd,hi=>by
  obtain ⟨g1,g2,g3⟩:=cv hd
  cases hb:Sl.ar v with
  | true =>
   rw[vC l i hl v g1 hb,List.dropWhile_cons,if_pos hb]
   exact nq l hl rest (i+1) g2 (by omega)
  | false =>
   refine b7 (wx l i hl v g1 hb) fun o S q=>⟨q.1,q.2.1,i,hi,?_,q.2.2⟩
   rw[hd,List.dropWhile_cons,if_neg (by rw[hb];simp)]
theorem uZ (l:List Val) (i j:Nat) (hl:l.length≤100000000) (hij:i≤j) (v:Val) (hi:l[j]? = some v) (hb:Sl.ar v=true) :
  exL K 34 tlp4 (ic l i (j+1))=exL K 34 tlp4 (ic l i j):=by
 obtain ⟨k,t,c⟩:=v
 have hil:j<l.length:=(List.getElem?_eq_some_iff.1 hi).1
 have hlt:decide ((i:Int)<((j+1:Nat):Int))=true:=decide_eq_true (by omega)
 have hget:=k8 l j k t c hi
 have hw:IntKind.i64.wrap (((j+1:Nat):Int) - 1)=(j:Int):=by rw[IntWalk.i64_in _ (by omega)];omega
 have hd:=eU k t c
 rw[hb] at hd
 unfold tlp4
 conv in an _ _=>whnf
 conv in an _ _=>whnf
 conv in exL _ _ _ (ic l i (j+1))=>rw[aq]
 simp only[go_sem,Nat.reduceLT,reduceCtorEq,Nat.reduceEqDiff,Nat.reduceBEq,Nat.reduceAdd,ao af,hlt,hget,Int.natCast_nonneg,hw,hd]
 rw[aO]
 simp only[go_sem,reduceCtorEq,Nat.reduceEqDiff]
theorem yd (l:List Val) (i j:Nat) (hl:l.length≤100000000) (hij:i≤j) (v:Val) (hi:l[j]? = some v) (hb:Sl.ar v=false) :
  Ends (exL K 34 tlp4 (ic l i (j+1))) fun o S=>o = .exit 2∧S.nt=38∧S.sl 0=L (encL l)∧S.sl 3=I i∧S.sl 4=I ((j+1:Nat):Int):=by
 obtain ⟨k,t,c⟩:=v
 have hil:j<l.length:=(List.getElem?_eq_some_iff.1 hi).1
 have hlt:decide ((i:Int)<((j+1:Nat):Int))=true:=decide_eq_true (by omega)
 have hget:=k8 l j k t c hi
 have hw:IntKind.i64.wrap (((j+1:Nat):Int) - 1)=(j:Int):=by rw[IntWalk.i64_in _ (by omega)];omega
 have hd:=eU k t c
 rw[hb] at hd
 unfold tlp4
 conv in an _ _=>whnf
 rw[aq]
 simp only[go_sem,Nat.reduceLT,reduceCtorEq,Nat.reduceEqDiff,Nat.reduceBEq,Nat.reduceAdd,ao af,hlt,hget,Int.natCast_nonneg,hw,hd,aw]
theorem uw (l:List Val) (i:Nat):Ends (exL K 34 tlp4 (ic l i i)) fun o S=>o = .exit 2∧S.nt=38∧S.sl 0=L (encL l)∧S.sl 3=I i∧S.sl 4=I i:=by
 unfold tlp4
 conv in an _ _=>whnf
 rw[aq]
 simp only[go_sem,Nat.reduceLT,reduceCtorEq,Nat.reduceEqDiff,Nat.reduceBEq,Nat.reduceAdd,aw]
theorem nv (l:List Val) (hl:l.length≤100000000) (i:Nat) : ∀ (m j:Nat),j=i+m→j≤l.length →
  Ends (exL K 34 tlp4 (ic l i j)) fun o S=>o = .exit 2∧S.nt=38 ∧ ∃ e:Nat,i≤e∧e≤l.length∧(l.take e).drop i=(((l.take j).drop i).reverse.dropWhile Sl.ar).reverse∧S.sl 0=L (encL l)∧S.sl 3=I i∧S.sl 4=I e
 | 0,j,hj,hjl=>by
  obtain rfl:j=i:=by omega
  refine b7 (uw l j) fun o S q=>⟨q.1,q.2.1,j,Nat.le_refl _,hjl,?_,q.2.2⟩
  have:(l.take j).drop j=[]:=by rw[List.drop_eq_nil_iff,List.length_take];omega
  rw[this];rfl
 | m+1,j,hj,hjl=>by
  obtain rfl:j=(i+m)+1:=by omega
  have hlt:i+m<l.length:=by omega
  have hg:l[i+m]? = some l[i+m]:=List.getElem?_eq_getElem hlt
  have htk:(l.take (i+m+1)).drop i=(l.take (i+m)).drop i++[l[i+m]]:=by
   rw[List.take_add_one,hg,Option.toList_some,List.drop_append_of_le_length (by rw[List.length_take];omega)]
  generalize hv:l[i+m]=v at hg htk
  cases hb:Sl.ar v with
  | true =>
   rw[uZ l i (i+m) hl (by omega) v hg hb]
   refine b7 (nv l hl i m (i+m) rfl (by omega)) fun o S q => ?_
   obtain ⟨q1,q2,e,q3,q4,q5,q6⟩:=q
   refine ⟨q1,q2,e,q3,q4,?_,q6⟩
   rw[q5,htk,List.reverse_append,List.reverse_singleton,List.singleton_append,List.dropWhile_cons,if_pos hb]
  | false =>
   refine b7 (yd l i (i+m) hl (by omega) v hg hb) fun o S q=>⟨q.1,q.2.1,i+m+1,by omega,hjl,?_,q.2.2⟩
   rw[htk,List.reverse_append,List.reverse_singleton,List.singleton_append,List.dropWhile_cons,if_neg (by rw[hb];simp),List.reverse_cons,List.reverse_reverse]
theorem xJ (l:List Val) (a b:Nat):((encL l).take a).drop b=encL ((l.take a).drop b):=by
 rw[de,de,List.map_drop,List.map_take]
theorem Sl.trim_len (l:List Val):(Sl.trim l).length≤l.length:=by
 unfold Sl.trim
 rw[List.length_reverse]
 have h1:=(List.dropWhile_sublist Sl.ar (l:=(l.dropWhile Sl.ar).reverse)).length_le
 have h2:=(List.dropWhile_sublist Sl.ar (l:=l)).length_le
 rw[List.length_reverse] at h1
 omega
theorem xB (l:List Val) (hl:l.length≤100000000):den K 34 [L (encL l)] []=some (.ret (L (encL (Sl.trim l))) []):=by
 have h2:=nq l hl l 0 rfl (Nat.zero_le _)
 unfold tlp2 at h2
 conv at h2 in an _ _=>whnf
 obtain ⟨o,S,w,rfl,hn,j,hj,hjd,s0,s3,s4⟩:=h2
 have h4:=nv l hl j (l.length - j) l.length (by omega) (Nat.le_refl _)
 unfold tlp4 at h4
 conv at h4 in an _ _=>whnf
 obtain ⟨o',S',w',rfl,hn',e,he1,he2,hed,s0',s3',s4'⟩:=h4
 have hres:(l.take e).drop j=Sl.trim l:=by
  rw[hed,List.take_length,hjd];rfl
 have hlen:(Sl.trim l).length<dF:=by
  have:(Sl.trim l).length≤l.length:=by rw[←hres,List.length_drop,List.length_take];omega
  unfold dF;omega
 have hlv:=dQ l
 have hlv2:=dQ (Sl.trim l)
 have hb1:((0:Int)≤(e:Int)∧(e:Int)≤(l.length:Int))=True:=by rw[eq_iff_iff];simp;omega
 have hb2:((0:Int)≤(j:Int)∧(j:Int)≤(e:Int))=True:=by rw[eq_iff_iff];simp;omega
 refine ae rfl rfl Tryz.func34 rfl Tryz.ntmps34 ⟨by simp,by simp[LK]⟩ ?_
 have hr:Tryz.f34.results = #[.tmp 2]:=rfl
 simp only[go_sem,Nat.reduceLT,reduceCtorEq,Nat.reduceEqDiff,Nat.reduceBEq,Nat.reduceAdd,aD af,aL]
 rw[aO]
 simp only[go_sem,reduceCtorEq,Nat.reduceEqDiff]
 erw [w]
 simp only[go_sem]
 rw[aO]
 simp only[go_sem,hn,s0,s3,s4]
 erw [w']
 simp only[go_sem,Nat.reduceLT,reduceCtorEq,Nat.reduceEqDiff,Nat.reduceBEq,Nat.reduceAdd,ay (len:=0) af aE ah ⟨rfl,by decide,by decide⟩,cD af aE,cI bC,bq af,hr,hn',s0',s3',s4',aL,hb1,hb2,Int.toNat_natCast,xJ,hres,hlen,hlv,hlv2,yp]
attribute [local go_sem] xY vB vL v8
theorem gP (k:Int) (t:Tok) (l:List Val):den K 123 [.agg (wc k t l)] []=some (.ret (B (Sl.ar (.mk k t l))) []):=by
 refine ae rfl rfl Tryz.func123 rfl Tryz.ntmps123 ⟨by simp,by simp[LK]⟩ ?_
 have hr:Tryz.f123.results = #[.tmp 2]:=rfl
 have hs:Sl.ar (.mk k t l)=((k==1)&&(t.kind==8)):=rfl
 rw[hs]
 cases e1:(k==1)
 ·simp only[go_sem,Nat.reduceLT,Nat.reduceEqDiff,Nat.reduceBEq,Nat.reduceAdd,Nat.reduceSub,Nat.reduceLeDiff,hr,e1]
 ·simp only[go_sem,Nat.reduceLT,Nat.reduceEqDiff,Nat.reduceBEq,Nat.reduceAdd,Nat.reduceSub,Nat.reduceLeDiff,hr,e1]
abbrev trH (l:List Val):St := { sl:=upd bot 0 (L (encL l)),bx:=nobox,nt:=33 }
noncomputable def trlp1:Code := .loop (an Tryz.f70 1)
noncomputable def trlp3:Code := .loop (an Tryz.f70 3)
theorem nw (k:Int) (t:Tok) (c r:List Val):(encL (.mk k t c::r))[(0:Int).toNat]? = some [.int .i64 k,.int .i64 t.kind,.str t.text,.int .i64 t.n,.sl (encL c)]:=rfl
theorem rq (v:Val) (r:List Val) (n:Nat) (h:n=r.length+1):((encL (v::r)).take n).drop (1:Int).toNat=encL r:=by
 subst h
 rw[encL,List.take_of_length_le (by rw[List.length_cons,aL];omega)];rfl
theorem le00:((0:Int)≤0)=True:=by simp
theorem zd (v:Val) (r:List Val) (hl:r.length≤100000000) (hb:Sl.ar v=true) :
  exL K 70 trlp1 (trH (v::r))=exL K 70 trlp1 (trH r):=by
 obtain ⟨k,t,c⟩:=v
 have hlt:decide ((0:Int)<(((r.length+1:Nat)):Int))=true:=decide_eq_true (by omega)
 have hget:=nw k t c r
 have hcut:=rq (.mk k t c) r (r.length+1) rfl
 have hb1:((0:Int)≤1∧(1:Int)≤((r.length+1:Nat):Int))=True:=by rw[eq_iff_iff];simp;omega
 have hlv:=dQ (.mk k t c::r)
 have hd:=gP k t c
 rw[hb] at hd
 unfold trlp1
 conv in an _ _=>whnf
 conv in an _ _=>whnf
 conv in exL _ _ _ (trH (.mk k t c::r))=>rw[aq]
 simp only[go_sem,Nat.reduceLT,reduceCtorEq,Nat.reduceEqDiff,Nat.reduceBEq,Nat.reduceAdd,aD af,ao af,cD af aE,aL,List.length_cons,hlt,hget,hd,hb1,hlv,hcut,le00]
 rw[aO]
 simp only[go_sem,reduceCtorEq]
theorem z8 (v:Val) (r:List Val) (hl:r.length≤100000000) (hb:Sl.ar v=false) :
  Ends (exL K 70 trlp1 (trH (v::r))) fun o S=>o = .exit 0∧S.nt=33∧S.sl 0=L (encL (v::r)):=by
 obtain ⟨k,t,c⟩:=v
 have hlt:decide ((0:Int)<(((r.length+1:Nat)):Int))=true:=decide_eq_true (by omega)
 have hget:=nw k t c r
 have hd:=gP k t c
 rw[hb] at hd
 unfold trlp1
 conv in an _ _=>whnf
 rw[aq]
 simp only[go_sem,Nat.reduceLT,reduceCtorEq,Nat.reduceEqDiff,Nat.reduceBEq,Nat.reduceAdd,aD af,ao af,aL,List.length_cons,hlt,hget,hd,le00,aw]
theorem yL:Ends (exL K 70 trlp1 (trH [])) fun o S=>o = .exit 0∧S.nt=33∧S.sl 0=L (encL []):=by
 have hlt:decide ((0:Int)<((0:Nat):Int))=false:=rfl
 unfold trlp1
 conv in an _ _=>whnf
 rw[aq]
 simp only[go_sem,Nat.reduceLT,reduceCtorEq,Nat.reduceEqDiff,Nat.reduceBEq,Nat.reduceAdd,aD af,aL,List.length_nil,hlt,aw]
theorem qZ : ∀ (l:List Val),l.length≤100000000→Ends (exL K 70 trlp1 (trH l)) fun o S=>o = .exit 0∧S.nt=33∧S.sl 0=L (encL (l.dropWhile Sl.ar))
 | [],_=>yL
 | v::r,hl=>by
  rw[List.length_cons] at hl
  cases hb:Sl.ar v with
  | true =>
   rw[zd v r (by omega) hb,List.dropWhile_cons,if_pos hb]
   exact qZ r (by omega)
  | false =>
   rw[List.dropWhile_cons,if_neg (by rw[hb];simp)]
   exact z8 v r (by omega) hb
theorem p9 (m:List Val) (k:Int) (t:Tok) (c:List Val):(encL (m++[.mk k t c]))[((m.length:Nat):Int).toNat]? = some [.int .i64 k,.int .i64 t.kind,.str t.text,.int .i64 t.n,.sl (encL c)]:=by
 exact mQ (m++[.mk k t c]) m.length (.mk k t c) (by simp)
theorem yq (m:List Val) (v:Val):(encL (m++[v])).take m.length=encL m:=by
 rw[iM,List.take_append_of_le_length (by rw[aL];exact Nat.le_refl _),List.take_of_length_le (by rw[aL];exact Nat.le_refl _)]
theorem y9 (m:List Val) (v:Val) (hl:m.length≤100000000) (hb:Sl.ar v=true) :
  exL K 70 trlp3 (trH (m++[v]))=exL K 70 trlp3 (trH m):=by
 obtain ⟨k,t,c⟩:=v
 have hn:(encL (m++[.mk k t c])).length=m.length+1:=by rw[aL];simp
 have hlt:decide ((0:Int)<(((m.length+1:Nat)):Int))=true:=decide_eq_true (by omega)
 have hw:IntKind.i64.wrap (((m.length+1:Nat):Int) - 1)=(m.length:Int):=by rw[IntWalk.i64_in _ (by omega)];omega
 have hget:=p9 m k t c
 have hcut:=yq m (.mk k t c)
 have hb1:((m.length:Int)≤((m.length+1:Nat):Int))=True:=by rw[eq_iff_iff];simp;omega
 have hlv:=dQ (m++[.mk k t c])
 have hd:=gP k t c
 rw[hb] at hd
 rw[Int.toNat_natCast] at hget
 unfold trlp3
 conv in an _ _=>whnf
 conv in an _ _=>whnf
 conv in exL _ _ _ (trH (m++[.mk k t c]))=>rw[aq]
 simp only[go_sem,Nat.reduceLT,reduceCtorEq,Nat.reduceEqDiff,Nat.reduceBEq,Nat.reduceAdd,aD af,ao af,cD af aE,hn,hlt,hw,Int.natCast_nonneg,Int.toNat_natCast,hget,hd,hb1,hlv,hcut]
 rw[aO]
 simp only[go_sem,reduceCtorEq]
theorem AF (m:List Val) (v:Val) (hl:m.length≤100000000) (hb:Sl.ar v=false) :
  Ends (exL K 70 trlp3 (trH (m++[v]))) fun o S=>o = .exit 2∧S.nt=33∧S.sl 0=L (encL (m++[v])):=by
 obtain ⟨k,t,c⟩:=v
 have hn:(encL (m++[.mk k t c])).length=m.length+1:=by rw[aL];simp
 have hlt:decide ((0:Int)<(((m.length+1:Nat)):Int))=true:=decide_eq_true (by omega)
 have hw:IntKind.i64.wrap (((m.length+1:Nat):Int) - 1)=(m.length:Int):=by rw[IntWalk.i64_in _ (by omega)];omega
 have hget:=p9 m k t c
 have hd:=gP k t c
 rw[hb] at hd
 rw[Int.toNat_natCast] at hget
 unfold trlp3
 conv in an _ _=>whnf
 rw[aq]
 simp only[go_sem,Nat.reduceLT,reduceCtorEq,Nat.reduceEqDiff,Nat.reduceBEq,Nat.reduceAdd,aD af,ao af,hn,hlt,hw,Int.natCast_nonneg,Int.toNat_natCast,hget,hd,aw]
theorem zL:Ends (exL K 70 trlp3 (trH [])) fun o S=>o = .exit 2∧S.nt=33∧S.sl 0=L (encL []):=by
 have hlt:decide ((0:Int)<((0:Nat):Int))=false:=rfl
 unfold trlp3
 conv in an _ _=>whnf
 rw[aq]
 simp only[go_sem,Nat.reduceLT,reduceCtorEq,Nat.reduceEqDiff,Nat.reduceBEq,Nat.reduceAdd,aD af,aL,List.length_nil,hlt,aw]
theorem rG : ∀ (n:Nat) (l:List Val),l.length=n→l.length≤100000000→Ends (exL K 70 trlp3 (trH l)) fun o S=>o = .exit 2∧S.nt=33∧S.sl 0=L (encL (l.reverse.dropWhile Sl.ar).reverse)
 | 0,l,h,_=>by
  obtain rfl:l=[]:=List.eq_nil_of_length_eq_zero h
  exact zL
 | n+1,l,h,hl=>by
  obtain ⟨m,v,rfl⟩ : ∃ m v,l=m++[v]:=⟨l.dropLast,l.getLast (fun e=>by rw[e] at h;simp at h),(List.dropLast_concat_getLast _).symm⟩
  rw[List.length_append,List.length_singleton] at h hl
  rw[List.reverse_append,List.reverse_singleton,List.singleton_append]
  cases hb:Sl.ar v with
  | true =>
   rw[y9 m v (by omega) hb,List.dropWhile_cons,if_pos hb]
   exact rG n m (by omega) (by omega)
  | false =>
   rw[List.dropWhile_cons,if_neg (by rw[hb];simp),List.reverse_cons,List.reverse_reverse]
   exact AF m v (by omega) hb
theorem vp (l:List Val) (hl:l.length≤1000000000):den K 124 [L (encL l)] []=some (.ret (L (encL l)) []):=by
 refine nc (F:=o0) rfl ?_
 show (if (encL l).length≤1000000000∧(encL l).all (fun el=>el.length==5) then _ else none)=_
 have h2:(encL l).all (fun el=>el.length==5)=true:=dQ l
 rw[if_pos ⟨by rw[aL];exact hl,h2⟩]
theorem nU (l:List Val) (hl:l.length≤100000000):den K 70 [L (encL l)] []=some (.ret (L (encL (Sl.trim l))) []):=by
 have h1:=qZ l hl
 have hlen:=(List.dropWhile_sublist Sl.ar (l:=l)).length_le
 have h3:=rG _ (l.dropWhile Sl.ar) rfl (by omega)
 unfold trlp1 at h1
 conv at h1 in an _ _=>whnf
 obtain ⟨o,S,w,rfl,hn,s0⟩:=h1
 unfold trlp3 at h3
 conv at h3 in an _ _=>whnf
 obtain ⟨o',S',w',rfl,hn',s0'⟩:=h3
 have hc:=vp (Sl.trim l) (by have:=Sl.trim_len l;omega)
 have e:(((l.dropWhile Sl.ar).reverse).dropWhile Sl.ar).reverse=Sl.trim l:=rfl
 rw[e] at s0'
 refine ae rfl rfl Tryz.func70 rfl Tryz.ntmps70 ⟨by simp,by simp[LK]⟩ ?_
 have hr:Tryz.f70.results = #[.tmp 2]:=rfl
 simp only[go_sem,Nat.reduceLT,Nat.reduceBEq]
 rw[aO]
 simp only[go_sem,reduceCtorEq]
 erw [w]
 simp only[go_sem]
 rw[aO]
 simp only[go_sem,hn,s0]
 erw [w']
 simp only[go_sem,Nat.reduceLT,Nat.reduceEqDiff,Nat.reduceBEq,Nat.reduceAdd,hr,hn',s0',hc]
abbrev U (c:UInt8):AV := .c (.pv (.int .u8 c.toNat))
theorem ed (c d:UInt8):((c.toNat:Int)==(d.toNat:Int))=(c==d):=by
 by_cases e:c=d
 ·subst e;simp
 ·have:c.toNat≠d.toNat:=fun h2=>e (UInt8.toNat_inj.1 h2)
  rw[beq_eq_false_iff_ne.2 e,beq_eq_false_iff_ne.2 (by omega)]
theorem wk (s:List UInt8) (i:Nat):(s[i]? = none∧Tk.at0 (s.drop i)=0∧s.length≤i)∨(i<s.length∧s[i]? = some (Tk.at0 (s.drop i))):=by
 by_cases h:i<s.length
 ·right
  refine ⟨h,?_⟩
  rw[List.drop_eq_getElem_cons h,Tk.im,List.getElem?_eq_getElem h]
 ·left
  refine ⟨List.getElem?_eq_none (by omega),?_,by omega⟩
  rw[List.drop_eq_nil_of_le (by omega)];rfl
theorem wF (a b c:PV):lens 3 [[a,b,c]]=true:=rfl
theorem gy (l:List Tok):lens 3 (l.map Tok.enc)=true:=by simp[lens,Tok.enc]
end Go.Abs
set_option linter.unusedSimpArgs true
namespace Go.Abs
open Go
theorem tG {α:Type}:(#[]:Array α).isEmpty=true:=rfl
def encT (l:List (List UInt8)):List (List PV):=l.map fun s=>[.str s]
theorem rv (l:List (List UInt8)):(encT l).length=l.length:=List.length_map ..
theorem An (l:List (List UInt8)) (i:Nat) (x:List UInt8) (h:l[i]? = some x):(encT l)[(i:Int).toNat]? = some [.str x]:=by
 rw[Int.toNat_natCast,encT,List.getElem?_map,h];rfl
def ixI (o:Option Nat):Int:=match o with|some j=>j|none => -1
theorem Au {α:Type} {p:α→Bool} {l:List α}:decide (0≤ixI (l.findIdx? p))=l.any p:=by
 cases h:l.findIdx? p with
 | none =>
  rw[List.findIdx?_eq_none_iff] at h
  have:l.any p=false:=by
   rw[List.any_eq_false]
   intro x hx
   rw[h x hx];simp
  rw[this];decide
 | some j =>
  obtain ⟨hj,hp,_⟩:=List.findIdx?_eq_some_iff_getElem.1 h
  have:l.any p=true:=by
   rw[List.any_eq_true]
   exact ⟨_,List.getElem_mem hj,hp⟩
  rw[this]
  show decide ((0:Int)≤(j:Int))=true
  exact decide_eq_true (by omega)
end Go.Abs
namespace Go.Abs
open Go Go.Proofs
set_option maxRecDepth 10000
attribute [local go_sem] cS bA ck bM bL cT cq co aI a6 aX bt bV bf opd avOf cvOf St.degAt St.put okPV dD okAV cX cZ cY cx al if_true Bool.false_eq_true if_false Option.map_some Option.map_none Option.bind_some Option.bind_none dE dp upd List.toList_toArray bu steal aN mvB dt cA bW AV.deg CV.deg AV.gv AV.isIter cj ct bJ List.length_nil List.length_cons List.filterMap_cons List.filterMap_nil beq_iff_eq List.getElem?_cons_zero List.getElem?_cons_succ Option.getD_some eL fe Bool.false_and Bool.and_false Bool.and_self K_P fZ bv bS aR lend back idx dedup AV.ren CV.ren TV.ren AV.ptrs CV.ptrs b6 AV.flat CV.flat bI bz aJ bU cF dU bD aF bR aY bh bw aZ eD CV.pv? content aV ownT aM reps pvs chunks a7 leave ek b5 cU bd aQ TV.deg TV.av LK CV.plain CV.noBld ci ei bound List.map_cons List.map_nil List.all_cons List.all_nil List.any_cons List.any_nil List.contains_cons List.contains_nil List.elem_cons List.elem_nil List.cons_append List.nil_append List.append_nil List.flatMap_cons List.flatMap_nil List.zip_cons_cons List.zip_nil_left List.zip_nil_right List.take_succ_cons List.take_zero List.take_nil List.drop_succ_cons List.drop_zero List.drop_nil List.isEmpty_nil List.isEmpty_cons Bool.and_true Bool.true_and Bool.or_true Bool.true_or Bool.or_false Bool.false_or Bool.not_true Bool.not_false Nat.add_zero Nat.zero_add Option.isNone_none Option.isNone_some Option.getD_none true_and and_true not_true_eq_false not_false_eq_true decide_true decide_false Nat.le_refl and_self Bool.not_eq_true Nat.sub_self or_true true_or Option.some.injEq List.length_map List.nil_eq and_false false_and AV.live CV.live CV.liveIn ev aH Option.orElse_some Option.orElse_none head aU aP Int.lt_irrefl List.length_append ite_self dx bo bX a8 Key.clash Key.sees Key.writes Nat.lt_irrefl gt_iff_lt cm dG false_or or_false beq_self_eq_true Bool.true_beq Bool.false_beq k9 bT ah ky eO gQ aE tM cu bl aW az cP r8 cO cL xW ab au tL tq eN cd eP yx pB
abbrev rdB (l:List Val):List CV:=[.pv (.sl (encL l))]
abbrev jy:CV := .pv (.ifa 115 [])
def nxCv:List Val→List CV
 | []=>[.pv (.int .i64 0),.pv (.int .i64 0),.pv (.str []),.pv (.int .i64 0),.nils]
 | .mk k t c::_=>wc k t c
theorem sC:nxCv []=[.pv (.int .i64 0),.pv (.int .i64 0),.pv (.str []),.pv (.int .i64 0),.nils]:=rfl
theorem fX (k:Int) (t:Tok) (c r:List Val):nxCv (.mk k t c::r)=[.pv (.int .i64 k),.pv (.int .i64 t.kind),.pv (.str t.text),.pv (.int .i64 t.n),.pv (.sl (encL c))]:=rfl
theorem iq:den K 40 [B true] []=some (.ret (.tup []) []):=by
 refine ae rfl rfl Tryz.func40 rfl Tryz.ntmps40 ⟨by simp,by simp[LK]⟩ ?_
 have hr:Tryz.f40.results = #[]:=rfl
 simp only[go_sem,Nat.reduceLT,Nat.reduceEqDiff,Nat.reduceBEq,Nat.reduceAdd,am gx ik,hr]
theorem iZ:den K 40 [B false] []=some (.pan jy []):=by
 refine ae rfl rfl Tryz.func40 rfl Tryz.ntmps40 ⟨by simp,by simp[LK]⟩ ?_
 have hr:Tryz.f40.results = #[]:=rfl
 simp only[go_sem,Nat.reduceLT,Nat.reduceEqDiff,Nat.reduceBEq,Nat.reduceAdd,am gx ik,hr]
theorem fL (l:List Val) (hl:l.length≤100000000):den K 74 [P0] [rdB l]=some (.ret (.agg (nxCv l)) [rdB l]):=by
 have hr:Tryz.f74.results = #[.cell 2 93]:=rfl
 cases l with
 | nil =>
  have q0:(((0:Nat):Int)==0)=true:=rfl
  rw[sC]
  simp only[rdB]
  refine ae rfl rfl Tryz.func74 rfl Tryz.ntmps74 ⟨by simp,by simp[LK]⟩ ?_
  simp only[go_sem,Nat.reduceLT,reduceCtorEq,Nat.reduceEqDiff,Nat.reduceBEq,Nat.reduceAdd,Nat.reduceSub,Nat.reduceLeDiff,aD af,am ah aG,hr,aL,q0]
 | cons v r =>
  obtain ⟨k,t,c⟩:=v
  rw[List.length_cons] at hl
  have hn0:(((r.length+1:Nat):Int)==0)=false:=by rw[beq_eq_false_iff_ne];omega
  have hget:=nw k t c r
  rw[fX]
  simp only[rdB]
  refine ae rfl rfl Tryz.func74 rfl Tryz.ntmps74 ⟨by simp,by simp[LK]⟩ ?_
  simp only[go_sem,Nat.reduceLT,reduceCtorEq,Nat.reduceEqDiff,Nat.reduceBEq,Nat.reduceAdd,Nat.reduceSub,Nat.reduceLeDiff,aD af,am ah aG,ao af,hr,aL,hn0,hget,le00]
theorem fV (k:Int) (t:Tok) (c r:List Val) (hl:r.length≤90000000):den K 77 [P0] [rdB (.mk k t c::r)]=some (.ret (.agg (nxCv (.mk k t c::r))) [rdB r]):=by
 have hr:Tryz.f77.results = #[.cell 2 93]:=rfl
 have h:=fL (.mk k t c::r) (by rw[List.length_cons];omega)
 rw[fX] at h ⊢
 simp only[rdB] at h ⊢
 have hlt:decide ((0:Int)<(((r.length+1:Nat)):Int))=true:=decide_eq_true (by omega)
 have hcut:=rq (.mk k t c) r (r.length+1) rfl
 have hb1:((0:Int)≤1∧(1:Int)≤((r.length+1:Nat):Int))=True:=by rw[eq_iff_iff];simp;omega
 have hlv:=dQ (.mk k t c::r)
 refine ae rfl rfl Tryz.func77 rfl Tryz.ntmps77 ⟨by simp,by simp[LK]⟩ ?_
 simp only[go_sem,Nat.reduceLT,reduceCtorEq,Nat.reduceEqDiff,Nat.reduceBEq,Nat.reduceAdd,Nat.reduceSub,Nat.reduceLeDiff,aD af,cD af aE,hr,aL,h,hlt,hcut,hb1,hlv]
def tokB (kind:Int):List Val→Bool
 | .mk k t _::_=>(k==1)&&(t.kind==kind)
 | []=>false
theorem jg {kind:Int} {l:List Val} {t:Tok} (h:Sl.tokK kind l=some t):tokB kind l=true ∧ ∃ c r,l = .mk 1 t c::r∧t.kind=kind:=by
 cases l with
 | nil=>cases h
 | cons v r =>
  obtain ⟨k,u,c⟩:=v
  unfold Sl.tokK at h
  simp only at h
  split at h
  ·rename_i hh
   cases h
   obtain ⟨rfl,h2⟩:=hh
   exact ⟨by show (((1:Int)==1)&&(t.kind==kind))=true;rw[h2];simp,c,r,rfl,h2⟩
  ·cases h
theorem i8 {kind:Int} {l:List Val} (h:Sl.tokK kind l=none):tokB kind l=false:=by
 cases l with
 | nil=>rfl
 | cons v r =>
  obtain ⟨k,u,c⟩:=v
  unfold Sl.tokK at h
  simp only at h
  split at h
  ·cases h
  ·rename_i hh
   show ((k==1)&&(u.kind==kind))=false
   rw[Bool.and_eq_false_iff,beq_eq_false_iff_ne,beq_eq_false_iff_ne]
   by_cases h1:k=1
   ·exact .inr fun h2=>hh ⟨h1,h2⟩
   ·exact .inl h1
theorem gB (l:List Val) (kind:Int) (hl:l.length≤100000000):den K 71 [P0,I kind] [rdB l]=some (.ret (B (tokB kind l)) [rdB l]):=by
 have hr:Tryz.f71.results = #[.tmp 4]:=rfl
 have h:=fL l hl
 cases l with
 | nil =>
  rw[sC] at h
  have q0:((0:Int)==1)=false:=rfl
  show _=(some (.ret (B false) [rdB []]):Option Res)
  simp only[rdB] at h ⊢
  refine ae rfl rfl Tryz.func71 rfl Tryz.ntmps71 ⟨by simp,by simp[LK]⟩ ?_
  simp only[go_sem,Nat.reduceLT,reduceCtorEq,Nat.reduceEqDiff,Nat.reduceBEq,Nat.reduceAdd,hr,h,q0]
 | cons v r =>
  obtain ⟨k,t,c⟩:=v
  rw[fX] at h
  show _=(some (.ret (B ((k==1)&&(t.kind==kind))) [rdB (.mk k t c::r)]):Option Res)
  simp only[rdB] at h ⊢
  cases e1:(k==1)
  ·refine ae rfl rfl Tryz.func71 rfl Tryz.ntmps71 ⟨by simp,by simp[LK]⟩ ?_
   simp only[go_sem,Nat.reduceLT,reduceCtorEq,Nat.reduceEqDiff,Nat.reduceBEq,Nat.reduceAdd,hr,h,e1]
  ·refine ae rfl rfl Tryz.func71 rfl Tryz.ntmps71 ⟨by simp,by simp[LK]⟩ ?_
   simp only[go_sem,Nat.reduceLT,reduceCtorEq,Nat.reduceEqDiff,Nat.reduceBEq,Nat.reduceAdd,Nat.reduceLeDiff,hr,h,e1]
abbrev ixtH (l:List (List UInt8)) (s:List UInt8) (i:Nat):St :=
  { sl:=upd (upd (upd (upd bot 8 (I i)) 7 (I l.length)) 1 (T s)) 0 (L (encT l)),bx:=nobox,nt:=19 }
noncomputable def ixtlp:Code := .loop (an Tryz.f151 2)
theorem pN (l:List (List UInt8)) (s:List UInt8) (hl:l.length≤1000000000) : ∀ (rest:List (List UInt8)) (i:Nat),l.drop i=rest→i≤l.length →
  Ends (exL K 151 ixtlp (ixtH l s i)) fun o S=>match rest.findIdx? (s == ·) with
   | none=>o = .exit 0∧S.nt=19
   | some j=>o = .ret∧S.sl 4=I ((i+j:Nat):Int)
 | [],i,hd,hi=>by
  have hin:i=l.length:=by
   have:=List.drop_eq_nil_iff.1 hd
   omega
  subst hin
  have hlt:decide ((l.length:Int)<(l.length:Int))=false:=decide_eq_false (by omega)
  unfold ixtlp
  conv in an _ _=>whnf
  rw[aq]
  simp only[go_sem,Nat.reduceLT,reduceCtorEq,Nat.reduceEqDiff,Nat.reduceBEq,aw,List.findIdx?_nil]
 | x::rest,i,hd,hi=>by
  obtain ⟨g1,g2,g3⟩:=cv hd
  have hlt:decide ((i:Int)<(l.length:Int))=true:=decide_eq_true (by omega)
  have hget:=An l i x g1
  have ih:=pN l s hl rest (i+1) g2 (by omega)
  have hws:IntKind.i64.wrap ((i:Int)+1)=((i+1:Nat):Int):=bQ i (by omega)
  unfold ixtlp at ih ⊢
  conv at ih in an _ _=>whnf
  rw[List.findIdx?_cons]
  conv in an _ _=>whnf
  rw[aq]
  cases hv:(s==x)
  ·rw[if_neg (by simp)]
   simp only[go_sem,Nat.reduceLT,reduceCtorEq,Nat.reduceEqDiff,Nat.reduceBEq,Nat.reduceAdd,ao cK,hlt,hget,Int.natCast_nonneg,hv,hws]
   rw[aO]
   simp only[go_sem,reduceCtorEq,Nat.reduceEqDiff]
   refine b7 ih fun o S q => ?_
   cases hf:rest.findIdx? (s == ·) with
   | none=>rw[hf] at q;exact q
   | some j =>
    rw[hf] at q
    refine ⟨q.1,q.2.trans ?_⟩
    rw[show i+1+j=i+(j+1) by omega]
  ·rw[if_pos rfl]
   simp only[go_sem,Nat.reduceLT,reduceCtorEq,Nat.reduceEqDiff,Nat.reduceBEq,Nat.reduceAdd,ao cK,hlt,hget,Int.natCast_nonneg,hv,aw,Nat.add_zero]
theorem q7 (l:List (List UInt8)) (s:List UInt8) (hl:l.length≤1000000000) :
  den K 151 [L (encT l),T s] []=some (.ret (I (ixI (l.findIdx? (s == ·)))) []):=by
 have hr:Tryz.f151.results = #[.tmp 4]:=rfl
 have h:=pN l s hl l 0 rfl (Nat.zero_le _)
 unfold ixtlp at h
 conv at h in an _ _=>whnf
 obtain ⟨o,S',w,hq⟩:=h
 have z0:((0:Nat):Int)=0:=rfl
 simp only[ixtH,z0] at w
 refine ae rfl rfl Tryz.func151 rfl Tryz.ntmps151 ⟨by simp,by simp[LK]⟩ ?_
 cases hf:l.findIdx? (s == ·) with
 | none =>
  rw[hf] at hq
  obtain ⟨rfl,hn⟩:=hq
  unfold ixI
  simp only[go_sem,Nat.reduceLT,reduceCtorEq,Nat.reduceEqDiff,Nat.reduceBEq,Nat.reduceAdd,aD cK,rv]
  rw[aO]
  simp only[go_sem,reduceCtorEq,Nat.reduceEqDiff]
  erw [w]
  simp only[go_sem,Nat.reduceLT,Nat.reduceBEq,hr,hn]
 | some j =>
  rw[hf] at hq
  obtain ⟨rfl,h4⟩:=hq
  rw[Nat.zero_add] at h4
  unfold ixI
  simp only[go_sem,Nat.reduceLT,reduceCtorEq,Nat.reduceEqDiff,Nat.reduceBEq,Nat.reduceAdd,aD cK,rv]
  rw[aO]
  simp only[go_sem,reduceCtorEq,Nat.reduceEqDiff]
  erw [w]
  simp only[go_sem,hr,h4]
theorem mD (l:List (List UInt8)) (s:List UInt8) (hl:l.length≤1000000000) :
  den K 106 [L (encT l),T s] []=some (.ret (B (l.any (s == ·))) []):=by
 have hr:Tryz.f106.results = #[.tmp 4]:=rfl
 have h:=q7 l s hl
 rw[←Au]
 refine ae rfl rfl Tryz.func106 rfl Tryz.ntmps106 ⟨by simp,by simp[LK]⟩ ?_
 simp only[go_sem,Nat.reduceLT,reduceCtorEq,Nat.reduceEqDiff,Nat.reduceBEq,Nat.reduceAdd,hr,h]
def qe (ss:List (List UInt8)):List Val→Option (List UInt8×List Val)
 | .mk k t _::r=>if k=1∧t.kind=7∧t.n=0∧ss.any (t.text == ·)=true then some (t.text,r) else none
 | []=>none
def tS (ss:List (List UInt8)) (l:List Val):Option Res:=match qe ss l with
 | some (s,r)=>some (.ret (T s) [rdB r])
 | none=>some (.ret (T []) [rdB l])
set_option maxHeartbeats 4000000 in
theorem ni (l:List Val) (ss:List (List UInt8)) (hl:l.length≤90000000) (hs:ss.length≤1000):den K 78 [P0,L (encT ss)] [rdB l]=tS ss l:=by
 have hr:Tryz.f78.results = #[.tmp 4]:=rfl
 have h:=fL l (by omega)
 have ht:=gB l 7 (by omega)
 unfold tS
 cases l with
 | nil =>
  rw[sC] at h
  simp only[qe,rdB,tokB] at h ht ⊢
  refine ae rfl rfl Tryz.func78 rfl Tryz.ntmps78 ⟨by simp,by simp[LK]⟩ ?_
  simp only[go_sem,Nat.reduceLT,reduceCtorEq,Nat.reduceEqDiff,Nat.reduceBEq,Nat.reduceAdd,Nat.reduceSub,Nat.reduceLeDiff,hr,h,ht]
 | cons v r =>
  obtain ⟨k,t,c⟩:=v
  rw[fX] at h
  have hk:=fV k t c r (by rw[List.length_cons] at hl;omega)
  have hc:=mD ss t.text (by omega)
  rw[fX] at hk
  simp only[qe,rdB,tokB] at h ht hk ⊢
  cases e1:(k==1)
  ·have n1:k≠1:=by simpa using e1
   rw[if_neg fun h=>n1 h.1]
   refine ae rfl rfl Tryz.func78 rfl Tryz.ntmps78 ⟨by simp,by simp[LK]⟩ ?_
   simp only[go_sem,Nat.reduceLT,reduceCtorEq,Nat.reduceEqDiff,Nat.reduceBEq,Nat.reduceAdd,Nat.reduceSub,Nat.reduceLeDiff,hr,h,ht,e1]
  ·have n1:k=1:=by simpa using e1
   cases e2:(t.kind==7)
   ·have n2:t.kind≠7:=by simpa using e2
    rw[if_neg fun h=>n2 h.2.1]
    refine ae rfl rfl Tryz.func78 rfl Tryz.ntmps78 ⟨by simp,by simp[LK]⟩ ?_
    simp only[go_sem,Nat.reduceLT,reduceCtorEq,Nat.reduceEqDiff,Nat.reduceBEq,Nat.reduceAdd,Nat.reduceSub,Nat.reduceLeDiff,hr,h,ht,e1,e2]
   ·have n2:t.kind=7:=by simpa using e2
    cases e3:(t.n==0)
    ·have n3:t.n≠0:=by simpa using e3
     rw[if_neg fun h=>n3 h.2.2.1]
     refine ae rfl rfl Tryz.func78 rfl Tryz.ntmps78 ⟨by simp,by simp[LK]⟩ ?_
     simp only[go_sem,Nat.reduceLT,reduceCtorEq,Nat.reduceEqDiff,Nat.reduceBEq,Nat.reduceAdd,Nat.reduceSub,Nat.reduceLeDiff,hr,h,ht,e1,e2,e3]
    ·have n3:t.n=0:=by simpa using e3
     cases e4:ss.any (t.text == ·)
     ·rw[if_neg fun h=>absurd h.2.2.2 (by simp)]
      refine ae rfl rfl Tryz.func78 rfl Tryz.ntmps78 ⟨by simp,by simp[LK]⟩ ?_
      simp only[go_sem,Nat.reduceLT,reduceCtorEq,Nat.reduceEqDiff,Nat.reduceBEq,Nat.reduceAdd,Nat.reduceSub,Nat.reduceLeDiff,hr,h,ht,e1,e2,e3,hc,e4]
     ·rw[if_pos ⟨n1,n2,n3,rfl⟩]
      refine ae rfl rfl Tryz.func78 rfl Tryz.ntmps78 ⟨by simp,by simp[LK]⟩ ?_
      simp only[go_sem,Nat.reduceLT,reduceCtorEq,Nat.reduceEqDiff,Nat.reduceBEq,Nat.reduceAdd,Nat.reduceSub,Nat.reduceLeDiff,hr,h,ht,e1,e2,e3,hc,e4,hk]
theorem oq (s:List UInt8) (l:List Val):qe [s] l=(Sl.sign s l).map fun r=>(s,r):=by
 cases l with
 | nil=>rfl
 | cons v r =>
  obtain ⟨k,t,c⟩:=v
  have hs:Sl.cH s (.mk k t c)=true↔k=1∧t=⟨7,s,0⟩:=by
   show ((k==1)&&decide (t=⟨7,s,0⟩))=true↔_
   simp
  unfold qe Sl.sign
  simp only[List.any_cons,List.any_nil,Bool.or_false,beq_iff_eq]
  by_cases h:k=1∧t.kind=7∧t.n=0∧t.text=s
  ·obtain ⟨h1,h2,h3,h4⟩:=h
   have e:t=⟨7,s,0⟩:=by cases t;simp_all
   rw[if_pos ⟨h1,h2,h3,h4⟩,if_pos (hs.2 ⟨h1,e⟩),h4]
   rfl
  ·rw[if_neg h,if_neg fun x=>h (by obtain ⟨x1,x2⟩:=hs.1 x;rw[x2];exact ⟨x1,rfl,rfl,rfl⟩)]
   rfl
theorem uT {s:List UInt8} {l r:List Val} (hl:l.length≤90000000) (h:Sl.sign s l=some r):den K 78 [P0,L [[.str s]]] [rdB l]=some (.ret (T s) [rdB r]):=by
 have:=ni l [s] hl (by simp)
 unfold tS at this
 rw[oq,h] at this
 exact this
theorem we {s:List UInt8} {l:List Val} (hl:l.length≤90000000) (h:Sl.sign s l=none):den K 78 [P0,L [[.str s]]] [rdB l]=some (.ret (T []) [rdB l]):=by
 have:=ni l [s] hl (by simp)
 unfold tS at this
 rw[oq,h] at this
 exact this
def qJ {α:Type} (enc:α→AV) (o:Option (α×List Val)) (r:Option Res):Prop:=match o with
 | some (x,m)=>r=some (.ret (enc x) [rdB m])
 | none => ∃ m,r=some (.pan jy [rdB m])
theorem rI (l:List Val) (hl:l.length≤80000000):qJ T (Sl.name l) (den K 73 [P0] [rdB l]):=by
 have hr:Tryz.f73.results = #[.tmp 2]:=rfl
 have ht:=gB l 1 (by omega)
 unfold Sl.name
 cases hk:Sl.tokK 1 l with
 | none =>
  rw[i8 hk] at ht
  have hm:=iZ
  refine ⟨l,?_⟩
  simp only[rdB] at ht ⊢
  refine ae rfl rfl Tryz.func73 rfl Tryz.ntmps73 ⟨by simp,by simp[LK]⟩ ?_
  simp only[go_sem,Nat.reduceLT,reduceCtorEq,Nat.reduceEqDiff,Nat.reduceBEq,hr,ht,hm]
 | some t =>
  obtain ⟨e,c,r,rfl,h1⟩:=jg hk
  rw[e] at ht
  have hm:=iq
  have htk:=fV 1 t c r (by rw[List.length_cons] at hl;omega)
  rw[fX] at htk
  show den K 73 [P0] [rdB (.mk 1 t c::r)]=some (.ret (T t.text) [rdB r])
  simp only[rdB] at ht htk ⊢
  refine ae rfl rfl Tryz.func73 rfl Tryz.ntmps73 ⟨by simp,by simp[LK]⟩ ?_
  simp only[go_sem,Nat.reduceLT,reduceCtorEq,Nat.reduceEqDiff,Nat.reduceBEq,Nat.reduceAdd,Nat.reduceLeDiff,hr,ht,hm,htk]
theorem oc (l:List Val) (hl:l.length≤80000000):qJ I (Sl.numP l) (den K 76 [P0] [rdB l]):=by
 have hr:Tryz.f76.results = #[.tmp 2]:=rfl
 have ht:=gB l 5 (by omega)
 unfold Sl.numP
 cases hk:Sl.tokK 5 l with
 | none =>
  rw[i8 hk] at ht
  have hm:=iZ
  refine ⟨l,?_⟩
  simp only[rdB] at ht ⊢
  refine ae rfl rfl Tryz.func76 rfl Tryz.ntmps76 ⟨by simp,by simp[LK]⟩ ?_
  simp only[go_sem,Nat.reduceLT,reduceCtorEq,Nat.reduceEqDiff,Nat.reduceBEq,hr,ht,hm]
 | some t =>
  obtain ⟨e,c,r,rfl,h1⟩:=jg hk
  rw[e] at ht
  have hx:=fL (.mk 1 t c::r) (by omega)
  have htk:=fV 1 t c r (by rw[List.length_cons] at hl;omega)
  rw[fX] at htk hx
  simp only
  by_cases hs:t.text=[]
  ·rw[if_pos hs]
   have hm:=iq
   have e0:(t.text==[])=true:=by rw[hs];rfl
   show den K 76 [P0] [rdB (.mk 1 t c::r)]=some (.ret (I t.n) [rdB r])
   simp only[rdB] at ht htk hx ⊢
   refine ae rfl rfl Tryz.func76 rfl Tryz.ntmps76 ⟨by simp,by simp[LK]⟩ ?_
   simp only[go_sem,Nat.reduceLT,reduceCtorEq,Nat.reduceEqDiff,Nat.reduceBEq,Nat.reduceAdd,Nat.reduceLeDiff,hr,ht,hm,hx,htk,e0]
  ·rw[if_neg hs]
   have hm:=iZ
   have e0:(t.text==[])=false:=by rw[beq_eq_false_iff_ne];exact hs
   refine ⟨.mk 1 t c::r,?_⟩
   simp only[rdB] at ht htk hx ⊢
   refine ae rfl rfl Tryz.func76 rfl Tryz.ntmps76 ⟨by simp,by simp[LK]⟩ ?_
   simp only[go_sem,Nat.reduceLT,reduceCtorEq,Nat.reduceEqDiff,Nat.reduceBEq,Nat.reduceAdd,Nat.reduceLeDiff,hr,ht,hm,hx,e0]
theorem vA {α:Type} {ops ops':List Oper} {n j i n' j' i':Nat} {a b:α} (h:(reach ops n j i&&reach ops' n' j' i')=true):(if (reach ops n j i&&reach ops' n' j' i')=true then a else b)=a:=if_pos h
def TSh (l:List Val):Prop := ∀ t∈Ne.flat l,t.text.length<1000000000
theorem AR {l m:List Val} (h:TSh l) (hs : ∀ v∈m,v∈l):TSh m:=fun t ht=>by
 obtain ⟨v,hv,ht⟩:=Sl.jM.1 ht
 exact h t (Sl.jM.2 ⟨v,hs v hv,ht⟩)
theorem s6 {l:List Val} (h:TSh l):TSh (Sl.trim l):=AR h fun v hv=>Sl.xp hv
theorem Ae {t:Tok} {c l:List Val} (h:TSh (.mk 1 t c::l)):t.text.length<1000000000:=h t (Sl.jM.2 ⟨.mk 1 t c,by simp,by rw[Ne.fP,if_pos rfl];simp⟩)
theorem nN (a b:List Val):Ne.size (a++b)=Ne.size a+Ne.size b:=by
 induction a with
 | nil=>rw[Ne.size];simp
 | cons v a ih=>rw[List.cons_append,Ne.size,Ne.size,ih];omega
theorem ng (p:Val→Bool) (l:List Val):Ne.size (l.dropWhile p)≤Ne.size l:=by
 have h:l.takeWhile p++l.dropWhile p=l:=List.takeWhile_append_dropWhile
 have:=nN (l.takeWhile p) (l.dropWhile p)
 rw[h] at this
 omega
theorem oO (l:List Val):Ne.size l.reverse=Ne.size l:=by
 induction l with
 | nil=>rfl
 | cons v l ih =>
  rw[List.reverse_cons,nN,ih,Ne.size,Ne.size,Ne.size]
  omega
theorem si (l:List Val):Ne.size (Sl.trim l)≤Ne.size l:=by
 unfold Sl.trim
 rw[oO]
 have h1:=ng Sl.ar (l.dropWhile Sl.ar).reverse
 have h2:=ng Sl.ar l
 rw[oO] at h1
 omega
def nthA (x:Option (Int×Int)):AV:=match x with
 | some x => .tup [.c (.pv (.int .i64 x.1)),.c (.pv (.int .i64 x.2)),.c (.pv (.int .i64 0))]
 | none => .tup [.c (.pv (.int .i64 0)),.c (.pv (.int .i64 0)),.c (.pv (.int .i64 40))]
theorem zx (v:Int):(if (999999999:Int)<v then (999999999:Int) else v)=min v 999999999:=by
 split<;>omega
end Go.Abs
namespace Go.Abs
open Go Go.Proofs
section
variable {P:Program} {t e:TypeId} {n:Nat} {ps:List PV}
theorem tJ {k:IntKind} (h:bm P t=some (.int k)) (hp:TyP P n t ps) : ∃ z,ps=[.int k z]∧(Lit.int k z).wf=true:=by
 cases n with
 | zero=>exact hp.elim
 | succ n=>unfold TyP at hp;rw[kz h] at hp;exact hp
theorem w6 {z:Int} (h:(Lit.int .i64 z).wf=true):I64 z:=by
 simp only[Lit.wf,Bool.and_eq_true,decide_eq_true_eq] at h
 exact h
end
end Go.Abs
namespace Go.Abs
open Go Go.Proofs
set_option maxRecDepth 100000
theorem ur (p:PV):j5 Tryz.prog 3 [p] = .c (.pv p):=by
 unfold j5;rw[Tryz.underlying3]
theorem args2 {t u:TypeId} {pss:List (List PV)} {Q:Prop} (h:All2 (fun t p => ∃ n,TyP Tryz.prog n t p) [t,u] pss) (hq : ∀ n m p q,TyP Tryz.prog n t p→TyP Tryz.prog m u q→pss=[p,q]→Q):Q:=by
 cases h with
 | cons h1 h =>
 cases h with
 | cons h2 h =>
 cases h
 obtain ⟨n,h1⟩:=h1
 obtain ⟨m,h2⟩:=h2
 exact hq n m _ _ h1 h2 rfl
end Go.Abs
namespace Go.Abs
open Go Go.Proofs
set_option maxRecDepth 100000
end Go.Abs
namespace Go.Abs
open Go Go.Proofs
set_option maxRecDepth 100000
def tw:List TypeId:=[4,3,9,91,60,93,23,52,48,50,45,47,31]
theorem xh:l6 Tryz.prog tw=true:=by kernel_rfl
end Go.Abs
