/-
  FACTS ON THE TYPES OF THIS PROGRAM, each by the kernel (printed by a program).
  WHAT THE FUNCTIONS COMPUTE: the smallest; the builder of texts.
  WHAT THE FUNCTIONS COMPUTE: loops; texts of words.
  WHAT THE FUNCTIONS COMPUTE, layer 2: blocks' last tokens; values told flat; depth.
  SMALL FACTS of the texts on selectors.
  WHAT THE FUNCTIONS COMPUTE, layer 2: are values the same?
  WHAT THE FUNCTIONS COMPUTE, layer 3, the document's answer: blanks, signs; values trimmed, cut by a sign.
  WHAT THE FUNCTIONS COMPUTE, layer 3: values trimmed, cut, joined.
  WHAT THE FUNCTIONS COMPUTE: small letters, as the document's answer has them.
  WHAT THE FUNCTIONS COMPUTE, layer 1: classes of bytes, runs, names.
  WHAT THE FUNCTIONS COMPUTE, layer 1: the scanner's small steps: a name, a token that is laid, a comment, a string.
  WHAT THE FUNCTIONS COMPUTE, layer 1: the scanner's comment, string, number.
  Functions as values: what captures nothing, or one variable of whatever cells; texts as the interpreter's data.
  WHAT THE FUNCTIONS COMPUTE, layer 4, the program's reader of selectors: what comes, tokens, signs, blanks, names, numbers.
  SELECTORS, plain: what is left behind a simple selector is shorter.
  Layer 3: bounds on values that are cut, and joined.
  SELECTORS, plain: a compound selector ahead of a complex one, and a combinator between.
  FROM A ROW's READING TO THE INTERPRETER's VALUES: an argument that reads as data is data without memory; a law whose answer the interpreter gives as 'true' meets its row.
  DATA OF A TYPE: what reads as a value of a struct, of a slice; what reads as tokens, and as values.
-/
import Derived.Test.YtlomcifkckgneaaGreatDoorRows
import Derived.ReadAgain
import Derived.ChangeBears
import Derived.RowKit
import Derived.OpenShut
import Derived.SizedLaws
import Derived.Deep.DeepHandedRow
import Derived.Lib.LaidTab
import Derived.Test.YtlomcifkckgneaaGreatDoorRa1
import Derived.Test.YtlomcifkckgneaaGreatDoorRa2
import Derived.Test.YtlomcifkckgneaaGreatDoorRa3
import Derived.Test.YtlomcifkckgneaaGreatDoorRa4
import Derived.Test.YtlomcifkckgneaaGreatDoorRa5
set_option linter.unusedSimpArgs false
set_option linter.unusedVariables false
namespace Go.Abs
open Go Go.Proofs
theorem Ds:K.good 13=true:=by kernel_rfl
theorem nV:K.good 16=true:=by kernel_rfl
theorem DV:K.good 17=true:=by kernel_rfl
theorem ot:K.good 19=true:=by kernel_rfl
theorem xJ:K.good 22=true:=by kernel_rfl
theorem sL:K.good 37=true:=by kernel_rfl
theorem ES:K.good 39=true:=by kernel_rfl
theorem ja:K.good 40=true:=by kernel_rfl
theorem Dq:K.good 41=true:=by kernel_rfl
theorem Ew:K.good 45=true:=by kernel_rfl
theorem EA:K.good 49=true:=by kernel_rfl
theorem EH:K.good 52=true:=by kernel_rfl
theorem DX:K.good 70=true:=by kernel_rfl
theorem nY:K.good 71=true:=by kernel_rfl
theorem EG:K.good 72=true:=by kernel_rfl
theorem nU:K.good 73=true:=by kernel_rfl
theorem sd:K.good 74=true:=by kernel_rfl
theorem ED:K.good 75=true:=by kernel_rfl
theorem Eh:K.good 76=true:=by kernel_rfl
theorem om:K.good 77=true:=by kernel_rfl
theorem oh:K.good 78=true:=by kernel_rfl
theorem Ec:K.good 79=true:=by kernel_rfl
theorem EL:K.good 80=true:=by kernel_rfl
theorem D7:K.good 91=true:=by kernel_rfl
theorem EC:K.good 92=true:=by kernel_rfl
theorem ET:K.good 98=true:=by kernel_rfl
theorem Dr:K.good 99=true:=by kernel_rfl
theorem CR:K.good 103=true:=by kernel_rfl
theorem vV:K.good 106=true:=by kernel_rfl
theorem BJ:K.good 123=true:=by kernel_rfl
theorem A3:K.good 124=true:=by kernel_rfl
theorem CO:K.good 125=true:=by kernel_rfl
theorem B6:K.good 138=true:=by kernel_rfl
theorem Cn:K.good 139=true:=by kernel_rfl
theorem vD:K.good 140=true:=by kernel_rfl
theorem BF:K.good 141=true:=by kernel_rfl
theorem AP:K.good 149=true:=by kernel_rfl
theorem Di:K.good 151=true:=by kernel_rfl
theorem Ck:K.good 160=true:=by kernel_rfl
theorem BN:K.good 170=true:=by kernel_rfl
theorem C7:K.good 171=true:=by kernel_rfl
theorem BD:K.good 172=true:=by kernel_rfl
theorem pH:K.good 175=true:=by kernel_rfl
theorem u6:K.good 176=true:=by kernel_rfl
theorem Ct:K.good 177=true:=by kernel_rfl
theorem B8:K.good 178=true:=by kernel_rfl
theorem tz:K.good 179=true:=by kernel_rfl
theorem AZ:K.good 180=true:=by kernel_rfl
theorem vL:K.good 181=true:=by kernel_rfl
theorem pR:K.good 182=true:=by kernel_rfl
theorem BI:K.good 183=true:=by kernel_rfl
theorem vq:K.good 184=true:=by kernel_rfl
theorem pu:K.good 185=true:=by kernel_rfl
theorem Cv:K.good 186=true:=by kernel_rfl
theorem AW:K.good 191=true:=by kernel_rfl
theorem Dd:K.good 193=true:=by kernel_rfl
theorem Dh:K.good 204=true:=by kernel_rfl
theorem Bk:K.good 205=true:=by kernel_rfl
theorem BE:K.good 206=true:=by kernel_rfl
theorem B9:K.good 209=true:=by kernel_rfl
theorem BU:K.good 210=true:=by kernel_rfl
theorem Cz:K.good 212=true:=by kernel_rfl
theorem AR:K.good 230=true:=by kernel_rfl
theorem yU:gp 22 4=([0,1,5],[]):=by kernel_rfl
theorem zW:gp 22 9=([0,1,5,6],[]):=by kernel_rfl
theorem zC:gp 99 2=([3],[6]):=by kernel_rfl
theorem Aj:gp 52 4=([0,1,5],[]):=by kernel_rfl
theorem wz:gp 182 2=([0,1,2,7],[100000]):=by kernel_rfl
theorem xw:gp 186 6=([0,2,3,4,29],[100000]):=by kernel_rfl
theorem Ab:gp 70 1=([0],[]):=by kernel_rfl
theorem AB:gp 70 3=([0],[]):=by kernel_rfl
theorem m6:gp 8 11=([1,5,7,8,9,10],[9]):=by kernel_rfl
theorem yO:gp 17 3=([4,9,10,11],[4]):=by kernel_rfl
theorem yI:gp 47 3=([0,2,3,4],[2,3,100000]):=by kernel_rfl
theorem yW:gp 91 2=([0,4],[100000]):=by kernel_rfl
theorem wb:gp 141 2=([0,3],[100000]):=by kernel_rfl
theorem wq:gp 151 2=([0,1,7,8],[]):=by kernel_rfl
end Go.Abs
namespace Go.Abs
open Go Go.Proofs
abbrev I (n:Int):AV := .c (.pv (.int .i64 n))
abbrev T (l:List UInt8):AV := .c (.pv (.str l))
abbrev B (b:Bool):AV := .c (.pv (.bool b))
abbrev L (l:List (List PV)):AV := .c (.pv (.sl l))
abbrev P0:AV := .c (.loc 100000 0)
theorem ab {f:FuncId} {fn:Func} {x:Code} {nt:Nat} {args:List AV} {bxs:List (List CV)} {r:Res} (hp:prF f=none) (hh:hpF f=none) (hf:Tryz.prog.funcs[f]? = some fn) (hx:fn.body=some x) (hn:fn.ntmps=nt)
  (hl:args.length≤nt∧nt<LK) (h:(exL K f x (bu nt args bxs)).bind (fun r=>leave K f fn bxs.length (some r))=some r):den K f args bxs=some r:=by
 rw[sr (K:=K) hp hh hf hx,hn,if_pos hl]
 exact h
theorem eF (f:FuncId) (h:(
 f==227 ||
 f==1000000)=false):K.ownRet f=false:=h
theorem du (f i:Nat):K.hook f i=d5 f i:=rfl
theorem K_P:K.P=Tryz.prog:=rfl
theorem dh (f r:Nat):K.keep f r=gp f r:=rfl
theorem ey {f:FuncId} {F:Prim} {args:List AV} {bxs cs:List (List CV)} {v:AV} (h:prF f=some F) (hF:F args bxs=some (v,cs)):den K f args bxs=some (.ret v cs):=by
 rw[oM (K:=K) h,hF];rfl
set_option maxRecDepth 10000
theorem CS (n:Nat):lens n []=true:=rfl
end Go.Abs
namespace Go.Abs
open Go Go.Proofs
theorem aY (f:FuncId) (a:Code) (S:St):exL K f (.loop a) S=exL K f (.loop a) (head (gp f ((aI a).getD 0)) S):=by
 rw[aD,aD (S:=head _ S),dh,mS]
set_option maxRecDepth 10000
attribute [local go_sem] cA bm bU bD bB cz bQ bS aG bv bq bL cg br opd avOf cvOf St.degAt St.put okPV db okAV cN cM cO cd aq if_true Bool.false_eq_true if_false Option.map_some Option.map_none Option.bind_some Option.bind_none c9 c5 upd List.toList_toArray bO steal aZ mvB cR cf b7 AV.deg CV.deg AV.gv AV.isIter b9 bT bC List.length_nil List.length_cons List.filterMap_cons List.filterMap_nil beq_iff_eq List.getElem?_cons_zero List.getElem?_cons_succ Option.getD_some du d5 Bool.false_and Bool.and_false Bool.and_self K_P eF bF bV aW lend back idx dedup AV.ren CV.ren TV.ren AV.ptrs CV.ptrs ce AV.flat CV.flat bM bz aJ cj cx dp bE aE bK a7 bh bA a8 dP CV.pv? content bf ownT aL reps pvs chunks bu leave dL bW cJ bt aX TV.deg TV.av LK CV.plain CV.noBld cm dF bound List.map_cons List.map_nil List.all_cons List.all_nil List.any_cons List.any_nil List.contains_cons List.contains_nil List.elem_cons List.elem_nil List.cons_append List.nil_append List.append_nil List.flatMap_cons List.flatMap_nil List.zip_cons_cons List.zip_nil_left List.zip_nil_right List.take_succ_cons List.take_zero List.take_nil List.drop_succ_cons List.drop_zero List.drop_nil List.isEmpty_nil List.isEmpty_cons Bool.and_true Bool.true_and Bool.or_true Bool.true_or Bool.or_false Bool.false_or Bool.not_true Bool.not_false Nat.add_zero Nat.zero_add Option.isNone_none Option.isNone_some Option.getD_none true_and and_true not_true_eq_false not_false_eq_true decide_true decide_false Nat.le_refl and_self Bool.not_eq_true Nat.sub_self or_true true_or Option.some.injEq List.length_map List.nil_eq and_false false_and AV.live CV.live CV.liveIn dh aI Option.orElse_some Option.orElse_none head aO aN Int.lt_irrefl List.length_append ite_self dc bI ck bg Key.clash Key.sees Key.writes Nat.lt_irrefl gt_iff_lt bR cW false_or or_false beq_self_eq_true Bool.true_beq Bool.false_beq
theorem d8 (n:Nat) (h:n<9223372036854775807):IntKind.i64.wrap ((n:Int)+1)=((n+1:Nat):Int):=by
 rw[IntWalk.i64_in _ (by omega)];rfl
theorem eC {α:Type} {l rest:List α} {x:α} {i:Nat} (h:l.drop i=x::rest):l[i]? = some x∧l.drop (i+1)=rest∧i<l.length:=by
 have h1:l[i]? = some x:=by
  have:(l.drop i)[0]? = some x:=by rw[h];rfl
  simpa using this
 refine ⟨h1,?_,(List.getElem?_eq_some_iff.1 h1).1⟩
 have:(l.drop i).tail=rest:=by rw[h];rfl
 rw[←this,List.tail_drop]
end Go.Abs
namespace Go.Abs
open Go Go.Proofs
set_option maxRecDepth 10000
attribute [local go_sem] cA bm bU bD bB cz bQ bS aG bv bq bL cg br opd avOf cvOf St.degAt St.put okPV db okAV cN cM cO cd aq if_true Bool.false_eq_true if_false Option.map_some Option.map_none Option.bind_some Option.bind_none c9 c5 upd List.toList_toArray bO steal aZ mvB cR cf b7 AV.deg CV.deg AV.gv AV.isIter b9 bT bC List.length_nil List.length_cons List.filterMap_cons List.filterMap_nil beq_iff_eq List.getElem?_cons_zero List.getElem?_cons_succ Option.getD_some du d5 Bool.false_and Bool.and_false Bool.and_self K_P eF bF bV aW lend back idx dedup AV.ren CV.ren TV.ren AV.ptrs CV.ptrs ce AV.flat CV.flat bM bz aJ cj cx dp bE aE bK a7 bh bA a8 dP CV.pv? content bf ownT aL reps pvs chunks bu leave dL bW cJ bt aX TV.deg TV.av LK CV.plain CV.noBld cm dF bound List.map_cons List.map_nil List.all_cons List.all_nil List.any_cons List.any_nil List.contains_cons List.contains_nil List.elem_cons List.elem_nil List.cons_append List.nil_append List.append_nil List.flatMap_cons List.flatMap_nil List.zip_cons_cons List.zip_nil_left List.zip_nil_right List.take_succ_cons List.take_zero List.take_nil List.drop_succ_cons List.drop_zero List.drop_nil List.isEmpty_nil List.isEmpty_cons Bool.and_true Bool.true_and Bool.or_true Bool.true_or Bool.or_false Bool.false_or Bool.not_true Bool.not_false Nat.add_zero Nat.zero_add Option.isNone_none Option.isNone_some Option.getD_none true_and and_true not_true_eq_false not_false_eq_true decide_true decide_false Nat.le_refl and_self Bool.not_eq_true Nat.sub_self or_true true_or Option.some.injEq List.length_map List.nil_eq and_false false_and AV.live CV.live CV.liveIn dh aI Option.orElse_some Option.orElse_none head aO aN Int.lt_irrefl List.length_append ite_self dc bI ck bg Key.clash Key.sees Key.writes Nat.lt_irrefl gt_iff_lt bR cW false_or or_false beq_self_eq_true Bool.true_beq Bool.false_beq
theorem gO (l:List Val):lens 5 (encL l)=true:=by
 rw[encL_map]
 simp only[lens,List.all_map,List.all_eq_true,Function.comp_apply,beq_iff_eq]
 intro v _
 exact sk v
end Go.Abs
set_option linter.unusedSimpArgs true
namespace Go.Abs
open Go Go.Proofs
theorem ny (acc:List Sim):((acc.length:Int)==0)=acc.isEmpty:=by
 cases acc with
 | nil=>rfl
 | cons x l=>rw[List.length_cons,List.isEmpty_cons,beq_eq_false_iff_ne];omega
end Go.Abs
set_option linter.unusedSimpArgs true
namespace Go.Abs
open Go Go.Proofs
set_option maxRecDepth 10000
attribute [local go_sem] cA bm bU bD bB cz bQ bS aG bv bq bL cg br opd avOf cvOf St.degAt St.put okPV db okAV cN cM cO cd aq if_true Bool.false_eq_true if_false Option.map_some Option.map_none Option.bind_some Option.bind_none c9 c5 upd List.toList_toArray bO steal aZ mvB cR cf b7 AV.deg CV.deg AV.gv AV.isIter b9 bT bC List.length_nil List.length_cons List.filterMap_cons List.filterMap_nil beq_iff_eq List.getElem?_cons_zero List.getElem?_cons_succ Option.getD_some du d5 Bool.false_and Bool.and_false Bool.and_self K_P eF bF bV aW lend back idx dedup AV.ren CV.ren TV.ren AV.ptrs CV.ptrs ce AV.flat CV.flat bM bz aJ cj cx dp bE aE bK a7 bh bA a8 dP CV.pv? content bf ownT aL reps pvs chunks bu leave dL bW cJ bt aX TV.deg TV.av LK CV.plain CV.noBld cm dF bound List.map_cons List.map_nil List.all_cons List.all_nil List.any_cons List.any_nil List.contains_cons List.contains_nil List.elem_cons List.elem_nil List.cons_append List.nil_append List.append_nil List.flatMap_cons List.flatMap_nil List.zip_cons_cons List.zip_nil_left List.zip_nil_right List.take_succ_cons List.take_zero List.take_nil List.drop_succ_cons List.drop_zero List.drop_nil List.isEmpty_nil List.isEmpty_cons Bool.and_true Bool.true_and Bool.or_true Bool.true_or Bool.or_false Bool.false_or Bool.not_true Bool.not_false Nat.add_zero Nat.zero_add Option.isNone_none Option.isNone_some Option.getD_none true_and and_true not_true_eq_false not_false_eq_true decide_true decide_false Nat.le_refl and_self Bool.not_eq_true Nat.sub_self or_true true_or Option.some.injEq List.length_map List.nil_eq and_false false_and AV.live CV.live CV.liveIn dh aI Option.orElse_some Option.orElse_none head aO aN Int.lt_irrefl List.length_append ite_self dc bI ck bg Key.clash Key.sees Key.writes Nat.lt_irrefl gt_iff_lt bR cW false_or or_false beq_self_eq_true Bool.true_beq Bool.false_beq
abbrev il (k:Int) (t:Tok) (l:List Val):List CV:=[.pv (.int .i64 k),.pv (.int .i64 t.kind),.pv (.str t.text),.pv (.int .i64 t.n),.pv (.sl (encL l))]
end Go.Abs
namespace Go.Abs
open Go Go.Proofs
set_option maxRecDepth 10000
attribute [local go_sem] cA bm bU bD bB cz bQ bS aG bv bq bL cg br opd avOf cvOf St.degAt St.put okPV db okAV cN cM cO cd aq if_true Bool.false_eq_true if_false Option.map_some Option.map_none Option.bind_some Option.bind_none c9 c5 upd List.toList_toArray bO steal aZ mvB cR cf b7 AV.deg CV.deg AV.gv AV.isIter b9 bT bC List.length_nil List.length_cons List.filterMap_cons List.filterMap_nil beq_iff_eq List.getElem?_cons_zero List.getElem?_cons_succ Option.getD_some du d5 Bool.false_and Bool.and_false Bool.and_self K_P eF bF bV aW lend back idx dedup AV.ren CV.ren TV.ren AV.ptrs CV.ptrs ce AV.flat CV.flat bM bz aJ cj cx dp bE aE bK a7 bh bA a8 dP CV.pv? content bf ownT aL reps pvs chunks bu leave dL bW cJ bt aX TV.deg TV.av LK CV.plain CV.noBld cm dF bound List.map_cons List.map_nil List.all_cons List.all_nil List.any_cons List.any_nil List.contains_cons List.contains_nil List.elem_cons List.elem_nil List.cons_append List.nil_append List.append_nil List.flatMap_cons List.flatMap_nil List.zip_cons_cons List.zip_nil_left List.zip_nil_right List.take_succ_cons List.take_zero List.take_nil List.drop_succ_cons List.drop_zero List.drop_nil List.isEmpty_nil List.isEmpty_cons Bool.and_true Bool.true_and Bool.or_true Bool.true_or Bool.or_false Bool.false_or Bool.not_true Bool.not_false Nat.add_zero Nat.zero_add Option.isNone_none Option.isNone_some Option.getD_none true_and and_true not_true_eq_false not_false_eq_true decide_true decide_false Nat.le_refl and_self Bool.not_eq_true Nat.sub_self or_true true_or Option.some.injEq List.length_map List.nil_eq and_false false_and AV.live CV.live CV.liveIn dh aI Option.orElse_some Option.orElse_none head aO aN Int.lt_irrefl List.length_append ite_self dc bI ck bg Key.clash Key.sees Key.writes Nat.lt_irrefl gt_iff_lt bR cW false_or or_false beq_self_eq_true Bool.true_beq Bool.false_beq
theorem Sl.trim_len (l:List Val):(Sl.trim l).length≤l.length:=by
 unfold Sl.trim
 rw[List.length_reverse]
 have h1:=(List.dropWhile_sublist Sl.aa (l:=(l.dropWhile Sl.aa).reverse)).length_le
 have h2:=(List.dropWhile_sublist Sl.aa (l:=l)).length_le
 rw[List.length_reverse] at h1
 omega
abbrev encP (l:List (List Val)):List (List PV):=l.map fun p=>[.sl (encL p)]
attribute [local go_sem] co cy bN bw aK ef bH cT BJ Ab AB A3
theorem jH (k:Int) (t:Tok) (l:List Val):den K 123 [.agg (il k t l)] []=some (.ret (B (Sl.aa (.mk k t l))) []):=by
 refine ab rfl rfl Tryz.func123 rfl Tryz.ntmps123 ⟨by simp,by simp[LK]⟩ ?_
 have hr:Tryz.f123.results = #[.tmp 2]:=rfl
 have hs:Sl.aa (.mk k t l)=((k==1)&&(t.kind==8)):=rfl
 rw[hs]
 cases e1:(k==1)
 ·simp only[go_sem,Nat.reduceLT,Nat.reduceEqDiff,Nat.reduceBEq,Nat.reduceAdd,Nat.reduceSub,Nat.reduceLeDiff,hr,e1]
 ·simp only[go_sem,Nat.reduceLT,Nat.reduceEqDiff,Nat.reduceBEq,Nat.reduceAdd,Nat.reduceSub,Nat.reduceLeDiff,hr,e1]
abbrev trH (l:List Val):St := { sl:=upd bot 0 (L (encL l)),bx:=nobox,nt:=33 }
noncomputable def trlp1:Code := .loop (au Tryz.f70 1)
noncomputable def trlp3:Code := .loop (au Tryz.f70 3)
theorem pD (k:Int) (t:Tok) (c r:List Val):(encL (.mk k t c::r))[(0:Int).toNat]? = some [.int .i64 k,.int .i64 t.kind,.str t.text,.int .i64 t.n,.sl (encL c)]:=rfl
theorem u1 (v:Val) (r:List Val) (n:Nat) (h:n=r.length+1):((encL (v::r)).take n).drop (1:Int).toNat=encL r:=by
 subst h
 rw[encL,List.take_of_length_le (by rw[List.length_cons,bc];omega)];rfl
theorem le00:((0:Int)≤0)=True:=by simp
theorem En (v:Val) (r:List Val) (hl:r.length≤100000000) (hb:Sl.aa v=true) :
  exL K 70 trlp1 (trH (v::r))=exL K 70 trlp1 (trH r):=by
 obtain ⟨k,t,c⟩:=v
 have hlt:decide ((0:Int)<(((r.length+1:Nat)):Int))=true:=decide_eq_true (by omega)
 have hget:=pD k t c r
 have hcut:=u1 (.mk k t c) r (r.length+1) rfl
 have hb1:((0:Int)≤1∧(1:Int)≤((r.length+1:Nat):Int))=True:=by rw[eq_iff_iff];simp;omega
 have hlv:=gO (.mk k t c::r)
 have hd:=jH k t c
 rw[hb] at hd
 unfold trlp1
 conv in au _ _=>whnf
 conv in au _ _=>whnf
 conv in exL _ _ _ (trH (.mk k t c::r))=>rw[aD]
 simp only[go_sem,Nat.reduceLT,reduceCtorEq,Nat.reduceEqDiff,Nat.reduceBEq,Nat.reduceAdd,ai ap,aw ap,dx ap bH,bc,List.length_cons,hlt,hget,hd,hb1,hlv,hcut,le00]
 rw[aY]
 simp only[go_sem,reduceCtorEq]
theorem Fd (v:Val) (r:List Val) (hl:r.length≤100000000) (hb:Sl.aa v=false) :
  Ends (exL K 70 trlp1 (trH (v::r))) fun o S=>o = .exit 0∧S.nt=33∧S.sl 0=L (encL (v::r)):=by
 obtain ⟨k,t,c⟩:=v
 have hlt:decide ((0:Int)<(((r.length+1:Nat)):Int))=true:=decide_eq_true (by omega)
 have hget:=pD k t c r
 have hd:=jH k t c
 rw[hb] at hd
 unfold trlp1
 conv in au _ _=>whnf
 rw[aD]
 simp only[go_sem,Nat.reduceLT,reduceCtorEq,Nat.reduceEqDiff,Nat.reduceBEq,Nat.reduceAdd,ai ap,aw ap,bc,List.length_cons,hlt,hget,hd,le00,aV]
theorem Du:Ends (exL K 70 trlp1 (trH [])) fun o S=>o = .exit 0∧S.nt=33∧S.sl 0=L (encL []):=by
 have hlt:decide ((0:Int)<((0:Nat):Int))=false:=rfl
 unfold trlp1
 conv in au _ _=>whnf
 rw[aD]
 simp only[go_sem,Nat.reduceLT,reduceCtorEq,Nat.reduceEqDiff,Nat.reduceBEq,Nat.reduceAdd,ai ap,bc,List.length_nil,hlt,aV]
theorem tP : ∀ (l:List Val),l.length≤100000000→Ends (exL K 70 trlp1 (trH l)) fun o S=>o = .exit 0∧S.nt=33∧S.sl 0=L (encL (l.dropWhile Sl.aa))
 | [],_=>Du
 | v::r,hl=>by
  rw[List.length_cons] at hl
  cases hb:Sl.aa v with
  | true =>
   rw[En v r (by omega) hb,List.dropWhile_cons,if_pos hb]
   exact tP r (by omega)
  | false =>
   rw[List.dropWhile_cons,if_neg (by rw[hb];simp)]
   exact Fd v r (by omega) hb
theorem ux (m:List Val) (k:Int) (t:Tok) (c:List Val):(encL (m++[.mk k t c]))[((m.length:Nat):Int).toNat]? = some [.int .i64 k,.int .i64 t.kind,.str t.text,.int .i64 t.n,.sl (encL c)]:=by
 exact vO (m++[.mk k t c]) m.length (.mk k t c) (by simp)
theorem Cu (m:List Val) (v:Val):(encL (m++[v])).take m.length=encL m:=by
 rw[oE,List.take_append_of_le_length (by rw[bc];exact Nat.le_refl _),List.take_of_length_le (by rw[bc];exact Nat.le_refl _)]
theorem Eg (m:List Val) (v:Val) (hl:m.length≤100000000) (hb:Sl.aa v=true) :
  exL K 70 trlp3 (trH (m++[v]))=exL K 70 trlp3 (trH m):=by
 obtain ⟨k,t,c⟩:=v
 have hn:(encL (m++[.mk k t c])).length=m.length+1:=by rw[bc];simp
 have hlt:decide ((0:Int)<(((m.length+1:Nat)):Int))=true:=decide_eq_true (by omega)
 have hw:IntKind.i64.wrap (((m.length+1:Nat):Int) - 1)=(m.length:Int):=by rw[IntWalk.i64_in _ (by omega)];omega
 have hget:=ux m k t c
 have hcut:=Cu m (.mk k t c)
 have hb1:((m.length:Int)≤((m.length+1:Nat):Int))=True:=by rw[eq_iff_iff];simp;omega
 have hlv:=gO (m++[.mk k t c])
 have hd:=jH k t c
 rw[hb] at hd
 rw[Int.toNat_natCast] at hget
 unfold trlp3
 conv in au _ _=>whnf
 conv in au _ _=>whnf
 conv in exL _ _ _ (trH (m++[.mk k t c]))=>rw[aD]
 simp only[go_sem,Nat.reduceLT,reduceCtorEq,Nat.reduceEqDiff,Nat.reduceBEq,Nat.reduceAdd,ai ap,aw ap,dx ap bH,hn,hlt,hw,Int.natCast_nonneg,Int.toNat_natCast,hget,hd,hb1,hlv,hcut]
 rw[aY]
 simp only[go_sem,reduceCtorEq]
theorem FL (m:List Val) (v:Val) (hl:m.length≤100000000) (hb:Sl.aa v=false) :
  Ends (exL K 70 trlp3 (trH (m++[v]))) fun o S=>o = .exit 2∧S.nt=33∧S.sl 0=L (encL (m++[v])):=by
 obtain ⟨k,t,c⟩:=v
 have hn:(encL (m++[.mk k t c])).length=m.length+1:=by rw[bc];simp
 have hlt:decide ((0:Int)<(((m.length+1:Nat)):Int))=true:=decide_eq_true (by omega)
 have hw:IntKind.i64.wrap (((m.length+1:Nat):Int) - 1)=(m.length:Int):=by rw[IntWalk.i64_in _ (by omega)];omega
 have hget:=ux m k t c
 have hd:=jH k t c
 rw[hb] at hd
 rw[Int.toNat_natCast] at hget
 unfold trlp3
 conv in au _ _=>whnf
 rw[aD]
 simp only[go_sem,Nat.reduceLT,reduceCtorEq,Nat.reduceEqDiff,Nat.reduceBEq,Nat.reduceAdd,ai ap,aw ap,hn,hlt,hw,Int.natCast_nonneg,Int.toNat_natCast,hget,hd,aV]
theorem Dv:Ends (exL K 70 trlp3 (trH [])) fun o S=>o = .exit 2∧S.nt=33∧S.sl 0=L (encL []):=by
 have hlt:decide ((0:Int)<((0:Nat):Int))=false:=rfl
 unfold trlp3
 conv in au _ _=>whnf
 rw[aD]
 simp only[go_sem,Nat.reduceLT,reduceCtorEq,Nat.reduceEqDiff,Nat.reduceBEq,Nat.reduceAdd,ai ap,bc,List.length_nil,hlt,aV]
theorem uN : ∀ (n:Nat) (l:List Val),l.length=n→l.length≤100000000→Ends (exL K 70 trlp3 (trH l)) fun o S=>o = .exit 2∧S.nt=33∧S.sl 0=L (encL (l.reverse.dropWhile Sl.aa).reverse)
 | 0,l,h,_=>by
  obtain rfl:l=[]:=List.eq_nil_of_length_eq_zero h
  exact Dv
 | n+1,l,h,hl=>by
  obtain ⟨m,v,rfl⟩ : ∃ m v,l=m++[v]:=⟨l.dropLast,l.getLast (fun e=>by rw[e] at h;simp at h),(List.dropLast_concat_getLast _).symm⟩
  rw[List.length_append,List.length_singleton] at h hl
  rw[List.reverse_append,List.reverse_singleton,List.singleton_append]
  cases hb:Sl.aa v with
  | true =>
   rw[Eg m v (by omega) hb,List.dropWhile_cons,if_pos hb]
   exact uN n m (by omega) (by omega)
  | false =>
   rw[List.dropWhile_cons,if_neg (by rw[hb];simp),List.reverse_cons,List.reverse_reverse]
   exact FL m v (by omega) hb
theorem zx (l:List Val) (hl:l.length≤1000000000):den K 124 [L (encL l)] []=some (.ret (L (encL l)) []):=by
 refine ey (F:=sR) rfl ?_
 show (if (encL l).length≤1000000000∧(encL l).all (fun el=>el.length==5) then _ else none)=_
 have h2:(encL l).all (fun el=>el.length==5)=true:=gO l
 rw[if_pos ⟨by rw[bc];exact hl,h2⟩]
theorem gJ (l:List Val) (hl:l.length≤100000000):den K 70 [L (encL l)] []=some (.ret (L (encL (Sl.trim l))) []):=by
 have h1:=tP l hl
 have hlen:=(List.dropWhile_sublist Sl.aa (l:=l)).length_le
 have h3:=uN _ (l.dropWhile Sl.aa) rfl (by omega)
 unfold trlp1 at h1
 conv at h1 in au _ _=>whnf
 obtain ⟨o,S,w,rfl,hn,s0⟩:=h1
 unfold trlp3 at h3
 conv at h3 in au _ _=>whnf
 obtain ⟨o',S',w',rfl,hn',s0'⟩:=h3
 have hc:=zx (Sl.trim l) (by have:=Sl.trim_len l;omega)
 have e:(((l.dropWhile Sl.aa).reverse).dropWhile Sl.aa).reverse=Sl.trim l:=rfl
 rw[e] at s0'
 refine ab rfl rfl Tryz.func70 rfl Tryz.ntmps70 ⟨by simp,by simp[LK]⟩ ?_
 have hr:Tryz.f70.results = #[.tmp 2]:=rfl
 simp only[go_sem,Nat.reduceLT,Nat.reduceBEq]
 rw[aY]
 simp only[go_sem,reduceCtorEq]
 erw [w]
 simp only[go_sem]
 rw[aY]
 simp only[go_sem,hn,s0]
 erw [w']
 simp only[go_sem,Nat.reduceLT,Nat.reduceEqDiff,Nat.reduceBEq,Nat.reduceAdd,hr,hn',s0',hc]
theorem zG (s:List UInt8):SR.am s=Sl.am s:=by funext v;cases v;rfl
theorem wo:SR.aa=Sl.aa:=by funext v;cases v;rfl
theorem oL (p:Val→Bool) : ∀ l:List Val,cutL p l=Sl.cut p l
 | []=>rfl
 | v::l=>by
  rw[cutL,Sl.cut,oL p l]
  all_goals (cases Sl.cut p l<;>rfl)
theorem sq (s:List UInt8) : ∀ l:List Val,Sl.cut (Sl.am s) l=Sl.at_ s l
 | []=>rfl
 | v::l=>by
  rw[Sl.cut,Sl.at_,sq s l]
  all_goals (cases Sl.at_ s l<;>rfl)
theorem D2 (l:List Val) (s:List UInt8) (hl:Ne.size l≤100000000):den K 45 [L (encL l),T s] []=some (.ret (L (encP (Sl.at_ s l))) []):=by
 refine ey (F:=pAt) rfl ?_
 have hlen:=Ne.cB l
 show (match lU (encL l) with|some vs=>if vs.length≤100000000 then some ((.c (.pv (.sl (qW (cutL (SR.am s) vs)))):AV),([]:List (List CV))) else none|none=>none)=_
 rw[vH l (by omega)]
 simp only
 rw[if_pos (by omega),zG,oL,sq]
theorem wF (l:List Val) (hl:Ne.size l≤100000000):den K 206 [L (encL l)] []=some (.ret (L (encP (Sl.words l))) []):=by
 refine ey (F:=sG) rfl ?_
 have hlen:=Ne.cB l
 show (match lU (encL l) with|some vs=>if vs.length≤100000000 then some ((.c (.pv (.sl (qW (full (cutL SR.aa vs))))):AV),([]:List (List CV))) else none|none=>none)=_
 rw[vH l (by omega)]
 simp only
 rw[if_pos (by omega),wo,oL];rfl
end Go.Abs
set_option linter.unusedSimpArgs true
namespace Go.Abs
open Go Go.Proofs
theorem C3 (c:UInt8):lowB c=Sl.low1 c:=by
 have e1:(65:UInt8)≤c↔65≤c.toNat:=UInt8.le_iff_toNat_le
 have e2:c≤(90:UInt8)↔c.toNat≤90:=UInt8.le_iff_toNat_le
 unfold lowB Sl.low1
 by_cases h:65≤c.toNat∧c.toNat≤90
 ·rw[if_pos h,if_pos ⟨e1.2 h.1,e2.2 h.2⟩]
 ·rw[if_neg h,if_neg (fun k=>h ⟨e1.1 k.1,e2.1 k.2⟩)]
end Go.Abs
namespace Go.Abs
open Go Go.Proofs
set_option maxRecDepth 10000
attribute [local go_sem] cA bm bU bD bB cz bQ bS aG bv bq bL cg br opd avOf cvOf St.degAt St.put okPV db okAV cN cM cO cd aq if_true Bool.false_eq_true if_false Option.map_some Option.map_none Option.bind_some Option.bind_none c9 c5 upd List.toList_toArray bO steal aZ mvB cR cf b7 AV.deg CV.deg AV.gv AV.isIter b9 bT bC List.length_nil List.length_cons List.filterMap_cons List.filterMap_nil beq_iff_eq List.getElem?_cons_zero List.getElem?_cons_succ Option.getD_some du d5 Bool.false_and Bool.and_false Bool.and_self K_P eF bF bV aW lend back idx dedup AV.ren CV.ren TV.ren AV.ptrs CV.ptrs ce AV.flat CV.flat bM bz aJ cj cx dp bE aE bK a7 bh bA a8 dP CV.pv? content bf ownT aL reps pvs chunks bu leave dL bW cJ bt aX TV.deg TV.av LK CV.plain CV.noBld cm dF bound List.map_cons List.map_nil List.all_cons List.all_nil List.any_cons List.any_nil List.contains_cons List.contains_nil List.elem_cons List.elem_nil List.cons_append List.nil_append List.append_nil List.flatMap_cons List.flatMap_nil List.zip_cons_cons List.zip_nil_left List.zip_nil_right List.take_succ_cons List.take_zero List.take_nil List.drop_succ_cons List.drop_zero List.drop_nil List.isEmpty_nil List.isEmpty_cons Bool.and_true Bool.true_and Bool.or_true Bool.true_or Bool.or_false Bool.false_or Bool.not_true Bool.not_false Nat.add_zero Nat.zero_add Option.isNone_none Option.isNone_some Option.getD_none true_and and_true not_true_eq_false not_false_eq_true decide_true decide_false Nat.le_refl and_self Bool.not_eq_true Nat.sub_self or_true true_or Option.some.injEq List.length_map List.nil_eq and_false false_and AV.live CV.live CV.liveIn dh aI Option.orElse_some Option.orElse_none head aO aN Int.lt_irrefl List.length_append ite_self dc bI ck bg Key.clash Key.sees Key.writes Nat.lt_irrefl gt_iff_lt bR cW false_or or_false beq_self_eq_true Bool.true_beq Bool.false_beq B9 pu wz
abbrev U (c:UInt8):AV := .c (.pv (.int .u8 c.toNat))
theorem Cs (c:UInt8):Tk.digit c=(decide ((48:Int)≤(c.toNat:Int))&&decide ((c.toNat:Int)≤57)):=by
 unfold Tk.digit;rw[←Bool.decide_and];exact decide_eq_decide.2 (by omega)
theorem yX (c:UInt8):Tk.begins c=((decide ((97:Int)≤(c.toNat:Int))&&decide ((c.toNat:Int)≤122))||(decide ((65:Int)≤(c.toNat:Int))&&decide ((c.toNat:Int)≤90))||((c.toNat:Int)==95)||decide ((128:Int)≤(c.toNat:Int))):=by
 have e:((c.toNat:Int)==95)=decide ((c.toNat:Int)=95):=by
  by_cases h:(c.toNat:Int)=95<;>simp[h]
 rw[e]
 unfold Tk.begins
 rw[←Bool.decide_and,←Bool.decide_and,←Bool.decide_or,←Bool.decide_or,←Bool.decide_or]
 exact decide_eq_decide.2 (by omega)
theorem jo (c d:UInt8):((c.toNat:Int)==(d.toNat:Int))=(c==d):=by
 by_cases e:c=d
 ·subst e;simp
 ·have:c.toNat≠d.toNat:=fun h2=>e (UInt8.toNat_inj.1 h2)
  rw[beq_eq_false_iff_ne.2 e,beq_eq_false_iff_ne.2 (by omega)]
theorem kK (c:UInt8):den K 185 [U c] []=some (.ret (B (Tk.digit c)) []):=by
 refine ab rfl rfl Tryz.func185 rfl Tryz.ntmps185 ⟨by simp,by simp[LK]⟩ ?_
 have hr:Tryz.f185.results = #[.tmp 2]:=rfl
 rw[Cs]
 cases b1:decide ((48:Int)≤(c.toNat:Int))<;>cases b2:decide ((c.toNat:Int)≤57)<;>simp only[go_sem,Nat.reduceLT,reduceCtorEq,Nat.reduceEqDiff,Nat.reduceBEq,Nat.reduceAdd,hr,b1,b2]
set_option maxHeartbeats 8000000 in
theorem lq (c:UInt8):den K 209 [U c] []=some (.ret (B (Tk.begins c)) []):=by
 refine ab rfl rfl Tryz.func209 rfl Tryz.ntmps209 ⟨by simp,by simp[LK]⟩ ?_
 have hr:Tryz.f209.results = #[.tmp 2]:=rfl
 rw[yX]
 cases b1:decide ((97:Int)≤(c.toNat:Int))<;>cases b2:decide ((c.toNat:Int)≤122)<;>cases b3:decide ((65:Int)≤(c.toNat:Int))<;>cases b4:decide ((c.toNat:Int)≤90)<;>cases b5:((c.toNat:Int)==95)<;>cases b6:decide ((128:Int)≤(c.toNat:Int))<;>simp only[go_sem,Nat.reduceLT,reduceCtorEq,Nat.reduceEqDiff,Nat.reduceBEq,Nat.reduceAdd,hr,b1,b2,b3,b4,b5,b6]
theorem pk (c:UInt8):den K 184 [U c] []=some (.ret (B (Tk.within c)) []):=by
 have d1:=lq c
 have d2:=kK c
 have e45:((c.toNat:Int)==45)=(c==45):=jo c 45
 refine ab rfl rfl Tryz.func184 rfl Tryz.ntmps184 ⟨by simp,by simp[LK]⟩ ?_
 have hr:Tryz.f184.results = #[.tmp 2]:=rfl
 unfold Tk.within
 cases b1:Tk.begins c<;>cases b2:Tk.digit c<;>cases b3:(c==45)<;>rw[b1] at d1<;>rw[b2] at d2<;>rw[b3] at e45<;>simp only[go_sem,Nat.reduceLT,reduceCtorEq,Nat.reduceEqDiff,Nat.reduceBEq,Nat.reduceAdd,hr,d1,d2,e45]
theorem CZ (s:List UInt8) (i:Nat):(s[i]? = none∧Tk.at0 (s.drop i)=0∧s.length≤i)∨(i<s.length∧s[i]? = some (Tk.at0 (s.drop i))):=by
 by_cases h:i<s.length
 ·right
  refine ⟨h,?_⟩
  rw[List.drop_eq_getElem_cons h,Tk.gP,List.getElem?_eq_getElem h]
 ·left
  refine ⟨List.getElem?_eq_none (by omega),?_,by omega⟩
  rw[List.drop_eq_nil_of_le (by omega)];rfl
theorem ll (s:List UInt8) (i:Nat) (hs:s.length<1000000000000):den K 175 [T s,I i] []=some (.ret (U (Tk.at0 (s.drop i))) []):=by
 refine ab rfl rfl Tryz.func175 rfl Tryz.ntmps175 ⟨by simp,by simp[LK]⟩ ?_
 have hr:Tryz.f175.results = #[.tmp 4]:=rfl
 rcases CZ s i with ⟨h1,h2,h3⟩|⟨h1,h2⟩
 ·have hlt:decide ((i:Int)<(s.length:Int))=false:=decide_eq_false (by omega)
  rw[h2]
  simp only[go_sem,Nat.reduceLT,reduceCtorEq,Nat.reduceEqDiff,Nat.reduceBEq,Nat.reduceAdd,aF af,fI af,hr,hlt]
  rfl
 ·have hlt:decide ((i:Int)<(s.length:Int))=true:=decide_eq_true (by omega)
  simp only[go_sem,Nat.reduceLT,reduceCtorEq,Nat.reduceEqDiff,Nat.reduceBEq,Nat.reduceAdd,aF af,fI af,hr,hlt,Int.natCast_nonneg,Int.toNat_natCast,h2]
abbrev FN (f:Nat):AV := .c (.fn f [])
abbrev runH (s:List UInt8) (from_:Nat) (f n:Nat):St := { sl:=upd (upd (upd (upd bot 7 (I n)) 2 (FN f)) 1 (I from_)) 0 (T s),bx:=upd nobox 100000 none,nt:=26 }
theorem A6 (s:List UInt8) (hs:s.length<1000000000000) (p:UInt8→Bool) (f:Nat) (hg:K.good f=true) (hown:K.ownRet f=false) (hf : ∀ c,den K f [U c] []=some (.ret (B (p c)) [])) (from_:Nat) : ∀ (rest:List UInt8) (n:Nat),s.drop (from_+n)=rest→from_+n≤s.length →
  Ends (exL K 182 (.loop (au Tryz.f182 2)) (runH s from_ f n)) fun o S=>o = .exit 0∧S.sl 7=I (n+Tk.run p rest:Nat)∧S.nt=26:=by
 intro rest
 induction rest with
 | nil =>
  intro n hd hn
  have hin:from_+n=s.length:=by
   have:=List.drop_eq_nil_iff.1 hd
   omega
  have w1:IntKind.i64.wrap ((from_:Int)+(n:Int))=((from_+n:Nat):Int):=by rw[IntWalk.i64_in _ (by omega)];rfl
  have hlt:decide (((from_+n:Nat):Int)<(s.length:Int))=false:=decide_eq_false (by omega)
  conv in au _ _=>whnf
  rw[aD]
  simp only[go_sem,Nat.reduceLT,reduceCtorEq,Nat.reduceEqDiff,Nat.reduceBEq,Nat.reduceAdd,aF af,aV,w1,hlt,Tk.Ep]
 | cons c rest ih =>
  intro n hd hn
  obtain ⟨g1,g2,g3⟩:=eC hd
  have w1:IntKind.i64.wrap ((from_:Int)+(n:Int))=((from_+n:Nat):Int):=by rw[IntWalk.i64_in _ (by omega)];rfl
  have hlt:decide (((from_+n:Nat):Int)<(s.length:Int))=true:=decide_eq_true (by omega)
  have hc:=hf c
  have ih':=ih (n+1) g2 (by omega)
  conv at ih' in au _ _=>whnf
  conv in au _ _=>whnf
  rw[aD]
  cases hp:p c
  ·rw[hp] at hc
   have hv:Tk.run p (c::rest)=0:=by rw[Tk.run,if_neg (by simp[hp])]
   simp only[go_sem,Nat.reduceLT,reduceCtorEq,Nat.reduceEqDiff,Nat.reduceBEq,Nat.reduceAdd,aF af,fI af,aV,w1,hlt,hg,hown,hc,Int.natCast_nonneg,Int.toNat_natCast,g1,hv]
  ·rw[hp] at hc
   have hv:n+1+Tk.run p rest=n+Tk.run p (c::rest):=by rw[Tk.run,if_pos hp];omega
   rw[hv] at ih'
   simp only[go_sem,Nat.reduceLT,reduceCtorEq,Nat.reduceEqDiff,Nat.reduceBEq,Nat.reduceAdd,aF af,fI af,w1,hlt,hg,hown,hc,Int.natCast_nonneg,Int.toNat_natCast,g1,d8 n (by omega)]
   rw[aY]
   simp only[go_sem,reduceCtorEq,Nat.reduceEqDiff]
   exact ih'
theorem n6 (s:List UInt8) (hs:s.length<1000000000000) (p:UInt8→Bool) (f:Nat) (hg:K.good f=true) (hown:K.ownRet f=false) (hf : ∀ c,den K f [U c] []=some (.ret (B (p c)) [])) (from_:Nat) (h:from_≤s.length):den K 182 [T s,I from_,FN f] []=some (.ret (I (Tk.run p (s.drop from_):Nat)) []):=by
 refine ab rfl rfl Tryz.func182 rfl Tryz.ntmps182 ⟨by simp,by simp[LK]⟩ ?_
 have hr:Tryz.f182.results = #[.tmp 6]:=rfl
 have hnext:=A6 s hs p f hg hown hf from_ (s.drop from_) 0 rfl (by omega)
 conv at hnext in au _ _=>whnf
 obtain ⟨o,S',e,rfl,h7,hn⟩:=hnext
 rw[Nat.zero_add] at h7
 simp only[go_sem,Nat.reduceLT,Nat.reduceBEq]
 rw[aY]
 simp only[go_sem,reduceCtorEq,Nat.reduceEqDiff]
 erw [e]
 simp only[go_sem,Nat.reduceLT,Nat.reduceEqDiff,Nat.reduceBEq,Nat.reduceAdd,hr,h7,hn]
attribute [local go_sem] pH pR eH g9 f7 hC de cL BU
theorem pS (s:List UInt8) (hs:s.length<4000000000) (i:Nat) (h:i≤s.length):den K 176 [T s,I i] []=some (.ret (I (Tk.name (s.drop i):Nat)) []):=by
 have d1:=ll s i (by omega)
 have d2:=ll s (i+1) (by omega)
 have ht:(s.drop i).tail=s.drop (i+1):=List.tail_drop
 have hrun:=n6 s (by omega) Tk.within 184 vq rfl pk i h
 unfold Tk.name Tk.eh
 rw[ht]
 generalize Tk.at0 (s.drop i)=c at d1
 generalize Tk.at0 (s.drop (i+1))=d at d2
 have b1:=lq c
 have b2:=lq d
 have e1:((c.toNat:Int)==45)=(c==45):=jo c 45
 have e2:((d.toNat:Int)==45)=(d==45):=jo d 45
 refine ab rfl rfl Tryz.func176 rfl Tryz.ntmps176 ⟨by simp,by simp[LK]⟩ ?_
 have hr:Tryz.f176.results = #[.tmp 4]:=rfl
 cases h1:Tk.begins c
 ·rw[h1] at b1
  cases h2:(c==45)
  ·rw[h2] at e1
   simp only[go_sem,Nat.reduceLT,reduceCtorEq,Nat.reduceEqDiff,Nat.reduceBEq,Nat.reduceAdd,hr,d1,d2,b1,e1,d8 i (by omega)]
   rfl
  ·rw[h2] at e1
   cases h3:Tk.begins d
   ·rw[h3] at b2
    cases h4:(d==45)
    ·rw[h4] at e2
     simp only[go_sem,Nat.reduceLT,reduceCtorEq,Nat.reduceEqDiff,Nat.reduceBEq,Nat.reduceAdd,hr,d1,d2,b1,b2,e1,e2,d8 i (by omega)]
     rfl
    ·rw[h4] at e2
     simp only[go_sem,Nat.reduceLT,reduceCtorEq,Nat.reduceEqDiff,Nat.reduceBEq,Nat.reduceAdd,hr,d1,d2,b1,b2,e1,e2,hrun,d8 i (by omega)]
   ·rw[h3] at b2
    simp only[go_sem,Nat.reduceLT,reduceCtorEq,Nat.reduceEqDiff,Nat.reduceBEq,Nat.reduceAdd,hr,d1,d2,b1,b2,e1,hrun,d8 i (by omega)]
 ·rw[h1] at b1
  simp only[go_sem,Nat.reduceLT,reduceCtorEq,Nat.reduceEqDiff,Nat.reduceBEq,Nat.reduceAdd,hr,d1,d2,b1,hrun,d8 i (by omega)]
inductive TS where
 | nils
 | live
 | wr (l:List Tok)
def TS.toks:TS→List Tok
 | .wr l=>l
 | _=>[]
def TS.cell:TS→CV
 | .nils => .nils
 | .live => .own 0 []
 | .wr l => .own 91 (l.map Tok.enc)
abbrev scan (s:List UInt8) (x:TS):List CV:=[.pv (.str s),x.cell]
theorem A7 (a b c:PV):lens 3 [[a,b,c]]=true:=rfl
theorem iJ (l:List Tok):lens 3 (l.map Tok.enc)=true:=by simp[lens,Tok.enc]
theorem o2 (s:List UInt8) (x:TS) (n:Nat) (h:n≤s.length):den K 210 [P0,I n] [scan s x]=some (.ret (.tup []) [scan (s.drop n) x]):=by
 refine ab rfl rfl Tryz.func210 rfl Tryz.ntmps210 ⟨by simp,by simp[LK]⟩ ?_
 have hr:Tryz.f210.results = #[]:=rfl
 have hb:((0:Int)≤(n:Int)∧(n:Int)≤(s.length:Int))=True:=eq_true (by omega)
 have hd:(s.take s.length).drop n=s.drop n:=by rw[List.take_length]
 cases x<;>simp only[TS.cell,scan,go_sem,Nat.reduceLT,reduceCtorEq,Nat.reduceEqDiff,Nat.reduceBEq,Nat.reduceAdd,Nat.reduceLeDiff,ak af,hr,hb,Int.toNat_natCast,hd]
theorem yB (s:List UInt8) (x:TS) (n:Nat) (kind:Int) (text:List UInt8) (v:Int) (h:n≤s.length) (hx:x.toks.length<4000000000) :
  den K 181 [P0,I n,I kind,T text,I v] [scan s x]=some (.ret (.tup []) [scan (s.drop n) (.wr (x.toks++[⟨kind,text,v⟩]))]):=by
 refine ab rfl rfl Tryz.func181 rfl Tryz.ntmps181 ⟨by simp,by simp[LK]⟩ ?_
 have hr:Tryz.f181.results = #[]:=rfl
 have hsk:=o2 s (.wr (x.toks++[⟨kind,text,v⟩])) n h
 have hl:x.toks.length+1<dl:=by simp[dl];omega
 cases x<;>simp only[TS.cell,TS.toks,scan,List.map_append,List.map_cons,List.map_nil,Tok.enc,List.nil_append,List.length_nil] at hsk hl ⊢ <;>
  simp only[go_sem,Nat.reduceLT,reduceCtorEq,Nat.reduceEqDiff,Nat.reduceBEq,Nat.reduceAdd,Nat.reduceLeDiff,Nat.reduceMul,aj aA eJ,ae (len:=1) aR aK aA ⟨rfl,by decide,by decide⟩,dR qm,cK aR,hr,hsk,hl,CS,A7,iJ]
attribute [local go_sem] AR Dd tz Cz
def vM (r:List UInt8):Int:=match Tk.shut r with|some n=>(n:Int) - 2|none => -1
def iA (c:UInt8) (r:List UInt8):Int:=match Tk.inner c r with|some n=>(n:Int)|none => -1
theorem qi : ∀ r:List UInt8,Lib.index r [42,47]=vM r
 | []=>rfl
 | b::l=>by
  have ih:=qi l
  have e:Lib.index (b::l) [42,47]=if [42,47].isPrefixOf (b::l) then 0 else if Lib.index l [42,47] == -1 then -1 else Lib.index l [42,47]+1:=rfl
  rw[e,ih]
  have hp:([42,47].isPrefixOf (b::l)=true)↔(b=42∧Tk.at0 l=47):=by
   cases l with
   | nil =>
    refine ⟨fun h => ?_,fun h=>absurd h.2 (by decide)⟩
    simp[List.isPrefixOf] at h
   | cons d l =>
    simp only[List.isPrefixOf,Bool.and_true,Bool.and_eq_true,beq_iff_eq,Tk.at0]
    exact ⟨fun h=>⟨h.1.symm,h.2.symm⟩,fun h=>⟨h.1.symm,h.2.symm⟩⟩
  by_cases h:b=42∧Tk.at0 l=47
  ·rw[if_pos (hp.2 h),vM,Tk.shut,if_pos h];rfl
  ·rw[if_neg (fun x=>h (hp.1 x)),vM,vM,Tk.shut,if_neg h]
   cases hs:Tk.shut l with
   | none=>rfl
   | some n =>
    have:=Tk.nX hs
    simp only[Option.map_some]
    rw[if_neg (by rw[beq_iff_eq];omega)]
    omega
theorem qA (b:UInt8):([10,12,13]:List UInt8).contains b=Tk.ending b:=by
 unfold Tk.ending
 simp only[List.contains_cons,List.contains_nil,Bool.or_false,Bool.or_assoc]
theorem mY (b:UInt8) (l:List UInt8):Lib.containsAny (b::l) [10,12,13]=(Tk.ending b||Lib.containsAny l [10,12,13]):=by
 unfold Lib.containsAny
 have e:Lib.indexAny (b::l) [10,12,13]=if ([10,12,13]:List UInt8).contains b then 0 else if Lib.indexAny l [10,12,13] == -1 then -1 else Lib.indexAny l [10,12,13]+1:=rfl
 rw[e,qA]
 have hge:=Lib.indexAny_ge [10,12,13] l
 cases Tk.ending b
 ·simp only[Bool.false_eq_true,if_false,Bool.false_or]
  by_cases h:Lib.indexAny l [10,12,13] = -1
  ·rw[if_pos (by rw[h];rfl),h]
  ·rw[if_neg (by simpa using h)]
   exact decide_eq_decide.2 (by omega)
 ·rfl
theorem gg (b:UInt8) (l:List UInt8) (c:UInt8):Lib.indexByte (b::l) c=if b==c then 0 else if Lib.indexByte l c == -1 then -1 else Lib.indexByte l c+1:=rfl
theorem lC (c:UInt8) : ∀ r:List UInt8,0≤Lib.indexByte r c→Lib.indexByte r c<(r.length:Int)
 | [],h=>absurd (show (0:Int) ≤ -1 from h) (by decide)
 | b::l,h=>by
  have ih:=lC c l
  have hge:=Lib.indexByte_ge l c
  rw[gg] at h ⊢
  simp only[List.length_cons]
  split at h
  ·omega
  ·split at h
   ·omega
   ·rename_i h2
    have:Lib.indexByte l c ≠ -1:=by simpa using h2
    have:=ih (by omega)
    rw[if_neg h2];omega
theorem qN (c:UInt8) : ∀ r:List UInt8,iA c r=if 0≤Lib.indexByte r c∧Lib.containsAny (r.take (Lib.indexByte r c).toNat) [10,12,13]=true then -1 else Lib.indexByte r c
 | []=>rfl
 | b::l=>by
  have ih:=qN c l
  have hge:=Lib.indexByte_ge l c
  by_cases hb:b=c
  ·have e:Lib.indexByte (b::l) c=0:=by rw[gg,if_pos (by simp[hb])]
   have hc0:Lib.containsAny ((b::l).take (0:Int).toNat) [10,12,13]=false:=rfl
   rw[e,iA,Tk.inner,if_pos hb,hc0]
   rfl
  ·by_cases hm:Lib.indexByte l c = -1
   ·have e:Lib.indexByte (b::l) c = -1:=by rw[gg,if_neg (by simpa using hb),hm];rfl
    rw[hm,if_neg (by omega)] at ih
    rw[e,if_neg (by omega),iA,Tk.inner,if_neg hb]
    unfold iA at ih
    cases hi:Tk.inner c l with
    | none=>cases Tk.ending b<;>rfl
    | some n=>rw[hi] at ih;simp only at ih;omega
   ·have e:Lib.indexByte (b::l) c=Lib.indexByte l c+1:=by rw[gg,if_neg (by simpa using hb),if_neg (by simpa using hm)]
    have ht:(Lib.indexByte l c+1).toNat=(Lib.indexByte l c).toNat+1:=by omega
    rw[e,ht,List.take_succ_cons,mY,iA,Tk.inner,if_neg hb]
    unfold iA at ih
    cases he:Tk.ending b
    ·simp only[Bool.false_or,Bool.false_eq_true,if_false]
     by_cases hc:Lib.containsAny (l.take (Lib.indexByte l c).toNat) [10,12,13]=true
     ·rw[if_pos ⟨by omega,hc⟩]
      rw[if_pos ⟨by omega,hc⟩] at ih
      cases hi:Tk.inner c l with
      | none=>rfl
      | some n=>rw[hi] at ih;simp only at ih;omega
     ·rw[if_neg (fun x=>hc x.2)]
      rw[if_neg (fun x=>hc x.2)] at ih
      cases hi:Tk.inner c l with
      | none=>rw[hi] at ih;simp only at ih;omega
      | some n=>rw[hi] at ih;simp only at ih ⊢;simp only[Option.map_some];omega
    ·rw[Bool.true_or,if_pos (⟨by omega,rfl⟩:0≤Lib.indexByte l c+1∧true=true)]
     rfl
theorem yN (s p:List UInt8) (h:s.length<4294967281):den K 193 [T s,T p] []=some (.ret (I (Lib.index s p)) []):=by
 refine ey (F:=pb) rfl ?_
 simp[pb,h]
theorem ga (s:List UInt8) (c:UInt8):den K 179 [T s,U c] []=some (.ret (I (Lib.indexByte s c)) []):=by
 refine ey (F:=fx) rfl ?_
 simp[fx]
theorem qC (s p:List UInt8):den K 177 [T s,T p] []=some (.ret (B (Lib.hasPrefix s p)) []):=ey (F:=jw) rfl rfl
theorem sH (s:List UInt8) (h:s.length<4294967281):den K 230 [T s,T [10,12,13]] []=some (.ret (I (Lib.indexAny s [10,12,13])) []):=by
 refine ey (F:=i8) rfl ?_
 simp[i8,h]
theorem nQ (s:List UInt8) (h:s.length<4294967281):den K 212 [T s,T [10,12,13]] []=some (.ret (B (Lib.containsAny s [10,12,13])) []):=by
 have d:=sH s h
 unfold Lib.containsAny
 refine ab rfl rfl Tryz.func212 rfl Tryz.ntmps212 ⟨by simp,by simp[LK]⟩ ?_
 have hr:Tryz.f212.results = #[.tmp 4]:=rfl
 simp only[go_sem,Nat.reduceLT,reduceCtorEq,Nat.reduceEqDiff,Nat.reduceBEq,Nat.reduceAdd,hr,d]
theorem uZ (s:List UInt8) (x:TS) (hs:s.length<4000000000) (h:2≤s.length):den K 178 [P0] [scan s x]=some (.ret (.tup []) [scan (s.drop (Tk.comment (s.drop 2))) x]):=by
 have hi:=yN (s.drop 2) [42,47] (by simp;omega)
 rw[qi] at hi
 unfold vM at hi
 refine ab rfl rfl Tryz.func178 rfl Tryz.ntmps178 ⟨by simp,by simp[LK]⟩ ?_
 have hr:Tryz.f178.results = #[]:=rfl
 have hb:((0:Int)≤2∧(2:Int)≤(s.length:Int))=True:=eq_true (by omega)
 have hd:(s.take s.length).drop 2=s.drop 2:=by rw[List.take_length]
 have t2:Int.toNat 2=2:=rfl
 unfold Tk.comment
 cases hc:Tk.shut (s.drop 2) with
 | none =>
  rw[hc] at hi
  have hsk:=o2 s x s.length (Nat.le_refl _)
  have hn:decide ((-1:Int)<0)=true:=by decide
  have hlen:(s.drop 2).length+2=s.length:=by simp;omega
  rw[hlen]
  cases x<;>simp only[TS.cell,scan] at hsk ⊢ <;> simp only[go_sem,Nat.reduceLT,reduceCtorEq,Nat.reduceEqDiff,Nat.reduceBEq,Nat.reduceAdd,ak af,aF af,hr,hi,hb,t2,hd,hn,hsk]
 | some n =>
  rw[hc] at hi
  have hle:=Tk.nX hc
  simp only[List.length_drop] at hle
  have hsk:=o2 s x (n+2) (by omega)
  have hn:decide ((n:Int) - 2<0)=false:=decide_eq_false (by omega)
  have w1:IntKind.i64.wrap (2+((n:Int) - 2))=(n:Int):=by rw[IntWalk.i64_in _ (by omega)];omega
  have w2:IntKind.i64.wrap ((n:Int)+2)=((n+2:Nat):Int):=by rw[IntWalk.i64_in _ (by omega)];rfl
  cases x<;>simp only[TS.cell,scan] at hsk ⊢ <;> simp only[go_sem,Nat.reduceLT,reduceCtorEq,Nat.reduceEqDiff,Nat.reduceBEq,Nat.reduceAdd,ak af,aF af,hr,hi,hb,t2,hd,hn,w1,w2,hsk]
theorem Ak (s:List UInt8) (c:UInt8) (r:List UInt8) (x:TS) (hsr:s=c::r) (hs:s.length<4000000000):den K 183 [P0] [scan s x]=some (.ret (I (iA c r)) [scan s x]):=by
 have hb:((0:Int)≤1∧(1:Int)≤(s.length:Int))=True:=eq_true (by rw[hsr];simp;omega)
 have hd:(s.take s.length).drop 1=r:=by rw[List.take_length,hsr];rfl
 have hcell:s[(0:Int).toNat]? = some c:=by rw[hsr];rfl
 have hrs:r.length≤s.length:=by rw[hsr];simp
 clear hsr
 have hi:=ga r c
 have hge:=Lib.indexByte_ge r c
 have hlt:=lC c r
 rw[qN]
 generalize Lib.indexByte r c=n at hi hge hlt
 refine ab rfl rfl Tryz.func183 rfl Tryz.ntmps183 ⟨by simp,by simp[LK]⟩ ?_
 have hr:Tryz.f183.results = #[.tmp 2]:=rfl
 have t1:Int.toNat 1=1:=rfl
 by_cases h0:0≤n
 ·have hc:=nQ (r.take n.toNat) (by rw[List.length_take];omega)
  have hn:decide (0≤n)=true:=decide_eq_true h0
  have hb2:((0:Int)≤n∧n≤(r.length:Int))=True:=eq_true (by have:=hlt h0;omega)
  cases hv:Lib.containsAny (r.take n.toNat) [10,12,13]
  ·rw[hv] at hc
   rw[if_neg (fun e=>by cases e.2)]
   cases x<;>simp only[TS.cell,scan]<;>simp only[go_sem,Nat.reduceLT,reduceCtorEq,Nat.reduceEqDiff,Nat.reduceBEq,Nat.reduceAdd,ak af,fI af,ak az,hr,hi,hb,hd,hn,t1,hb2,hc,hcell,Int.le_refl]
  ·rw[hv] at hc
   rw[if_pos ⟨h0,rfl⟩]
   cases x<;>simp only[TS.cell,scan]<;>simp only[go_sem,Nat.reduceLT,reduceCtorEq,Nat.reduceEqDiff,Nat.reduceBEq,Nat.reduceAdd,ak af,fI af,ak az,hr,hi,hb,hd,hn,t1,hb2,hc,hcell,Int.le_refl]
 ·have hn:decide (0≤n)=false:=decide_eq_false h0
  rw[if_neg (fun e=>h0 e.1)]
  cases x<;>simp only[TS.cell,scan]<;>simp only[go_sem,Nat.reduceLT,reduceCtorEq,Nat.reduceEqDiff,Nat.reduceBEq,Nat.reduceAdd,ak af,fI af,hr,hi,hb,hd,hn,t1,hcell,Int.le_refl]
end Go.Abs
set_option linter.unusedSimpArgs true
namespace Go.Abs
open Go
theorem gD {α:Type}:(#[]:Array α).isEmpty=true:=rfl
def encT (l:List (List UInt8)):List (List PV):=l.map fun s=>[.str s]
theorem tT (l:List (List UInt8)):(encT l).length=l.length:=List.length_map ..
theorem FW (l:List (List UInt8)) (i:Nat) (x:List UInt8) (h:l[i]? = some x):(encT l)[(i:Int).toNat]? = some [.str x]:=by
 rw[Int.toNat_natCast,encT,List.getElem?_map,h];rfl
def ixI (o:Option Nat):Int:=match o with|some j=>j|none => -1
theorem Fq {α:Type} {p:α→Bool} {l:List α}:decide (0≤ixI (l.findIdx? p))=l.any p:=by
 cases h:l.findIdx? p with
 | none =>
  rw[List.findIdx?_eq_none_iff] at h
  have:l.any p=false:=by
   rw[List.any_eq_false]
   intro x hx
   rw[h x hx];simp
  rw[this];decide
 | some j =>
  obtain ⟨hj,hp,_⟩:=List.findIdx?_eq_some_iff_getElem.1 h
  have:l.any p=true:=by
   rw[List.any_eq_true]
   exact ⟨_,List.getElem_mem hj,hp⟩
  rw[this]
  show decide ((0:Int)≤(j:Int))=true
  exact decide_eq_true (by omega)
end Go.Abs
namespace Go.Abs
open Go Go.Proofs
set_option maxRecDepth 10000
attribute [local go_sem] cA bm bU bD bB cz bQ bS aG bv bq bL cg br opd avOf cvOf St.degAt St.put okPV db okAV cN cM cO cd aq if_true Bool.false_eq_true if_false Option.map_some Option.map_none Option.bind_some Option.bind_none c9 c5 upd List.toList_toArray bO steal aZ mvB cR cf b7 AV.deg CV.deg AV.gv AV.isIter b9 bT bC List.length_nil List.length_cons List.filterMap_cons List.filterMap_nil beq_iff_eq List.getElem?_cons_zero List.getElem?_cons_succ Option.getD_some du d5 Bool.false_and Bool.and_false Bool.and_self K_P eF bF bV aW lend back idx dedup AV.ren CV.ren TV.ren AV.ptrs CV.ptrs ce AV.flat CV.flat bM bz aJ cj cx dp bE aE bK a7 bh bA a8 dP CV.pv? content bf ownT aL reps pvs chunks bu leave dL bW cJ bt aX TV.deg TV.av LK CV.plain CV.noBld cm dF bound List.map_cons List.map_nil List.all_cons List.all_nil List.any_cons List.any_nil List.contains_cons List.contains_nil List.elem_cons List.elem_nil List.cons_append List.nil_append List.append_nil List.flatMap_cons List.flatMap_nil List.zip_cons_cons List.zip_nil_left List.zip_nil_right List.take_succ_cons List.take_zero List.take_nil List.drop_succ_cons List.drop_zero List.drop_nil List.isEmpty_nil List.isEmpty_cons Bool.and_true Bool.true_and Bool.or_true Bool.true_or Bool.or_false Bool.false_or Bool.not_true Bool.not_false Nat.add_zero Nat.zero_add Option.isNone_none Option.isNone_some Option.getD_none true_and and_true not_true_eq_false not_false_eq_true decide_true decide_false Nat.le_refl and_self Bool.not_eq_true Nat.sub_self or_true true_or Option.some.injEq List.length_map List.nil_eq and_false false_and AV.live CV.live CV.liveIn dh aI Option.orElse_some Option.orElse_none head aO aN Int.lt_irrefl List.length_append ite_self dc bI ck bg Key.clash Key.sees Key.writes Nat.lt_irrefl gt_iff_lt bR cW false_or or_false beq_self_eq_true Bool.true_beq Bool.false_beq iX cT aH fT dM dU bH sd co bN bw aQ ef wq ar cu Di aA aK nY om iV cy dB vV wb ja
abbrev rdB (l:List Val):List CV:=[.pv (.sl (encL l))]
abbrev cI:CV := .pv (.ifa 115 [])
def nxCv:List Val→List CV
 | []=>[.pv (.int .i64 0),.pv (.int .i64 0),.pv (.str []),.pv (.int .i64 0),.nils]
 | .mk k t c::_=>il k t c
theorem pO:nxCv []=[.pv (.int .i64 0),.pv (.int .i64 0),.pv (.str []),.pv (.int .i64 0),.nils]:=rfl
theorem eo (k:Int) (t:Tok) (c r:List Val):nxCv (.mk k t c::r)=[.pv (.int .i64 k),.pv (.int .i64 t.kind),.pv (.str t.text),.pv (.int .i64 t.n),.pv (.sl (encL c))]:=rfl
theorem dq:den K 40 [B true] []=some (.ret (.tup []) []):=by
 refine ab rfl rfl Tryz.func40 rfl Tryz.ntmps40 ⟨by simp,by simp[LK]⟩ ?_
 have hr:Tryz.f40.results = #[]:=rfl
 simp only[go_sem,Nat.reduceLT,Nat.reduceEqDiff,Nat.reduceBEq,Nat.reduceAdd,aj d7 ev,hr]
theorem e7:den K 40 [B false] []=some (.pan cI []):=by
 refine ab rfl rfl Tryz.func40 rfl Tryz.ntmps40 ⟨by simp,by simp[LK]⟩ ?_
 have hr:Tryz.f40.results = #[]:=rfl
 simp only[go_sem,Nat.reduceLT,Nat.reduceEqDiff,Nat.reduceBEq,Nat.reduceAdd,aj d7 ev,hr]
theorem eL (l:List Val) (hl:l.length≤100000000):den K 74 [P0] [rdB l]=some (.ret (.agg (nxCv l)) [rdB l]):=by
 have hr:Tryz.f74.results = #[.cell 2 93]:=rfl
 cases l with
 | nil =>
  have q0:(((0:Nat):Int)==0)=true:=rfl
  rw[pO]
  simp only[rdB]
  refine ab rfl rfl Tryz.func74 rfl Tryz.ntmps74 ⟨by simp,by simp[LK]⟩ ?_
  simp only[go_sem,Nat.reduceLT,reduceCtorEq,Nat.reduceEqDiff,Nat.reduceBEq,Nat.reduceAdd,Nat.reduceSub,Nat.reduceLeDiff,ai ap,aj aH cQ,hr,bc,q0]
 | cons v r =>
  obtain ⟨k,t,c⟩:=v
  rw[List.length_cons] at hl
  have hn0:(((r.length+1:Nat):Int)==0)=false:=by rw[beq_eq_false_iff_ne];omega
  have hget:=pD k t c r
  rw[eo]
  simp only[rdB]
  refine ab rfl rfl Tryz.func74 rfl Tryz.ntmps74 ⟨by simp,by simp[LK]⟩ ?_
  simp only[go_sem,Nat.reduceLT,reduceCtorEq,Nat.reduceEqDiff,Nat.reduceBEq,Nat.reduceAdd,Nat.reduceSub,Nat.reduceLeDiff,ai ap,aj aH cQ,aw ap,hr,bc,hn0,hget,le00]
theorem dT (k:Int) (t:Tok) (c r:List Val) (hl:r.length≤90000000):den K 77 [P0] [rdB (.mk k t c::r)]=some (.ret (.agg (nxCv (.mk k t c::r))) [rdB r]):=by
 have hr:Tryz.f77.results = #[.cell 2 93]:=rfl
 have h:=eL (.mk k t c::r) (by rw[List.length_cons];omega)
 rw[eo] at h ⊢
 simp only[rdB] at h ⊢
 have hlt:decide ((0:Int)<(((r.length+1:Nat)):Int))=true:=decide_eq_true (by omega)
 have hcut:=u1 (.mk k t c) r (r.length+1) rfl
 have hb1:((0:Int)≤1∧(1:Int)≤((r.length+1:Nat):Int))=True:=by rw[eq_iff_iff];simp;omega
 have hlv:=gO (.mk k t c::r)
 refine ab rfl rfl Tryz.func77 rfl Tryz.ntmps77 ⟨by simp,by simp[LK]⟩ ?_
 simp only[go_sem,Nat.reduceLT,reduceCtorEq,Nat.reduceEqDiff,Nat.reduceBEq,Nat.reduceAdd,Nat.reduceSub,Nat.reduceLeDiff,ai ap,dx ap bH,hr,bc,h,hlt,hcut,hb1,hlv]
def tokB (kind:Int):List Val→Bool
 | .mk k t _::_=>(k==1)&&(t.kind==kind)
 | []=>false
theorem gK {kind:Int} {l:List Val} {t:Tok} (h:Sl.tokK kind l=some t):tokB kind l=true ∧ ∃ c r,l = .mk 1 t c::r∧t.kind=kind:=by
 cases l with
 | nil=>cases h
 | cons v r =>
  obtain ⟨k,u,c⟩:=v
  unfold Sl.tokK at h
  simp only at h
  split at h
  ·rename_i hh
   cases h
   obtain ⟨rfl,h2⟩:=hh
   exact ⟨by show (((1:Int)==1)&&(t.kind==kind))=true;rw[h2];simp,c,r,rfl,h2⟩
  ·cases h
theorem cU {kind:Int} {l:List Val} (h:Sl.tokK kind l=none):tokB kind l=false:=by
 cases l with
 | nil=>rfl
 | cons v r =>
  obtain ⟨k,u,c⟩:=v
  unfold Sl.tokK at h
  simp only at h
  split at h
  ·cases h
  ·rename_i hh
   show ((k==1)&&(u.kind==kind))=false
   rw[Bool.and_eq_false_iff,beq_eq_false_iff_ne,beq_eq_false_iff_ne]
   by_cases h1:k=1
   ·exact .inr fun h2=>hh ⟨h1,h2⟩
   ·exact .inl h1
theorem cE (l:List Val) (kind:Int) (hl:l.length≤100000000):den K 71 [P0,I kind] [rdB l]=some (.ret (B (tokB kind l)) [rdB l]):=by
 have hr:Tryz.f71.results = #[.tmp 4]:=rfl
 have h:=eL l hl
 cases l with
 | nil =>
  rw[pO] at h
  have q0:((0:Int)==1)=false:=rfl
  show _=(some (.ret (B false) [rdB []]):Option Res)
  simp only[rdB] at h ⊢
  refine ab rfl rfl Tryz.func71 rfl Tryz.ntmps71 ⟨by simp,by simp[LK]⟩ ?_
  simp only[go_sem,Nat.reduceLT,reduceCtorEq,Nat.reduceEqDiff,Nat.reduceBEq,Nat.reduceAdd,hr,h,q0]
 | cons v r =>
  obtain ⟨k,t,c⟩:=v
  rw[eo] at h
  show _=(some (.ret (B ((k==1)&&(t.kind==kind))) [rdB (.mk k t c::r)]):Option Res)
  simp only[rdB] at h ⊢
  cases e1:(k==1)
  ·refine ab rfl rfl Tryz.func71 rfl Tryz.ntmps71 ⟨by simp,by simp[LK]⟩ ?_
   simp only[go_sem,Nat.reduceLT,reduceCtorEq,Nat.reduceEqDiff,Nat.reduceBEq,Nat.reduceAdd,hr,h,e1]
  ·refine ab rfl rfl Tryz.func71 rfl Tryz.ntmps71 ⟨by simp,by simp[LK]⟩ ?_
   simp only[go_sem,Nat.reduceLT,reduceCtorEq,Nat.reduceEqDiff,Nat.reduceBEq,Nat.reduceAdd,Nat.reduceLeDiff,hr,h,e1]
abbrev ixtH (l:List (List UInt8)) (s:List UInt8) (i:Nat):St :=
  { sl:=upd (upd (upd (upd bot 8 (I i)) 7 (I l.length)) 1 (T s)) 0 (L (encT l)),bx:=nobox,nt:=19 }
noncomputable def ixtlp:Code := .loop (au Tryz.f151 2)
theorem uS (l:List (List UInt8)) (s:List UInt8) (hl:l.length≤1000000000) : ∀ (rest:List (List UInt8)) (i:Nat),l.drop i=rest→i≤l.length →
  Ends (exL K 151 ixtlp (ixtH l s i)) fun o S=>match rest.findIdx? (s == ·) with
   | none=>o = .exit 0∧S.nt=19
   | some j=>o = .ret∧S.sl 4=I ((i+j:Nat):Int)
 | [],i,hd,hi=>by
  have hin:i=l.length:=by
   have:=List.drop_eq_nil_iff.1 hd
   omega
  subst hin
  have hlt:decide ((l.length:Int)<(l.length:Int))=false:=decide_eq_false (by omega)
  unfold ixtlp
  conv in au _ _=>whnf
  rw[aD]
  simp only[go_sem,Nat.reduceLT,reduceCtorEq,Nat.reduceEqDiff,Nat.reduceBEq,aV,List.findIdx?_nil]
 | x::rest,i,hd,hi=>by
  obtain ⟨g1,g2,g3⟩:=eC hd
  have hlt:decide ((i:Int)<(l.length:Int))=true:=decide_eq_true (by omega)
  have hget:=FW l i x g1
  have ih:=uS l s hl rest (i+1) g2 (by omega)
  have hws:IntKind.i64.wrap ((i:Int)+1)=((i+1:Nat):Int):=d8 i (by omega)
  unfold ixtlp at ih ⊢
  conv at ih in au _ _=>whnf
  rw[List.findIdx?_cons]
  conv in au _ _=>whnf
  rw[aD]
  cases hv:(s==x)
  ·rw[if_neg (by simp)]
   simp only[go_sem,Nat.reduceLT,reduceCtorEq,Nat.reduceEqDiff,Nat.reduceBEq,Nat.reduceAdd,aw al,hlt,hget,Int.natCast_nonneg,hv,hws]
   rw[aY]
   simp only[go_sem,reduceCtorEq,Nat.reduceEqDiff]
   refine cX ih fun o S q => ?_
   cases hf:rest.findIdx? (s == ·) with
   | none=>rw[hf] at q;exact q
   | some j =>
    rw[hf] at q
    refine ⟨q.1,q.2.trans ?_⟩
    rw[show i+1+j=i+(j+1) by omega]
  ·rw[if_pos rfl]
   simp only[go_sem,Nat.reduceLT,reduceCtorEq,Nat.reduceEqDiff,Nat.reduceBEq,Nat.reduceAdd,aw al,hlt,hget,Int.natCast_nonneg,hv,aV,Nat.add_zero]
theorem uF (l:List (List UInt8)) (s:List UInt8) (hl:l.length≤1000000000) :
  den K 151 [L (encT l),T s] []=some (.ret (I (ixI (l.findIdx? (s == ·)))) []):=by
 have hr:Tryz.f151.results = #[.tmp 4]:=rfl
 have h:=uS l s hl l 0 rfl (Nat.zero_le _)
 unfold ixtlp at h
 conv at h in au _ _=>whnf
 obtain ⟨o,S',w,hq⟩:=h
 have z0:((0:Nat):Int)=0:=rfl
 simp only[ixtH,z0] at w
 refine ab rfl rfl Tryz.func151 rfl Tryz.ntmps151 ⟨by simp,by simp[LK]⟩ ?_
 cases hf:l.findIdx? (s == ·) with
 | none =>
  rw[hf] at hq
  obtain ⟨rfl,hn⟩:=hq
  unfold ixI
  simp only[go_sem,Nat.reduceLT,reduceCtorEq,Nat.reduceEqDiff,Nat.reduceBEq,Nat.reduceAdd,ai al,tT]
  rw[aY]
  simp only[go_sem,reduceCtorEq,Nat.reduceEqDiff]
  erw [w]
  simp only[go_sem,Nat.reduceLT,Nat.reduceBEq,hr,hn]
 | some j =>
  rw[hf] at hq
  obtain ⟨rfl,h4⟩:=hq
  rw[Nat.zero_add] at h4
  unfold ixI
  simp only[go_sem,Nat.reduceLT,reduceCtorEq,Nat.reduceEqDiff,Nat.reduceBEq,Nat.reduceAdd,ai al,tT]
  rw[aY]
  simp only[go_sem,reduceCtorEq,Nat.reduceEqDiff]
  erw [w]
  simp only[go_sem,hr,h4]
theorem jO (l:List (List UInt8)) (s:List UInt8) (hl:l.length≤1000000000) :
  den K 106 [L (encT l),T s] []=some (.ret (B (l.any (s == ·))) []):=by
 have hr:Tryz.f106.results = #[.tmp 4]:=rfl
 have h:=uF l s hl
 rw[←Fq]
 refine ab rfl rfl Tryz.func106 rfl Tryz.ntmps106 ⟨by simp,by simp[LK]⟩ ?_
 simp only[go_sem,Nat.reduceLT,reduceCtorEq,Nat.reduceEqDiff,Nat.reduceBEq,Nat.reduceAdd,hr,h]
def k7 (ss:List (List UInt8)):List Val→Option (List UInt8×List Val)
 | .mk k t _::r=>if k=1∧t.kind=7∧t.n=0∧ss.any (t.text == ·)=true then some (t.text,r) else none
 | []=>none
def qR (ss:List (List UInt8)) (l:List Val):Option Res:=match k7 ss l with
 | some (s,r)=>some (.ret (T s) [rdB r])
 | none=>some (.ret (T []) [rdB l])
set_option maxHeartbeats 4000000 in
theorem jg (l:List Val) (ss:List (List UInt8)) (hl:l.length≤90000000) (hs:ss.length≤1000):den K 78 [P0,L (encT ss)] [rdB l]=qR ss l:=by
 have hr:Tryz.f78.results = #[.tmp 4]:=rfl
 have h:=eL l (by omega)
 have ht:=cE l 7 (by omega)
 unfold qR
 cases l with
 | nil =>
  rw[pO] at h
  simp only[k7,rdB,tokB] at h ht ⊢
  refine ab rfl rfl Tryz.func78 rfl Tryz.ntmps78 ⟨by simp,by simp[LK]⟩ ?_
  simp only[go_sem,Nat.reduceLT,reduceCtorEq,Nat.reduceEqDiff,Nat.reduceBEq,Nat.reduceAdd,Nat.reduceSub,Nat.reduceLeDiff,hr,h,ht]
 | cons v r =>
  obtain ⟨k,t,c⟩:=v
  rw[eo] at h
  have hk:=dT k t c r (by rw[List.length_cons] at hl;omega)
  have hc:=jO ss t.text (by omega)
  rw[eo] at hk
  simp only[k7,rdB,tokB] at h ht hk ⊢
  cases e1:(k==1)
  ·have n1:k≠1:=by simpa using e1
   rw[if_neg fun h=>n1 h.1]
   refine ab rfl rfl Tryz.func78 rfl Tryz.ntmps78 ⟨by simp,by simp[LK]⟩ ?_
   simp only[go_sem,Nat.reduceLT,reduceCtorEq,Nat.reduceEqDiff,Nat.reduceBEq,Nat.reduceAdd,Nat.reduceSub,Nat.reduceLeDiff,hr,h,ht,e1]
  ·have n1:k=1:=by simpa using e1
   cases e2:(t.kind==7)
   ·have n2:t.kind≠7:=by simpa using e2
    rw[if_neg fun h=>n2 h.2.1]
    refine ab rfl rfl Tryz.func78 rfl Tryz.ntmps78 ⟨by simp,by simp[LK]⟩ ?_
    simp only[go_sem,Nat.reduceLT,reduceCtorEq,Nat.reduceEqDiff,Nat.reduceBEq,Nat.reduceAdd,Nat.reduceSub,Nat.reduceLeDiff,hr,h,ht,e1,e2]
   ·have n2:t.kind=7:=by simpa using e2
    cases e3:(t.n==0)
    ·have n3:t.n≠0:=by simpa using e3
     rw[if_neg fun h=>n3 h.2.2.1]
     refine ab rfl rfl Tryz.func78 rfl Tryz.ntmps78 ⟨by simp,by simp[LK]⟩ ?_
     simp only[go_sem,Nat.reduceLT,reduceCtorEq,Nat.reduceEqDiff,Nat.reduceBEq,Nat.reduceAdd,Nat.reduceSub,Nat.reduceLeDiff,hr,h,ht,e1,e2,e3]
    ·have n3:t.n=0:=by simpa using e3
     cases e4:ss.any (t.text == ·)
     ·rw[if_neg fun h=>absurd h.2.2.2 (by simp)]
      refine ab rfl rfl Tryz.func78 rfl Tryz.ntmps78 ⟨by simp,by simp[LK]⟩ ?_
      simp only[go_sem,Nat.reduceLT,reduceCtorEq,Nat.reduceEqDiff,Nat.reduceBEq,Nat.reduceAdd,Nat.reduceSub,Nat.reduceLeDiff,hr,h,ht,e1,e2,e3,hc,e4]
     ·rw[if_pos ⟨n1,n2,n3,rfl⟩]
      refine ab rfl rfl Tryz.func78 rfl Tryz.ntmps78 ⟨by simp,by simp[LK]⟩ ?_
      simp only[go_sem,Nat.reduceLT,reduceCtorEq,Nat.reduceEqDiff,Nat.reduceBEq,Nat.reduceAdd,Nat.reduceSub,Nat.reduceLeDiff,hr,h,ht,e1,e2,e3,hc,e4,hk]
theorem qQ (s:List UInt8) (l:List Val):k7 [s] l=(Sl.sign s l).map fun r=>(s,r):=by
 cases l with
 | nil=>rfl
 | cons v r =>
  obtain ⟨k,t,c⟩:=v
  have hs:Sl.am s (.mk k t c)=true↔k=1∧t=⟨7,s,0⟩:=by
   show ((k==1)&&decide (t=⟨7,s,0⟩))=true↔_
   simp
  unfold k7 Sl.sign
  simp only[List.any_cons,List.any_nil,Bool.or_false,beq_iff_eq]
  by_cases h:k=1∧t.kind=7∧t.n=0∧t.text=s
  ·obtain ⟨h1,h2,h3,h4⟩:=h
   have e:t=⟨7,s,0⟩:=by cases t;simp_all
   rw[if_pos ⟨h1,h2,h3,h4⟩,if_pos (hs.2 ⟨h1,e⟩),h4]
   rfl
  ·rw[if_neg h,if_neg fun x=>h (by obtain ⟨x1,x2⟩:=hs.1 x;rw[x2];exact ⟨x1,rfl,rfl,rfl⟩)]
   rfl
theorem fD {s:List UInt8} {l r:List Val} (hl:l.length≤90000000) (h:Sl.sign s l=some r):den K 78 [P0,L [[.str s]]] [rdB l]=some (.ret (T s) [rdB r]):=by
 have:=jg l [s] hl (by simp)
 unfold qR at this
 rw[qQ,h] at this
 exact this
theorem dG {s:List UInt8} {l:List Val} (hl:l.length≤90000000) (h:Sl.sign s l=none):den K 78 [P0,L [[.str s]]] [rdB l]=some (.ret (T []) [rdB l]):=by
 have:=jg l [s] hl (by simp)
 unfold qR at this
 rw[qQ,h] at this
 exact this
theorem qe (v:Val) (r:List Val):tokB 8 (v::r)=Sl.aa v:=by obtain ⟨k,t,c⟩:=v;rfl
abbrev tu (l:List Val) (w:Bool):St := { sl:=upd (upd bot 3 (B w)) 0 P0,bx:=upd nobox 100000 (some (rdB l)),nt:=9 }
noncomputable def rdblp:Code := .loop (au Tryz.f141 2)
theorem C5 (v:Val) (r:List Val) (w:Bool) (hl:r.length≤80000000) (hb:Sl.aa v=true) :
  exL K 141 rdblp (tu (v::r) w)=exL K 141 rdblp (tu r true):=by
 have ht:=cE (v::r) 8 (by rw[List.length_cons];omega)
 rw[qe,hb] at ht
 obtain ⟨k,t,c⟩:=v
 have hk:=dT k t c r (by omega)
 rw[eo] at hk
 simp only[rdB] at ht hk
 unfold rdblp
 conv in au _ _=>whnf
 conv in au _ _=>whnf
 conv in exL _ _ _ (tu (.mk k t c::r) w)=>rw[aD]
 simp only[go_sem,Nat.reduceLT,reduceCtorEq,Nat.reduceEqDiff,Nat.reduceBEq,Nat.reduceAdd,ht,hk]
 rw[aY]
 simp only[go_sem,reduceCtorEq,Nat.reduceEqDiff]
theorem yq (l:List Val) (w:Bool) (hl:l.length≤80000000) (hb:tokB 8 l=false) :
  Ends (exL K 141 rdblp (tu l w)) fun o S=>o = .exit 0∧S.nt=9∧S.sl 0=P0∧S.sl 3=B w∧S.bx 100000=some (rdB l):=by
 have ht:=cE l 8 (by omega)
 rw[hb] at ht
 simp only[rdB] at ht
 unfold rdblp
 conv in au _ _=>whnf
 rw[aD]
 simp only[go_sem,Nat.reduceLT,reduceCtorEq,Nat.reduceEqDiff,Nat.reduceBEq,Nat.reduceAdd,ht,aV]
theorem rV : ∀ (l:List Val) (w:Bool),l.length≤80000000→Ends (exL K 141 rdblp (tu l w)) fun o S=>o = .exit 0∧S.nt=9∧S.sl 0=P0∧S.sl 3=B (w||decide ((l.dropWhile Sl.aa).length<l.length))∧S.bx 100000=some (rdB (l.dropWhile Sl.aa))
 | [],w,hl=>by
  have:=yq [] w hl rfl
  simpa using this
 | v::r,w,hl=>by
  rw[List.length_cons] at hl
  cases hb:Sl.aa v with
  | true =>
   rw[C5 v r w (by omega) hb,List.dropWhile_cons,if_pos hb]
   have hlen:=(List.dropWhile_sublist Sl.aa (l:=r)).length_le
   have e:decide ((r.dropWhile Sl.aa).length<(v::r).length)=true:=decide_eq_true (by rw[List.length_cons];omega)
   rw[e,Bool.or_true]
   refine cX (rV r true (by omega)) fun o S q => ?_
   rw[Bool.true_or] at q
   exact q
  | false =>
   rw[List.dropWhile_cons,if_neg (by rw[hb];simp)]
   have:=yq (v::r) w (by rw[List.length_cons];omega) (by rw[qe,hb])
   simpa using this
theorem jv (l:List Val) (hl:l.length≤80000000):den K 141 [P0] [rdB l]=some (.ret (B (decide ((l.dropWhile Sl.aa).length<l.length))) [rdB (l.dropWhile Sl.aa)]):=by
 have hr:Tryz.f141.results = #[.tmp 2]:=rfl
 have h:=rV l false hl
 rw[Bool.false_or] at h
 unfold rdblp at h
 conv at h in au _ _=>whnf
 obtain ⟨o,S,w,rfl,hn,s0,s3,b1⟩:=h
 refine ab rfl rfl Tryz.func141 rfl Tryz.ntmps141 ⟨by simp,by simp[LK]⟩ ?_
 simp only[go_sem,Nat.reduceLT,Nat.reduceBEq]
 rw[aY]
 simp only[go_sem,reduceCtorEq,Nat.reduceEqDiff]
 erw [w]
 simp only[go_sem,Nat.reduceLT,Nat.reduceEqDiff,Nat.reduceBEq,Nat.reduceAdd,hr,hn,s3,b1]
def fh {α:Type} (enc:α→AV) (o:Option (α×List Val)) (r:Option Res):Prop:=match o with
 | some (x,m)=>r=some (.ret (enc x) [rdB m])
 | none => ∃ m,r=some (.pan cI [rdB m])
theorem fY (l:List Val) (hl:l.length≤80000000):fh T (Sl.name l) (den K 73 [P0] [rdB l]):=by
 have hr:Tryz.f73.results = #[.tmp 2]:=rfl
 have ht:=cE l 1 (by omega)
 unfold Sl.name
 cases hk:Sl.tokK 1 l with
 | none =>
  rw[cU hk] at ht
  have hm:=e7
  refine ⟨l,?_⟩
  simp only[rdB] at ht ⊢
  refine ab rfl rfl Tryz.func73 rfl Tryz.ntmps73 ⟨by simp,by simp[LK]⟩ ?_
  simp only[go_sem,Nat.reduceLT,reduceCtorEq,Nat.reduceEqDiff,Nat.reduceBEq,hr,ht,hm]
 | some t =>
  obtain ⟨e,c,r,rfl,h1⟩:=gK hk
  rw[e] at ht
  have hm:=dq
  have htk:=dT 1 t c r (by rw[List.length_cons] at hl;omega)
  rw[eo] at htk
  show den K 73 [P0] [rdB (.mk 1 t c::r)]=some (.ret (T t.text) [rdB r])
  simp only[rdB] at ht htk ⊢
  refine ab rfl rfl Tryz.func73 rfl Tryz.ntmps73 ⟨by simp,by simp[LK]⟩ ?_
  simp only[go_sem,Nat.reduceLT,reduceCtorEq,Nat.reduceEqDiff,Nat.reduceBEq,Nat.reduceAdd,Nat.reduceLeDiff,hr,ht,hm,htk]
theorem qX (l:List Val) (hl:l.length≤80000000):fh I (Sl.numP l) (den K 76 [P0] [rdB l]):=by
 have hr:Tryz.f76.results = #[.tmp 2]:=rfl
 have ht:=cE l 5 (by omega)
 unfold Sl.numP
 cases hk:Sl.tokK 5 l with
 | none =>
  rw[cU hk] at ht
  have hm:=e7
  refine ⟨l,?_⟩
  simp only[rdB] at ht ⊢
  refine ab rfl rfl Tryz.func76 rfl Tryz.ntmps76 ⟨by simp,by simp[LK]⟩ ?_
  simp only[go_sem,Nat.reduceLT,reduceCtorEq,Nat.reduceEqDiff,Nat.reduceBEq,hr,ht,hm]
 | some t =>
  obtain ⟨e,c,r,rfl,h1⟩:=gK hk
  rw[e] at ht
  have hx:=eL (.mk 1 t c::r) (by omega)
  have htk:=dT 1 t c r (by rw[List.length_cons] at hl;omega)
  rw[eo] at htk hx
  simp only
  by_cases hs:t.text=[]
  ·rw[if_pos hs]
   have hm:=dq
   have e0:(t.text==[])=true:=by rw[hs];rfl
   show den K 76 [P0] [rdB (.mk 1 t c::r)]=some (.ret (I t.n) [rdB r])
   simp only[rdB] at ht htk hx ⊢
   refine ab rfl rfl Tryz.func76 rfl Tryz.ntmps76 ⟨by simp,by simp[LK]⟩ ?_
   simp only[go_sem,Nat.reduceLT,reduceCtorEq,Nat.reduceEqDiff,Nat.reduceBEq,Nat.reduceAdd,Nat.reduceLeDiff,hr,ht,hm,hx,htk,e0]
  ·rw[if_neg hs]
   have hm:=e7
   have e0:(t.text==[])=false:=by rw[beq_eq_false_iff_ne];exact hs
   refine ⟨.mk 1 t c::r,?_⟩
   simp only[rdB] at ht htk hx ⊢
   refine ab rfl rfl Tryz.func76 rfl Tryz.ntmps76 ⟨by simp,by simp[LK]⟩ ?_
   simp only[go_sem,Nat.reduceLT,reduceCtorEq,Nat.reduceEqDiff,Nat.reduceBEq,Nat.reduceAdd,Nat.reduceLeDiff,hr,ht,hm,hx,e0]
end Go.Abs
namespace Go.Abs
namespace Sl
theorem lx {l r:List Val} {s:List UInt8} (h:name l=some (s,r)) : ∃ v,l=v::r:=by
 obtain ⟨t,c,e,_,_⟩:=Aw h
 exact ⟨_,e⟩
theorem qv {g:List Val→Option (Sim×List Val)} {l r:List Val} {x:Sim} (h:colon g l=some (x,r)) : ∃ v,l=v::r:=by
 unfold colon at h
 cases hv:ep 5 l with
 | some y =>
  obtain ⟨⟨t,c⟩,q⟩:=y
  have e:=lh hv
  rw[hv] at h
  simp only at h
  split at h
  ·rw[Option.map_eq_some_iff] at h
   obtain ⟨z,_,hz⟩:=h
   cases hz
   exact ⟨_,e⟩
  ·split at h
   ·split at h
    ·split at h
     ·cases h
     ·cases h
      exact ⟨_,e⟩
    ·cases h
   ·cases h
 | none =>
  rw[hv] at h
  simp only at h
  cases hn:name l with
  | some y =>
   obtain ⟨s,q⟩:=y
   rw[hn] at h
   simp only at h
   rw[Option.map_eq_some_iff] at h
   obtain ⟨z,_,hz⟩:=h
   cases hz
   exact lx hn
  | none=>rw[hn] at h;cases h
theorem oC : ∀ (f:Nat) (first:Bool) (l:List Val) (x:Sim) (r:List Val),simple f first l=some (x,r)→r.length<l.length ∧ ∃ p,l=p++r
 | 0,first,l,x,r,h=>by rw[simple] at h;cases h
 | f+1,first,l,x,r,h=>by
  have one:(∃ v,l=v::r)→r.length<l.length ∧ ∃ p,l=p++r:=by
   rintro ⟨v,rfl⟩
   exact ⟨by simp,[v],rfl⟩
  have two:(∃ v w,l=v::w::r)→r.length<l.length ∧ ∃ p,l=p++r:=by
   rintro ⟨v,w,rfl⟩
   exact ⟨by simp;omega,[v,w],rfl⟩
  have tok : ∀ {k:Int} {t:Tok},tokK k l=some t → ∃ v,l=v::l.tail:=fun {k t} ht=>by
   obtain ⟨c,m,e,_⟩:=vd ht
   rw[e];exact ⟨_,rfl⟩
  rw[simple] at h
  split at h
  ·rename_i t ht
   cases h
   cases first
   ·cases ht
   ·exact one (tok ht)
  split at h
  ·rename_i q hq
   cases h
   cases first
   ·cases hq
   ·obtain ⟨v,e,_⟩:=mu hq
    exact one ⟨v,e⟩
  split at h
  ·rename_i t ht
   cases h
   exact one (tok ht)
  split at h
  ·rename_i q hq
   obtain ⟨v,e,_⟩:=mu hq
   rw[Option.map_eq_some_iff] at h
   obtain ⟨⟨s,m⟩,hn,hz⟩:=h
   cases hz
   obtain ⟨w,e2⟩:=lx hn
   exact two ⟨v,w,by rw[e,e2]⟩
  split at h
  ·rename_i q hq
   obtain ⟨v,e,_⟩:=mu hq
   obtain ⟨w,e2⟩:=qv h
   exact two ⟨v,w,by rw[e,e2]⟩
  split at h
  ·rename_i y hy
   obtain ⟨⟨t,c⟩,q⟩:=y
   have e:=lh hy
   rw[Option.map_eq_some_iff] at h
   obtain ⟨z,_,hz⟩:=h
   cases hz
   exact one ⟨_,e⟩
  ·cases h
end Sl
end Go.Abs
set_option linter.unusedSimpArgs true
namespace Go.Abs
open Go Go.Proofs
theorem CW (s:List UInt8) (l:List Val) : ∀ q∈Sl.at_ s l,Ne.size q≤Ne.size l:=by
 rw[←sq];exact kN _ l
theorem Ai (s:List UInt8) (l:List Val):(Sl.at_ s l).length≤l.length+1:=by
 rw[←sq];exact Sl.lj _ l
end Go.Abs
namespace Go.Abs
namespace Sl
open Tk (cZ sep within digit begins at0 all)
def setC (c:Int):List Prt→List Prt
 | []=>[]
 | p::r=>⟨c,p.l⟩::r
theorem rX : ∀ (n:Nat) (c:Int) (l:List Val) (x:Cpx),cpx n c l=some x→(∀ n' c',x.parts.length≤n'→cpx n' c' l=some ⟨setC c' x.parts,x.pseudo⟩) ∧ ∀ n' c',n'<x.parts.length→cpx n' c' l=none
 | 0,_,_,_,h=>by rw[cpx] at h;cases h
 | n+1,c,l,x,h=>by
  rw[cpx] at h
  split at h
  ·cases h
  rename_i ps r hp
  by_cases hd:double r=true
  ·rw[if_pos hd] at h
   split at h
   ·rename_i s hs
    split at h
    ·rename_i hc
     cases h
     constructor
     ·intro n' c' hn
      cases n' with
      | zero=>simp at hn
      | succ n' =>
       rw[cpx,hp]
       simp only
       rw[if_pos hd,hs]
       simp only
       rw[if_pos hc];rfl
     ·intro n' c' hn
      have:n'=0:=by simp at hn;omega
      subst this
      rw[cpx]
    ·cases h
   ·cases h
  ·rw[if_neg hd] at h
   by_cases h8:8<ps.length∨ps=[]
   ·rw[if_pos h8] at h;cases h
   ·rw[if_neg h8] at h
    by_cases he:r.isEmpty=true
    ·rw[if_pos he] at h
     cases h
     constructor
     ·intro n' c' hn
      cases n' with
      | zero=>simp at hn
      | succ n' =>
       rw[cpx,hp]
       simp only
       rw[if_neg hd,if_neg h8,if_pos he];rfl
     ·intro n' c' hn
      have:n'=0:=by simp at hn;omega
      subst this
      rw[cpx]
    ·rw[if_neg he,Option.map_eq_some_iff] at h
     obtain ⟨y,hy,rfl⟩:=h
     obtain ⟨g1,g2⟩:=rX n _ _ _ hy
     have hne:=lQ _ _ _ _ hy
     constructor
     ·intro n' c' hn
      cases n' with
      | zero=>simp at hn
      | succ n' =>
       rw[cpx,hp]
       simp only
       rw[if_neg hd,if_neg h8,if_neg he,g1 n' (comb r).1 (by simpa using hn)]
       have:setC (comb r).1 y.parts=y.parts:=by
        cases hyp:y.parts with
        | nil=>exact absurd hyp hne
        | cons p q =>
         have h3:y.parts.head? = some p:=by rw[hyp];rfl
         have h4:=g1 n (comb r).1 (by
          rcases Nat.lt_or_ge n y.parts.length with hlt|hge
          ·rw[g2 n (comb r).1 hlt] at hy;cases hy
          ·exact hge)
         rw[hy] at h4
         have h5:=congrArg Cpx.parts (Option.some.inj h4)
         rw[hyp] at h5
         simpa using h5.symm
       rw[this];rfl
     ·intro n' c' hn
      cases n' with
      | zero=>rw[cpx]
      | succ n' =>
       rw[cpx,hp]
       simp only
       rw[if_neg hd,if_neg h8,if_neg he,g2 n' (comb r).1 (by simpa using hn)];rfl
def rtrim (l:List Val):List Val:=(l.reverse.dropWhile aa).reverse
theorem qM {m:List Val} (h:rtrim m≠[]) (p:List Val):rtrim (p++m)=p++rtrim m:=by
 unfold rtrim at h ⊢
 have h2:m.reverse.dropWhile aa≠[]:=fun e=>h (by rw[e];rfl)
 rw[List.reverse_append,List.dropWhile_append,if_neg (by simpa using h2),List.reverse_append,List.reverse_reverse]
theorem xb (l:List Val) : ∀ v∈l.takeWhile aa,aa v=true:=fun v hv=>by
 have:=List.all_takeWhile (p:=aa) (l:=l)
 exact List.all_eq_true.1 this v hv
theorem w6 {x:Val} (hx:aa x=false) (p:List Val) {m:List Val} (h:trim m≠[]) : ∃ b,(∀ v∈b,aa v=true)∧trim (x::p++m)=x::p++(b++trim m):=by
 have e1:trim m=rtrim (m.dropWhile aa):=rfl
 rw[e1] at h ⊢
 have e2:rtrim m=m.takeWhile aa++rtrim (m.dropWhile aa):=by
  conv=>lhs;rw[←List.takeWhile_append_dropWhile (p:=aa) (l:=m)]
  rw[qM h]
 have h3:rtrim m≠[]:=by
  rw[e2]
  exact fun e=>h (List.append_eq_nil_iff.1 e).2
 refine ⟨m.takeWhile aa,xb m,?_⟩
 rw[←e2,←qM h3]
 exact Fr.trim (yd hx)
theorem BA {n:Nat} {c:Int} {t:List Val} {x:Cpx} (h:cpx (n+1) c t=some x):over t=false:=by
 cases ho:over t with
 | false=>rfl
 | true =>
  exfalso
  rw[cpx,part,ho] at h
  simp only[Bool.true_or,if_true] at h
  have hd:double t=false:=by
   cases t with
   | nil=>rfl
   | cons v r =>
    cases r with
    | nil=>rfl
    | cons w r =>
     show (am [58] v&&am [58] w)=false
     have hv:am [58] v=false:=by
      obtain ⟨k,u,m⟩:=v
      have ho':(aa (.mk k u m)||am [62] (.mk k u m)||am [43] (.mk k u m)||am [126] (.mk k u m))=true:=ho
      cases hb:am [58] (.mk k u m) with
      | false=>rfl
      | true =>
       have:(k==1&&decide (u=⟨7,[58],0⟩))=true:=hb
       simp only[Bool.and_eq_true,beq_iff_eq,decide_eq_true_eq] at this
       obtain ⟨rfl,rfl⟩:=this
       simp[aa,am] at ho'
     rw[hv];rfl
  rw[hd] at h
  simp at h
theorem BS {t:List Val} (h:over t=false):Fr t∧t≠[]∧sign [62] t=none∧sign [43] t=none∧sign [126] t=none:=by
 cases t with
 | nil=>cases h
 | cons v r =>
  have h':(aa v||am [62] v||am [43] v||am [126] v)=false:=h
  simp only[Bool.or_eq_false_iff] at h'
  obtain ⟨⟨⟨h1,h2⟩,h3⟩,h4⟩:=h'
  refine ⟨yd h1,by simp,?_,?_,?_⟩
  ·show (if am [62] v then some r else none)=none
   rw[if_neg (by rw[h2];simp)]
  ·show (if am [43] v then some r else none)=none
   rw[if_neg (by rw[h3];simp)]
  ·show (if am [126] v then some r else none)=none
   rw[if_neg (by rw[h4];simp)]
theorem tZ {b t:List Val} (hb : ∀ v∈b,aa v=true) (ht:Fr t):(b++t).dropWhile aa=t:=by
 induction b with
 | nil=>exact ht.drop
 | cons v b ih =>
  rw[List.cons_append,List.dropWhile_cons,if_pos (hb v (by simp))]
  exact ih fun w hw=>hb w (by simp[hw])
def dw (c:Int):Val:=if c=1 then tv ⟨8,[10],0⟩ else if c=2 then dv 62 else if c=3 then dv 43 else dv 126
theorem FP {c:Int} (hc:1≤c∧c≤4) {b t:List Val} (hb : ∀ v∈b,aa v=true) (ht:over t=false):comb (dw c::(b++t))=(c,t):=by
 obtain ⟨h1,_,h3,h4,h5⟩:=BS ht
 have hd:=tZ hb h1
 have hc':c=1∨c=2∨c=3∨c=4:=by omega
 rcases hc' with rfl|rfl|rfl|rfl
 ·unfold comb
  have e:(dw 1::(b++t)).dropWhile aa=t:=by
   rw[List.dropWhile_cons,if_pos (by decide)]
   exact hd
  simp only[e,h3,h4,h5,h1.drop]
 ·unfold comb
  have e:(dw 2::(b++t)).dropWhile aa=dw 2::(b++t):=by
   rw[List.dropWhile_cons,if_neg (by decide)]
  have s:sign [62] (dw 2::(b++t))=some (b++t):=rfl
  simp only[e,s,hd]
 ·unfold comb
  have e:(dw 3::(b++t)).dropWhile aa=dw 3::(b++t):=by
   rw[List.dropWhile_cons,if_neg (by decide)]
  have s:sign [62] (dw 3::(b++t))=none:=rfl
  have s2:sign [43] (dw 3::(b++t))=some (b++t):=rfl
  simp only[e,s,s2,hd]
 ·unfold comb
  have e:(dw 4::(b++t)).dropWhile aa=dw 4::(b++t):=by
   rw[List.dropWhile_cons,if_neg (by decide)]
  have s:sign [62] (dw 4::(b++t))=none:=rfl
  have s2:sign [43] (dw 4::(b++t))=none:=rfl
  have s3:sign [126] (dw 4::(b++t))=some (b++t):=rfl
  simp only[e,s,s2,s3,hd]
theorem CN {c:Int} (hc:1≤c∧c≤4) (l:List Val):over (dw c::l)=true∧double (dw c::l)=false:=by
 have hc':c=1∨c=2∨c=3∨c=4:=by omega
 rcases hc' with rfl|rfl|rfl|rfl
 all_goals
  constructor
  ·rfl
  ·cases l<;>rfl
def abL:List Sim:=[.mk 2 [97] [] 0 0 [],.mk 4 [98] [] 0 0 []]
theorem EI:Gp abL:=by
 have ha:cZ [97]:=⟨rfl,by decide⟩
 have hb:cZ [98]:=⟨rfl,by decide⟩
 refine ⟨.tag _ ha (by decide),fun x hx => ?_⟩
 rw[List.mem_singleton] at hx
 subst hx
 exact ⟨.cls _ hb,by decide⟩
theorem Dt:gz abL=[iv [97],dv 46,iv [98]]:=rfl
theorem uf {c:Int} (hc:1≤c∧c≤4) {b t:List Val} (hb : ∀ v∈b,aa v=true) {x:Cpx} (h:parse t=some [x]) (ht:trim t=t)
  (htr:trim (iv [97]::[dv 46,iv [98],dw c]++(b++t))=iv [97]::[dv 46,iv [98],dw c]++(b++t)) :
  parse (iv [97]::[dv 46,iv [98],dw c]++(b++t))=if x.parts.length≤15 then some [⟨⟨0,abL⟩::setC c x.parts,x.pseudo⟩] else none:=by
 have hpp:=wJ h
 have hat:at_ [44] t=[t]:=qF (by rw[←hpp.1];rfl)
 have hcx:cpx 16 0 t=some x:=by
  unfold parse at h
  rw[hat,if_pos (show ([t]:List (List Val)).length≤32 by simp),all_cons,all_nil,ht] at h
  cases hcx:cpx 16 0 t with
  | none=>rw[hcx] at h;cases h
  | some y=>rw[hcx] at h;simp only[Option.some.injEq,List.cons.injEq,and_true] at h;rw[h]
 have hov:=BA hcx
 have hsg:c7 [44] (iv [97]::[dv 46,iv [98],dw c]++(b++t))=false:=by
  have h1:=(jb [44] t t (by rw[hat];simp)).2
  have h2:b.any (am [44])=false:=by
   rw[List.any_eq_false]
   intro v hv
   have hbv:=hb v hv
   intro hs
   rw[oS hs] at hbv
   cases hbv
  have h3:am [44] (dw c)=false:=by
   have hc':c=1∨c=2∨c=3∨c=4:=by omega
   rcases hc' with rfl|rfl|rfl|rfl<;>decide
  have h4:am [44] (iv [97])=false:=by decide
  have h5:am [44] (iv [98])=false:=by decide
  have h6:am [44] (dv 46)=false:=by decide
  unfold c7 at h1 ⊢
  simp only[List.cons_append,List.nil_append,List.any_cons,List.any_append,h1,h2,h3,h4,h5,h6,Bool.or_false]
 unfold parse
 rw[sn hsg,if_pos (show ([iv [97]::[dv 46,iv [98],dw c]++(b++t)]:List (List Val)).length≤32 by simp),all_cons,all_nil,htr]
 have e:iv [97]::[dv 46,iv [98],dw c]++(b++t)=gz abL++(dw c::(b++t)):=rfl
 rw[e,cpx,zF EI _ _ (by
  rw[List.length_append,Dt]
  simp only[List.length_cons,List.length_nil]
  show 2<_
  omega) (by rw[(CN hc _).1];rfl)]
 simp only
 rw[(CN hc _).2,if_neg (by simp),if_neg (by simp[abL]),if_neg (by simp),FP hc hb hov]
 simp only
 obtain ⟨g1,g2⟩:=rX _ _ _ _ hcx
 by_cases hl:x.parts.length≤15
 ·rw[g1 15 c hl,if_pos hl];rfl
 ·rw[g2 15 c (by omega),if_neg hl];rfl
theorem oP:Tk.blank 0=false:=by decide
theorem qq (s:List UInt8):Tk.blank (at0 (s.dropWhile Tk.blank))=false:=by
 cases h:s.dropWhile Tk.blank with
 | nil=>exact oP
 | cons c r =>
  show Tk.blank c=false
  have : ∀ (l:List UInt8) (c:UInt8) (r:List UInt8),l.dropWhile Tk.blank=c::r→Tk.blank c=false:=by
   intro l
   induction l with
   | nil=>intro c r h;cases h
   | cons x l ih =>
    intro c r h
    rw[List.dropWhile_cons] at h
    split at h
    ·exact ih c r h
    ·rename_i hx
     cases h
     simpa using hx
  exact this s c r h
theorem pW (s:List UInt8):all s=(if s.takeWhile Tk.blank=[] then [] else [⟨8,[10],0⟩])++all (s.dropWhile Tk.blank):=by
 by_cases h:s.takeWhile Tk.blank=[]
 ·have e:=List.takeWhile_append_dropWhile (p:=Tk.blank) (l:=s)
  rw[h,List.nil_append] at e
  rw[if_pos h,e];rfl
 ·rw[if_neg h]
  conv=>lhs;rw[←List.takeWhile_append_dropWhile (p:=Tk.blank) (l:=s)]
  rw[Tk.vp h (fun b hb=>List.all_eq_true.1 List.all_takeWhile b hb) (qq s)];rfl
def wv:Val:=tv ⟨8,[10],0⟩
theorem sI:Ne.good 0 [wv]=true∧Ne.depth [wv]=0∧Ne.flat [wv]=[⟨8,[10],0⟩]:=⟨rfl,rfl,rfl⟩
theorem r8 {s:List UInt8} {vs:List Val} (h:Ne.parse 60 (all s)=some vs) : ∃ ws,Ne.parse 60 (all (s.dropWhile Tk.blank))=some ws∧trim ws=trim vs:=by
 rw[pW] at h
 by_cases hb:s.takeWhile Tk.blank=[]
 ·rw[if_pos hb,List.nil_append] at h
  exact ⟨vs,h,rfl⟩
 ·rw[if_neg hb,←sI.2.2,Ne.qO sI.1 (by rw[sI.2.1];omega),Option.map_eq_some_iff] at h
  obtain ⟨ws,h1,rfl⟩:=h
  exact ⟨ws,h1,(zp (v:=wv) rfl ws).symm⟩
def E0 (c:Int):UInt8:=if c=1 then 32 else if c=2 then 62 else if c=3 then 43 else 126
def pi (c:Int) (s:List UInt8):List UInt8:=97::46::98::E0 c::s
theorem vx {c:Int} (hc:1≤c∧c≤4) {s:List UInt8} {vs:List Val} (h:Ne.parse 60 (all s)=some vs) : ∃ ws,Ne.parse 60 (all (pi c s))=some (iv [97]::[dv 46,iv [98],dw c]++ws)∧trim ws=trim vs:=by
 have ha:cZ [97]:=⟨rfl,by decide⟩
 have hb:cZ [98]:=⟨rfl,by decide⟩
 have two : ∀ {y:List UInt8},jV y→all (97::46::98::y)=⟨1,[97],0⟩::⟨7,[46],0⟩::⟨1,[98],0⟩::all y:=fun {y} hy=>by
  have h1:=qI ha (n46 (98::y))
  have h2:=qI hb hy
  show all ([97]++46::98::y)=_
  rw[h1,a46]
  show _::_::all ([98]++y)=_
  rw[h2]
 have fin : ∀ {y:List UInt8} {ws:List Val},all (pi c s)=Ne.flat (iv [97]::[dv 46,iv [98],dw c])++all y→Ne.parse 60 (all y)=some ws→Ne.parse 60 (all (pi c s))=some (iv [97]::[dv 46,iv [98],dw c]++ws):=fun {y ws} e hw=>by
  have hg:Ne.good 0 (iv [97]::[dv 46,iv [98],dw c])=true∧Ne.depth (iv [97]::[dv 46,iv [98],dw c])=0:=by
   have hc':c=1∨c=2∨c=3∨c=4:=by omega
   rcases hc' with rfl|rfl|rfl|rfl<;>exact ⟨rfl,rfl⟩
  rw[e,Ne.qO hg.1 (by rw[hg.2];omega),hw];rfl
 have hc':c=1∨c=2∨c=3∨c=4:=by omega
 rcases hc' with rfl|rfl|rfl|rfl
 ·obtain ⟨ws,h1,h2⟩:=r8 h
  refine ⟨ws,fin ?_ h1,h2⟩
  have e32:all (32::s)=⟨8,[10],0⟩::all (s.dropWhile Tk.blank):=by
   rw[pW (32::s)]
   have e1:(32::s).takeWhile Tk.blank≠[]:=by
    rw[List.takeWhile_cons,if_pos (by decide)];simp
   have e2:(32::s).dropWhile Tk.blank=s.dropWhile Tk.blank:=by
    rw[List.dropWhile_cons,if_pos (by decide)]
   rw[if_neg e1,e2];rfl
  show all (97::46::98::32::s)=_
  rw[two (sc s),e32];rfl
 ·refine ⟨vs,fin ?_ h,rfl⟩
  show all (97::46::98::62::s)=_
  rw[two (n62 s),a62];rfl
 ·refine ⟨vs,fin ?_ h,rfl⟩
  show all (97::46::98::43::s)=_
  rw[two (n43 s),a43];rfl
 ·refine ⟨vs,fin ?_ h,rfl⟩
  show all (97::46::98::126::s)=_
  rw[two (n126 s),a126];rfl
theorem wT {c:Int} (hc:1≤c∧c≤4) {s:List UInt8} {x:Cpx} (h:read s=some [x]):read (pi c s)=if x.parts.length≤15 then some [⟨⟨0,abL⟩::setC c x.parts,x.pseudo⟩] else none:=by
 unfold read at h
 rw[Option.bind_eq_some_iff] at h
 obtain ⟨vs,hv,hp⟩:=h
 obtain ⟨ws,hw,ht⟩:=vx hc hv
 have hne:trim ws≠[]:=by
  rw[ht]
  intro e
  rw[e] at hp
  have:parse []=none:=by decide
  rw[this] at hp
  cases hp
 obtain ⟨b,hb,htr⟩:=w6 (x:=iv [97]) (Ca _) [dv 46,iv [98],dw c] hne
 unfold read
 rw[hw]
 show parse (trim (iv [97]::[dv 46,iv [98],dw c]++ws))=_
 rw[htr]
 have htt:=rf (iv [97]::[dv 46,iv [98],dw c]++ws)
 rw[htr] at htt
 exact uf hc hb (by rw[ht];exact hp) (rf ws) htt
end Sl
end Go.Abs
namespace Go.Abs
open Go Go.Proofs Go.ChangeShapes Go.WideShapes Go.ChangeAt Go.RowKit
def TyP (P:Program):Nat→TypeId→List PV→Prop
 | 0,_,_=>False
 | n+1,t,ps =>
  match P.underlying t with
  | some .bool => ∃ b,ps=[.bool b]
  | some (.int k) => ∃ z,ps=[.int k z]∧(Lit.int k z).wf=true
  | some .string => ∃ s,ps=[.str s]∧s.length≤reachBytes
  | some (.slice e) => ∃ c,ps=[.sl c]∧c.length≤reachBytes ∧ ∀ el∈c,TyP P n e el
  | some (.struct fs)=>ps.length=P.cellsOf t ∧ ∀ (i:Nat) (f:Field),fs[i]? = some f→TyP P n f.type ((ps.drop f.offset).take (P.cellsOf f.type))
  | _=>False
def oA (P:Program) (L:List TypeId):Bool:=L.all fun t=>decide (t<P.types.size) &&
 match P.underlying t with
 | some .bool|some (.int _)|some .string=>P.cellsOf t==1
 | some (.slice e)=>L.contains e&&decide (0<P.cellsOf e)&&decide (0<P.bytesOf e)&&P.cellsOf t==1
 | some (.struct fs)=>fs.toList.all fun f=>L.contains f.type
 | _=>false
section
variable {H:Type} {enc:TypeId×Value→H} {P:Program} {w:World}
theorem C0 {base n:Nat} {a:Addr} {cs:List Value} (h:w.cells? base a n=some cs):cs.length=n ∧ ∀ (k:Nat) (y:Value),cs[k]? = some y→w.cell? (a.add k)=some y:=by
 unfold World.cells? at h
 split at h
 case isFalse=>cases h
 have hl:cs.length=n:=by simpa using mapM_some_length h
 refine ⟨hl,fun k y hk => ?_⟩
 have hlt:k<n:=by have:=(List.getElem?_eq_some_iff.1 hk).1;omega
 have:=mapM_some_get h k k (by simp[hlt])
 rw[this,hk]
theorem DT (b o m j:Nat):((⟨b,o,none⟩:Addr).add m).add j=⟨b,o+(m+j),none⟩:=by
 simp only[Addr.add]
 split<;>split<;>simp_all [Nat.add_assoc]
theorem zt {a:Addr} {y:Value} (h:w.cell? a=some y):a=⟨a.block,a.off,none⟩:=by
 unfold World.cell? at h
 cases a with
 | mk b o s =>
  cases s with
  | none=>rfl
  | some k=>simp at h;split at h<;>simp at h
theorem uG {I:Nat→Nat→Option Value} {n:Nat} : ∀ (fs:List Field) (k:Nat) (cs:List Value),(∀ (j:Nat) (f:Field),fs[j]? = some f→f.offset=k+((fs.take j).map fun f=>P.cellsOf f.type).sum) →
  (∀ f∈fs, ∃ ps,TyP P n f.type ps∧All2 (RP I) ps ((cs.drop f.offset).take (P.cellsOf f.type))∧ps.length=P.cellsOf f.type)→cs.length=k+(fs.map fun f=>P.cellsOf f.type).sum →
  ∃ ps,ps.length=(fs.map fun f=>P.cellsOf f.type).sum∧All2 (RP I) ps (cs.drop k) ∧ ∀ (j:Nat) (f:Field),fs[j]? = some f→TyP P n f.type ((ps.drop (f.offset - k)).take (P.cellsOf f.type))
 | [],k,cs,_,_,hl=>⟨[],rfl,by rw[List.drop_eq_nil_of_le (by simp at hl;omega)];exact .nil,fun j f h=>by simp at h⟩
 | f::fs,k,cs,ho,hf,hl=>by
  have ho0:=ho 0 f rfl
  simp at ho0
  obtain ⟨p0,h1,h2,h3⟩:=hf f (by simp)
  simp only[List.map_cons,List.sum_cons] at hl
  obtain ⟨ps,h4,h5,h6⟩:=uG fs (k+P.cellsOf f.type) cs (fun j g hg=>by
   have:=ho (j+1) g (by simpa using hg)
   simp only[List.take_succ_cons,List.map_cons,List.sum_cons] at this
   omega) (fun g hg=>hf g (by simp[hg])) (by omega)
  refine ⟨p0++ps,by simp[h3,h4],?_,fun j g hg => ?_⟩
  ·rw[ho0] at h2
   have:cs.drop k=(cs.drop k).take (P.cellsOf f.type)++cs.drop (k+P.cellsOf f.type):=by
    rw[←List.drop_drop,List.take_append_drop]
   rw[this]
   exact h2.append h5
  ·cases j with
   | zero =>
    simp at hg
    subst hg
    rw[ho0,Nat.sub_self,List.drop_zero,List.take_left' h3]
    exact h1
   | succ j =>
    have hg':fs[j]? = some g:=by simpa using hg
    have:=h6 j g hg'
    have hoj:=ho (j+1) g hg
    simp only[List.take_succ_cons,List.map_cons,List.sum_cons] at hoj
    have hle:k+P.cellsOf f.type≤g.offset:=by omega
    rw[List.drop_append,List.drop_eq_nil_of_le (by omega),List.nil_append,h3]
    rw[show g.offset - k - P.cellsOf f.type=g.offset - (k+P.cellsOf f.type) by omega]
    exact this
theorem m9 {e:TypeId} : ∀ {l:List (DataW H)} {d:DataW H},d∈l → ∀ n∈d.weights P e,n∈DataW.weightsAll P e l
 | d'::l,d,h,n,hn=>by
  unfold DataW.weightsAll
  rw[List.mem_append]
  rcases List.mem_cons.1 h with rfl|h
  ·exact .inl hn
  ·exact .inr (m9 h n hn)
theorem sh : ∀ {ts:List TypeId} {ds:List (DataW H)} {j:Nat} {t:TypeId} {d:DataW H},ts[j]? = some t→ds[j]? = some d → ∀ n∈d.weights P t,n∈DataW.weightsEach P ts ds:=DataW.weights_mem_each
theorem Er {I:Nat→Nat→Option Value} (hI : ∀ b o y,w.cell? ⟨b,o,none⟩=some y→I b o=some y) (K0:Kids P (· < P.types.size)) {L:List TypeId} (hL:oA P L=true) {base:Nat} {sp:Nat→Bool} {held:Bool} :
  ∀ (n:Nat) (t:TypeId) (cs:List Value) (x:DataW H×List MemPlace),DataW.trod enc P w base sp held n t cs=some x→t∈L→(∀ m∈x.1.weights P t,m≤reachBytes) → ∃ ps,TyP P n t ps∧All2 (RP I) ps cs∧ps.length=P.cellsOf t:=by
 intro n
 induction n with
 | zero=>intro t cs x h;simp[DataW.trod] at h
 | succ n ih =>
  intro t cs x h ht hw
  have hLt:=List.all_eq_true.1 hL t ht
  simp only[Bool.and_eq_true,decide_eq_true_eq] at hLt
  obtain ⟨hlt,hLt⟩:=hLt
  unfold TyP
  split at hLt
  ·rename_i hu
   obtain ⟨b,rfl,rfl⟩:=DataW.trod_bool hu h
   exact ⟨[.bool b],⟨b,rfl⟩,.cons (.bool b) .nil,(by simpa using hLt:P.cellsOf t=1).symm⟩
  ·rename_i k hu
   obtain ⟨z,rfl,rfl,hwf⟩:=DataW.trod_int hu h
   exact ⟨[.int k z],⟨z,rfl,hwf⟩,.cons (.int k z) .nil,(by simpa using hLt:P.cellsOf t=1).symm⟩
  ·rename_i hu
   obtain ⟨s,rfl,rfl,hsz⟩:=DataW.trod_string hu h
   refine ⟨[.str s.data.toList],⟨_,rfl,hw _ (by simp[DataW.weights])⟩,.cons ?_ .nil,(by simpa using hLt:P.cellsOf t=1).symm⟩
   exact .str _
  ·rename_i e hu
   simp only[Bool.and_eq_true,decide_eq_true_eq] at hLt
   obtain ⟨⟨⟨he,hpos⟩,hby⟩,hc1⟩:=hLt
   have hc1:P.cellsOf t=1:=by simpa using hc1
   rcases DataW.trod_slice hu h with ⟨rfl,rfl⟩|⟨a,len,cap,elems,rest,m,hfuel,rfl,rfl,_,hlc,_,hel,hget,_,_⟩
   ·exact ⟨[.sl []],⟨[],rfl,by simp,by simp⟩,.cons (.sl0 none 0) .nil,hc1.symm⟩
   ·have hm:m=n:=by omega
    subst hm
    have hwt : ∀ m∈(elems.length+rest.length)*P.bytesOf e::(DataW.weightsAll P e (elems.map (·.1))++DataW.weightsAll P e (rest.map (·.1))),m≤reachBytes:=by
     have:DataW.weights P t (DataW.slice (elems.map (·.1)) (rest.map (·.1)))=(elems.length+rest.length)*P.bytesOf e::(DataW.weightsAll P e (elems.map (·.1))++DataW.weightsAll P e (rest.map (·.1))):=by
      simp[DataW.weights,hu]
     rw[←this];exact hw
    have hlenb:len≤reachBytes:=by
     have h1:=hwt _ (List.mem_cons_self ..)
     have h2:(elems.length+rest.length)*1≤(elems.length+rest.length)*P.bytesOf e:=Nat.mul_le_mul_left _ hby
     omega
    have hone : ∀ i,i<len → ∃ ps,TyP P m e ps∧ps.length=P.cellsOf e ∧ ∀ (j:Nat) (p:PV),ps[j]? = some p → ∃ y,w.cell? ((a.add (i*P.cellsOf e)).add j)=some y∧RP I p y:=by
     intro i hi
     have hg:=hget i hi
     have hsome : ∃ y,elems[i]? = some y:=⟨elems[i]'(by omega),by simp[hel,hi]⟩
     obtain ⟨y,hy⟩:=hsome
     rw[hy,Option.bind_eq_some_iff] at hg
     obtain ⟨cs',hcs,htr⟩:=hg
     obtain ⟨ps,h1,h2,h3⟩:=ih e cs' y htr (by simpa using he) fun q hq=>hwt q (List.mem_cons_of_mem _ (List.mem_append_left _ (m9 (List.mem_map.2 ⟨y,List.mem_of_getElem? hy,rfl⟩) q hq)))
     obtain ⟨h4,h5⟩:=C0 hcs
     refine ⟨ps,h1,h3,fun j p hj => ?_⟩
     obtain ⟨z,hz,hr⟩:=h2.get hj
     exact ⟨z,h5 j z hz,hr⟩
    obtain ⟨g,hg⟩ : ∃ g:Nat→List PV, ∀ i,i<len→TyP P m e (g i)∧(g i).length=P.cellsOf e ∧ ∀ (j:Nat) (p:PV),(g i)[j]? = some p → ∃ y,w.cell? ((a.add (i*P.cellsOf e)).add j)=some y∧RP I p y:=by
     refine ⟨fun i=>if hi:i<len then (hone i hi).choose else [],fun i hi => ?_⟩
     simp only[dif_pos hi]
     exact (hone i hi).choose_spec
    have hcget : ∀ (i:Nat) (el:List PV),((List.range len).map g)[i]? = some el→i<len∧el=g i:=fun i el hi=>by
     have hlt':=(List.getElem?_eq_some_iff.1 hi).1
     simp at hlt'
     rw[List.getElem?_map,List.getElem?_range hlt'] at hi
     simp at hi
     exact ⟨hlt',hi.symm⟩
    refine ⟨[.sl ((List.range len).map g)],⟨_,rfl,by simpa using hlenb,fun el hel' => ?_⟩,.cons ?_ .nil,hc1.symm⟩
    ·obtain ⟨i,hi,rfl⟩:=List.mem_map.1 hel'
     exact (hg i (by simpa using hi)).1
    ·by_cases h0:len=0
     ·subst h0
      exact .sl0 _ _
     ·obtain ⟨p0,hp0⟩ : ∃ p,(g 0)[0]? = some p:=⟨(g 0)[0]'(by rw[(hg 0 (by omega)).2.1];exact hpos),by simp⟩
      obtain ⟨y0,hy0,_⟩:=(hg 0 (by omega)).2.2 0 p0 hp0
      have hadd0:(a.add (0*P.cellsOf e)).add 0=a:=by simp[Addr.add]
      rw[hadd0] at hy0
      have ha:=zt hy0
      have:=RP.of_seg (I:=I) (c:=(List.range len).map g) (b:=a.block) (o:=a.off) (cap:=cap) (sz:=P.cellsOf e) (by simpa using hlc) (fun el hel'=>by
       obtain ⟨i,hi,rfl⟩:=List.mem_map.1 hel'
       exact (hg i (by simpa using hi)).2.1) (fun i el j p hi hj=>by
       obtain ⟨hlt',rfl⟩:=hcget i el hi
       obtain ⟨y,h1,h2⟩:=(hg i hlt').2.2 j p hj
       refine ⟨y,hI _ _ _ ?_,h2⟩
       have hadd:(a.add (i*P.cellsOf e)).add j=⟨a.block,a.off+(i*P.cellsOf e+j),none⟩:=by
        have:=DT a.block a.off (i*P.cellsOf e) j
        rw[←ha] at this;exact this
       rw[hadd] at h1
       exact h1)
      rw[←ha] at this
      simpa using this
  ·rename_i fs hu
   obtain ⟨xs,m,hfuel,rfl,hcl,hxl,hget⟩:=DataW.trod_struct hu h
   have hm:m=n:=by omega
   subst hm
   obtain ⟨hf1,hf2,hf3⟩:=K0.struct hlt hu
   have hwt : ∀ m∈DataW.weightsEach P (fs.toList.map (·.type)) (xs.map (·.1)),m≤reachBytes:=by
    have:DataW.weights P t (DataW.agg (xs.map (·.1)))=DataW.weightsEach P (fs.toList.map (·.type)) (xs.map (·.1)):=by
     rw[DataW.weights,hu]
    rw[←this];exact hw
   obtain ⟨ps,h1,h2,h3⟩:=uG (P:=P) (I:=I) (n:=m) fs.toList 0 cs (fun j f hj=>by rw[hf3 j f hj];omega) (fun f hf=>by
    obtain ⟨i,hi⟩:=List.mem_iff_getElem?.1 hf
    have hi':fs[i]? = some f:=by simpa using hi
    have hg:=hget i f hi'
    have hlt':i<fs.size:=(Array.getElem?_eq_some_iff.1 hi').1
    obtain ⟨y,hy⟩ : ∃ y,xs[i]? = some y:=⟨xs[i]'(by omega),by simp[hxl,hlt']⟩
    rw[hy] at hg
    exact ih f.type _ y hg (by simpa using List.all_eq_true.1 hLt f hf) fun q hq=>hwt q (sh (j:=i) (t:=f.type) (d:=y.1) (by simp[hi']) (by simp[hy]) q hq)) (by rw[hcl,hf2];omega)
   refine ⟨ps,⟨by rw[h1,hf2],fun i f hi => ?_⟩,by simpa using h2,by rw[h1,hf2]⟩
   have:=h3 i f (by simpa using hi)
   simpa using this
  ·cases hLt
def jU (P:Program) (t:TypeId) (ps:List PV):AV :=
 match P.underlying t with
 | some (.struct _) => .agg (ps.map CV.pv)
 | _=>match ps with
  | [p] => .c (.pv p)
  | _ => .c .top
theorem Fk {r:Reach} {base:Nat} {t:TypeId} {v:Value} (h:Value.okWide P w r base t v) (hs:(∀ fs,P.underlying t≠some (.struct fs)) ∧ ∀ n e,P.underlying t≠some (.array n e)):v.cells = #[v]:=by
 unfold Value.okWide at h
 split at h
 ·exact absurd ‹_› (hs.1 _)
 ·exact absurd ‹_› (hs.2 _ _)
 ·cases v<;>first|rfl|(unfold Cell.okWide Cell.ok at h;split at h<;>simp_all)
theorem tN {f:Func} {s:ChangeSpec} {apart fresh handsOn again:Bool} {W W':World} {args:Array Value} {v:Value} {ds gs:List (DataW H)} {before pa pv:List MemPlace}
  (hW:DataW.Whole enc P f.params.toList s.vars apart W args.toList ds gs before)
  (hres : ∀ (b:Nat) (sp:Nat→Bool) (hd:Bool),DataW.TrodAll enc P W' b sp hd f.resultTypes.toList (v.resultList f.resultTypes.size) (s.fn H (ds++gs)).results [])
  (hargs : ∀ sp:Nat→Bool,(∀ p∈before,sp p.block=true)→DataW.TrodAll enc P W' 0 sp true f.params.toList args.toList (s.fn H (ds++gs)).args pa)
  (hvars : ∀ sp:Nat→Bool,(∀ p∈before,sp p.block=true)→DataW.TrodVars enc P W' sp s.vars (s.fn H (ds++gs)).vars pv)
  (hps:before=pa++pv) (hk:W.keptBut W' (· ∈ before)) (hfz : ∀ a:Addr,a.block<W.heap.size→W'.frozen? a=W.frozen? a)
  (hok : ∀ (j:Nat) (t:TypeId) (r:Value),f.resultTypes[j]? = some t→(v.resultList f.resultTypes.size)[j]? = some r→Value.okWide P W' .any 0 t r) :
  s.post enc P f apart fresh handsOn again W args v W':=by
 have hold : ∀ p∈before,(fun b=>decide (b<W.heap.size)) p.block=true:=fun p hp=>by simpa using hW.lt p hp
 have hlt:=fun p hp=>hW.lt p hp
 refine ⟨ds,gs,before,[],pa,pv,hW,hres _ _ _,hargs _ hold,hvars _ hold,World.keptBut_mono (fun p hp=>⟨hp,?_⟩) hk,fun _ => ?_⟩
 ·rw[hps,List.mem_append] at hp
  exact Or.inr hp
 ·obtain ⟨_,_,_,_,_,hz,hn⟩:=hW
  refine ⟨hok,_,_,([]++pa)++pv,⟨[]++pa,pv,trodAll_append (hargs _ (fun _ _=>rfl)) (hres _ _ _),hvars _ (fun _ _=>rfl),rfl,?_,?_⟩,?_⟩
  ·intro b off hp
   have hp':MemPlace.cell b off∈before:=by rw[hps];simpa using hp
   rw[hfz _ (hlt _ hp')]
   exact hz b off hp'
  ·intro ha
   have:=hn ha
   rw[hps] at this
   simpa using this
  ·intro p hp _
   rw[hps]
   simpa using hp
def pE (w:World):Gh := { I:=fun b o=>w.cell? ⟨b,o,none⟩,bb:=fun _=>none,ow:=fun _=>none }
theorem F6 (h:TabOK (pE w) w):WI (pE w) w :=
 ⟨fun _ _ _ h=>h,fun b hb=>⟨fun o=>by
  show w.cell? ⟨b,o,none⟩=none
  unfold World.cell?
  have:w.heap[b]? = none:=Array.getElem?_eq_none hb
  simp[this],rfl⟩,fun _ _ h=>(by cases h),fun _ _ h=>(by cases h),h⟩
theorem pI {W W':World} (hos:W'.os=W.os) (hout:W'.output=W.output) (h : ∀ b,b<W.heap.size→W'.heap[b]? = W.heap[b]?) (may:MemPlace→Prop):W.keptBut W' may:=by
 refine ⟨hos,hout,fun i hi => ?_⟩
 rw[h i hi]
 split
 ·rename_i h1 h2;rw[h1] at h2;cases h2;exact ⟨rfl,rfl,rfl,fun _ _=>rfl⟩
 ·rename_i h1 h2;rw[h1] at h2;cases h2;exact .inr ⟨rfl,rfl⟩
 ·rfl
end
theorem kids:Kids Tryz.prog (· < Tryz.prog.types.size):=kids_rows (by kernel_rfl) (by kernel_rfl)
theorem ul : ∀ t e,t<Tryz.prog.types.size→Tryz.prog.underlying t=some (.slice e)→0<Tryz.prog.cellsOf e:=slices_full_of _ (by kernel_rfl)
theorem vf {w:World} : ∀ {l:List (String×DataW Unit)} {ps:List MemPlace},DataW.LaidVars Tryz.prog w l ps → ∀ {n:String} {d:DataW Unit},(n,d)∈l →
  ∃ g t cs fuel p,Tryz.prog.globalNamed n=some g∧(Tryz.prog.globals[g]?).map (·.type)=some t∧w.var? Tryz.prog n=some cs∧DataW.trod (fun _=>()) Tryz.prog w 0 (fun _=>true) false fuel t cs.toList=some (d,p)
 | [],_,_,n,d,hm=>by simp at hm
 | (m,e)::l,ps,h,n,d,hm=>by
  obtain ⟨g,t,cs,fuel,p,q,h1,h2,h3,h4,h5,_⟩:=h
  rcases List.mem_cons.1 hm with h|h
  ·cases h;exact ⟨g,t,cs,fuel,p,h1,h2,h3,h4⟩
  ·exact vf h5 h
set_option maxRecDepth 100000 in
theorem FC {W : World} {laid : List (String × DataW Unit)} (hL : laidMet Tryz.prog laid W) (hm : ("internal/strconv.uint64pow10", Go.Proofs.YtlomcifkckgneaaGreatDoor.Rows.laid_internal_strconv_uint64pow10) ∈ laid) (hsh : W.ShapedOpen Tryz.prog) : TabOK (pE W) W := by
 refine ⟨fun x hx=>⟨rfl,?_⟩,fun b hb=>⟨rfl,?_⟩⟩
 ·simp only[tabs,List.mem_cons,List.not_mem_nil,or_false] at hx
  subst hx
  obtain ⟨ps,hl,_⟩:=hL
  obtain ⟨g,t,cs,fuel,p,h1,h2,h3,h4⟩:=vf hl hm
  have hg : g = 3 := Option.some.inj (h1.symm.trans (show Tryz.prog.globalNamed "internal/strconv.uint64pow10" = some 3 by kernel_rfl))
  subst hg
  have ht:t=230:=Option.some.inj (h2.symm.trans (show (Tryz.prog.globals[3]?).map (·.type)=some 230 by kernel_rfl))
  subst ht
  have hcs:=Lib.cells_of_tab (k := .u64) (zs:=(List.range 20).map fun i=>((10 ^ i:Nat):Int)) (n:=20) (e:=214) (by kernel_rfl) (by kernel_rfl) (by kernel_rfl) (by kernel_rfl) (h:=h4)
  simp only[World.var?,h1,Option.bind_some] at h3
  split at h3
  ·rename_i cs' ty fz hh
   cases h3
   refine ⟨ty,fz,hh.trans ?_⟩
   have:cs=cs.toList.toArray:=by simp
   rw[this,hcs]
   simp
  ·cases h3
 ·simp only[ints,List.mem_cons,List.not_mem_nil,or_false] at hb
  subst hb
  obtain ⟨cs,hh,hs,hr⟩:=hsh.1 2 #[.int .i64 0] 3 (of_decide_eq_true (by kernel_rfl)) (by kernel_rfl)
  obtain ⟨ts,hts,_,hall⟩:=hr (by kernel_rfl)
  have hct:Tryz.prog.cellTypes Tryz.prog.depth 3=some [3]:=by kernel_rfl
  have hts':ts=[3]:=Option.some.inj (hts.symm.trans hct)
  subst hts'
  have h1:0<cs.size:=by rw[hs];simp
  obtain ⟨u,hu',hok⟩:=hall 0 cs[0] (by simp[h1])
  have hu0:u=3:=by simpa using hu'.symm
  subst hu0
  unfold Cell.ok at hok
  rw[show Tryz.prog.underlying 3=some (.int .i64) by kernel_rfl] at hok
  cases hv:cs[0] with
  | int k m =>
   rw[hv] at hok
   obtain ⟨rfl,_⟩:=hok
   exact ⟨m,cs,3,_,hh,by simp[h1,hv]⟩
  | _=>rw[hv] at hok;simp at hok
section
variable {H:Type} {enc:TypeId×Value→H}
set_option maxRecDepth 100000 in
theorem xU {W:World} {base:Nat} {L:List TypeId} (hL:oA Tryz.prog L=true) : ∀ {ts:List TypeId} {vs:List Value} {ds:List (DataW H)} {ps:List MemPlace},DataW.TrodAll enc Tryz.prog W 0 (fun _=>true) true ts vs ds ps→(∀ t∈ts,t∈L) →
  (∀ (j:Nat) (t:TypeId) (v:Value),ts[j]? = some t→vs[j]? = some v→Value.okWide Tryz.prog W .any base t v)→(∀ m∈DataW.weightsEach Tryz.prog ts ds,m≤reachBytes) →
  ∃ pss:List (List PV),All2 (fun t p => ∃ n,TyP Tryz.prog n t p) ts pss∧All2 (fun v x=>RA (pE W) W .ret v x) (List.zipWith (jU Tryz.prog) ts pss) vs ∧ ∀ v∈List.zipWith (jU Tryz.prog) ts pss,bO v=false
 | [],[],[],_,_,_,_,_=>⟨[],.nil,.nil,by simp⟩
 | t::ts,v::vs,d::ds,ps,h,hts,hval,hw=>by
  obtain ⟨p,q,⟨n,h1⟩,h2,_⟩:=h
  have hw1 : ∀ m∈d.weights Tryz.prog t,m≤reachBytes:=fun m hm=>hw m (by unfold DataW.weightsEach;exact List.mem_append_left _ hm)
  have hw2 : ∀ m∈DataW.weightsEach Tryz.prog ts ds,m≤reachBytes:=fun m hm=>hw m (by unfold DataW.weightsEach;exact List.mem_append_right _ hm)
  have hv2 : ∀ (j:Nat) (u:TypeId) (x:Value),ts[j]? = some u→vs[j]? = some x→Value.okWide Tryz.prog W .any base u x:=by
   intro j u x hj hx
   refine hval (j+1) u x ?_ ?_
   ·rw[List.getElem?_cons_succ];exact hj
   ·rw[List.getElem?_cons_succ];exact hx
  obtain ⟨pss,h3,h4,h5⟩:=xU hL h2 (fun u hu=>hts u (List.mem_cons_of_mem _ hu)) hv2 hw2
  obtain ⟨pv,h6,h7,h8⟩:=Er (w:=W) (I:=(pE W).I) (fun _ _ _ h=>h) kids hL n t _ _ h1 (hts t (by simp)) hw1
  have hok:=hval 0 t v rfl rfl
  have key:RA (pE W) W .ret (jU Tryz.prog t pv) v∧bO (jU Tryz.prog t pv)=false:=by
   unfold jU
   split
   ·rename_i fs hu
    refine ⟨?_,rfl⟩
    unfold Value.okWide at hok
    rw[hu] at hok
    obtain ⟨cs,rfl,_,_⟩:=hok
    exact ⟨cs.toList,by simp,All2.dD (h7.imp fun _ _ _ h=>h)⟩
   ·rename_i hns
    have hnarr : ∀ m e,Tryz.prog.underlying t≠some (.array m e):=fun m e hu=>by
     have:=List.all_eq_true.1 hL t (hts t (by simp))
     rw[hu] at this
     simp at this
    rw[Fk hok ⟨fun fs=>hns fs,hnarr⟩] at h7
    cases h7 with
    | cons ha hb =>
     cases hb
     exact ⟨ha,rfl⟩
  refine ⟨pv::pss,.cons ⟨n,h6⟩ h3,.cons key.1 h4,fun x hx => ?_⟩
  simp only[List.zipWith_cons_cons,List.mem_cons] at hx
  rcases hx with rfl|hx
  ·exact key.2
  ·exact h5 x hx
theorem nl {W:World} {base:Nat} {sp:Nat→Bool} {held:Bool} : ∀ {ts:List TypeId} {vs:List Value} {ds:List (DataW H)} {ps:List MemPlace},DataW.TrodAll enc Tryz.prog W base sp held ts vs ds ps→ds.length=ts.length
 | [],[],[],_,_=>rfl
 | _::_,_::_,_::_,_,⟨_,_,_,h2,_⟩=>by simp[nl h2]
theorem kX {W W':World} {base:Nat} {sp:Nat→Bool} {held:Bool} : ∀ {ts:List TypeId} {vs:List Value} {ds:List (DataW H)} {ps:List MemPlace},(∀ p∈ps,W.sameAt W' p)→DataW.TrodAll enc Tryz.prog W base sp held ts vs ds ps→DataW.TrodAll enc Tryz.prog W' base sp held ts vs ds ps
 | [],[],[],_,_,h=>h
 | _::_,_::_,_::_,_,hs,⟨p,q,⟨n,h1⟩,h2,e⟩=>⟨p,q,⟨n,DataW.trod_carry n _ _ _ h1 fun x hx=>hs x (by rw[e];exact List.mem_append_left _ hx)⟩,kX (fun x hx=>hs x (by rw[e];exact List.mem_append_right _ hx)) h2,e⟩
set_option maxRecDepth 100000 in
/-- WHAT A LAW's ROW ASKS, from the interpreter's answer. -/
theorem FQ {f:FuncId} {fn:Func} {spec:ChangeSpec} {laid:List (String×DataW Unit)} {L:List TypeId} {W:World} {base:Nat} {args:Array Value} {ds gs:List (DataW H)} {before:List MemPlace}
  (hg:K.good f=true) (hL:oA Tryz.prog L=true) (hts : ∀ t∈fn.params.toList,t∈L) (hres:fn.resultTypes = #[4]) (hvars:spec.vars=[]) (hspec : ∀ ds:List (DataW H),ds.length=fn.params.size→spec.fn H ds = { results:=[.lit (.bool true)],args:=ds })
  (hmem : ("internal/strconv.uint64pow10", Go.Proofs.YtlomcifkckgneaaGreatDoor.Rows.laid_internal_strconv_uint64pow10) ∈ laid) (hnoh : (laid.filter fun x => x.2.handleName?.isSome) = [])
  (hden : ∀ pss:List (List PV),All2 (fun t p => ∃ n,TyP Tryz.prog n t p) fn.params.toList pss→den K f (List.zipWith (jU Tryz.prog) fn.params.toList pss) []=some (.ret (.c (.pv (.bool true))) []))
  (hval : ∀ (j:Nat) t v,fn.params[j]? = some t→args[j]? = some v→Value.okWide Tryz.prog W .any base t v)
  (hW:DataW.Whole enc Tryz.prog fn.params.toList spec.vars false W args.toList ds gs before)
  (hwt:(DataW.weightsEach Tryz.prog fn.params.toList ds).all (· ≤ reachBytes)=true)
  (hLaid:laidMetH Tryz.prog laid W) (hsh:W.ShapedOpen Tryz.prog) :
  Calls Tryz.prog f args W fun e W' => ∃ v,e = .returned v∧spec.post enc Tryz.prog fn false true false false W args v W':=by
 have hW':=hW
 obtain ⟨p,q,hA,hV,rfl,hfz,hnd⟩:=hW
 rw[hvars] at hV
 have hgq:gs=[]∧q=[]:=by
  cases gs with
  | nil=>exact ⟨rfl,hV⟩
  | cons g gs=>exact hV.elim
 obtain ⟨rfl,rfl⟩:=hgq
 have hlen:=nl hA
 have hv2 : ∀ (j:Nat) (u:TypeId) (x:Value),fn.params.toList[j]? = some u→args.toList[j]? = some x→Value.okWide Tryz.prog W .any base u x:=by
  intro j u x hj hx
  rw[Array.getElem?_toList] at hj hx
  exact hval j u x hj hx
 obtain ⟨pss,h1,h2,h3⟩:=xU (base:=base) hL hA hts hv2 (fun m hm=>by simpa using List.all_eq_true.1 hwt m hm)
 have hlm:laidMet Tryz.prog laid W:=by
  unfold laidMetH at hLaid
  rw[hnoh] at hLaid
  exact hLaid
 have hwi:=F6 (FC hlm hmem hsh)
 have hc:=pV FG hg (hden pss h1) (pE W) W args.toList hwi h2 h3 (fun i l h=>by simp at h) (fun s b h=>by cases h)
 rw[Array.toArray_toList] at hc
 refine hc.mono fun e W' ⟨G',hx,hw',v,he,hv,_⟩ => ?_
 subst he
 have hv':v = .bool true:=RA.boolv hv
 subst hv'
 refine ⟨_,rfl,?_⟩
 have hold : ∀ b,b<W.heap.size→W'.heap[b]? = W.heap[b]? := fun b hb=>(hx.old b hb rfl).2.1
 have hds:spec.fn H (ds++[]) = { results:=[.lit (.bool true)],args:=ds }:=by
  rw[List.append_nil]
  exact hspec ds (by rw[hlen];simp)
 refine tN (pa:=p) (pv:=[]) hW' (fun b sp hd => ?_) (fun sp hsp => ?_) (fun sp hsp => ?_) rfl (pI hx.os hx.output hold _) (fun a ha => ?_) ?_
 ·rw[hds,hres]
  exact trodAll_cons_mk (shut_bool (by kernel_rfl) _) trodAll_mk0
 ·rw[hds]
  have hT : ∀ t∈fn.params.toList,t<Tryz.prog.types.size:=fun t ht=>by
   have:=List.all_eq_true.1 hL t (hts t ht)
   simp only[Bool.and_eq_true,decide_eq_true_eq] at this
   exact this.1
  have:=DataW.TrodAll.respare (spare':=sp) kids ul hT hA (fun y hy=>hsp y (by simpa using hy))
  refine kX (fun y hy => ?_) this
  have hlt:y.block<W.heap.size:=DataW.TrodAll.lt hA y hy
  cases y with
  | cell b off =>
   show W'.cell? ⟨b,off,none⟩=W.cell? ⟨b,off,none⟩
   unfold World.cell?
   rw[hold b hlt]
  | map b=>exact hold b hlt
 ·rw[hds,hvars]
  rfl
 ·unfold World.frozen?
  rw[hold a.block ha]
 ·rw[hres]
  intro j t r hj hr
  have hj0:j=0:=by
   rcases Nat.eq_zero_or_pos j with h|h
   ·exact h
   ·rw[Array.getElem?_eq_none (by simp;omega)] at hj;cases hj
  subst hj0
  simp at hj
  subst hj
  have hr0:r = .bool true:=by
   have:((Value.bool true).resultList 1)[0]? = some r:=by simpa using hr
   simp[Value.resultList] at this
   exact this.symm
  subst hr0
  exact okWide_bool_mk (by kernel_rfl) _
end
end Go.Abs
namespace Go.Abs
open Go Go.Proofs
section
variable {P:Program} {t e:TypeId} {n:Nat} {ps:List PV}
theorem Es {k:IntKind} (h:b8 P t=some (.int k)) (hp:TyP P n t ps) : ∃ z,ps=[.int k z]∧(Lit.int k z).wf=true:=by
 cases n with
 | zero=>exact hp.elim
 | succ n=>unfold TyP at hp;rw[lS h] at hp;exact hp
theorem Eo (h:b8 P t=some .str) (hp:TyP P n t ps) : ∃ s,ps=[.str s]∧s.length≤reachBytes:=by
 cases n with
 | zero=>exact hp.elim
 | succ n=>unfold TyP at hp;rw[gN h] at hp;exact hp
theorem Ft {z:Int} (h:(Lit.int .i64 z).wf=true):I64 z:=by
 simp only[Lit.wf,Bool.and_eq_true,decide_eq_true_eq] at h
 exact h
end
end Go.Abs
namespace Go.Abs
open Go Go.Proofs
set_option maxRecDepth 100000
theorem z7 (p:PV):jU Tryz.prog 9 [p] = .c (.pv p):=by
 unfold jU;rw[Tryz.underlying9]
theorem yT (p:PV):jU Tryz.prog 3 [p] = .c (.pv p):=by
 unfold jU;rw[Tryz.underlying3]
theorem args2 {t u:TypeId} {pss:List (List PV)} {Q:Prop} (h:All2 (fun t p => ∃ n,TyP Tryz.prog n t p) [t,u] pss) (hq : ∀ n m p q,TyP Tryz.prog n t p→TyP Tryz.prog m u q→pss=[p,q]→Q):Q:=by
 cases h with
 | cons h1 h =>
 cases h with
 | cons h2 h =>
 cases h
 obtain ⟨n,h1⟩:=h1
 obtain ⟨m,h2⟩:=h2
 exact hq n m _ _ h1 h2 rfl
end Go.Abs
namespace Go.Abs
open Go Go.Proofs
set_option maxRecDepth 100000
end Go.Abs
