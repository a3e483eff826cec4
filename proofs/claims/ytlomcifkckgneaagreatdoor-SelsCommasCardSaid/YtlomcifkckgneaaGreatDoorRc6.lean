/-
  FACTS ON THE TYPES OF THIS PROGRAM, each by the kernel (printed by a program).
  WHAT THE FUNCTIONS COMPUTE: the smallest; the builder of texts.
  WHAT THE FUNCTIONS COMPUTE: loops; texts of words.
  WHAT THE FUNCTIONS COMPUTE: a token's text; numbers of an nth; simple selectors.
  WHAT THE FUNCTIONS COMPUTE, layer 1: tokens that are the same; lists of them.
  WHAT THE FUNCTIONS COMPUTE, layer 2: blocks' last tokens; values told flat; depth.
  SMALL FACTS of the texts on selectors.
  WHAT THE FUNCTIONS COMPUTE, layer 2: are values the same?
  WHAT THE FUNCTIONS COMPUTE, layer 3, the document's answer: blanks, signs; values trimmed, cut by a sign.
  WHAT THE FUNCTIONS COMPUTE, layer 3: values trimmed, cut, joined.
  WHAT THE FUNCTIONS COMPUTE, layer 3, the document's answer: joined, cut into words; lists that are the same.
  WHAT THE FUNCTIONS COMPUTE, layer 3: values joined.
  WHAT THE FUNCTIONS COMPUTE, layer 3, the document's answer: values joined, cut into words.
  WHAT THE FUNCTIONS COMPUTE: small letters, as the document's answer has them.
  Functions as values: what captures nothing, or one variable of whatever cells; texts as the interpreter's data.
  WHAT THE FUNCTIONS COMPUTE, layer 4, the document's reader of selectors: numbers; where a compound one ends; combinators.
  WHAT THE FUNCTIONS COMPUTE: selectors and their texts.
  Layer 3: bounds on values that are cut, and joined.
  SELECTORS: how long the text is of what was read. No program stands here.
  FROM A ROW's READING TO THE INTERPRETER's VALUES: an argument that reads as data is data without memory; a law whose answer the interpreter gives as 'true' meets its row.
  DATA OF A TYPE: what reads as a value of a struct, of a slice; what reads as tokens, and as values.
-/
import Derived.Lib.ItoaLen
import Derived.Lib.Join
import Derived.Test.YtlomcifkckgneaaGreatDoorRows
import Derived.ReadAgain
import Derived.ChangeBears
import Derived.RowKit
import Derived.OpenShut
import Derived.SizedLaws
import Derived.Deep.DeepHandedRow
import Derived.Lib.LaidTab
import Derived.Test.YtlomcifkckgneaaGreatDoorRc1
import Derived.Test.YtlomcifkckgneaaGreatDoorRc2
import Derived.Test.YtlomcifkckgneaaGreatDoorRc3
import Derived.Test.YtlomcifkckgneaaGreatDoorRc4
import Derived.Test.YtlomcifkckgneaaGreatDoorRc5
set_option linter.unusedSimpArgs false
set_option linter.unusedVariables false
namespace Go.Abs
open Go Go.Proofs
theorem IT:K.good 11=true:=by kernel_rfl
theorem IZ:K.good 13=true:=by kernel_rfl
theorem Hs:K.good 16=true:=by kernel_rfl
theorem Bk:K.good 17=true:=by kernel_rfl
theorem Bt:K.good 22=true:=by kernel_rfl
theorem Hi:K.good 23=true:=by kernel_rfl
theorem IE:K.good 24=true:=by kernel_rfl
theorem H3:K.good 25=true:=by kernel_rfl
theorem Ic:K.good 26=true:=by kernel_rfl
theorem Hf:K.good 27=true:=by kernel_rfl
theorem IU:K.good 32=true:=by kernel_rfl
theorem Jm:K.good 33=true:=by kernel_rfl
theorem IL:K.good 34=true:=by kernel_rfl
theorem vE:K.good 37=true:=by kernel_rfl
theorem I8:K.good 39=true:=by kernel_rfl
theorem kZ:K.good 40=true:=by kernel_rfl
theorem Bf:K.good 41=true:=by kernel_rfl
theorem HT:K.good 45=true:=by kernel_rfl
theorem qD:K.good 51=true:=by kernel_rfl
theorem HU:K.good 52=true:=by kernel_rfl
theorem Iq:K.good 53=true:=by kernel_rfl
theorem Jf:K.good 55=true:=by kernel_rfl
theorem HV:K.good 56=true:=by kernel_rfl
theorem HX:K.good 57=true:=by kernel_rfl
theorem BM:K.good 64=true:=by kernel_rfl
theorem IC:K.good 65=true:=by kernel_rfl
theorem Jd:K.good 66=true:=by kernel_rfl
theorem HW:K.good 68=true:=by kernel_rfl
theorem qT:K.good 71=true:=by kernel_rfl
theorem Hn:K.good 72=true:=by kernel_rfl
theorem qy:K.good 73=true:=by kernel_rfl
theorem uY:K.good 74=true:=by kernel_rfl
theorem Ij:K.good 75=true:=by kernel_rfl
theorem Ia:K.good 76=true:=by kernel_rfl
theorem qv:K.good 77=true:=by kernel_rfl
theorem qS:K.good 78=true:=by kernel_rfl
theorem IP:K.good 79=true:=by kernel_rfl
theorem Hv:K.good 80=true:=by kernel_rfl
theorem He:K.good 91=true:=by kernel_rfl
theorem Hy:K.good 92=true:=by kernel_rfl
theorem HO:K.good 99=true:=by kernel_rfl
theorem lZ:K.good 103=true:=by kernel_rfl
theorem Er:K.good 104=true:=by kernel_rfl
theorem Gf:K.good 105=true:=by kernel_rfl
theorem nG:K.good 106=true:=by kernel_rfl
theorem lN:K.good 107=true:=by kernel_rfl
theorem D0:K.good 109=true:=by kernel_rfl
theorem EW:K.good 113=true:=by kernel_rfl
theorem Ew:K.good 114=true:=by kernel_rfl
theorem Em:K.good 115=true:=by kernel_rfl
theorem rq:K.good 116=true:=by kernel_rfl
theorem Ga:K.good 117=true:=by kernel_rfl
theorem yj:K.good 118=true:=by kernel_rfl
theorem yW:K.good 119=true:=by kernel_rfl
theorem GO:K.good 120=true:=by kernel_rfl
theorem Fd:K.good 123=true:=by kernel_rfl
theorem Fh:K.good 124=true:=by kernel_rfl
theorem Fv:K.good 125=true:=by kernel_rfl
theorem Gv:K.good 138=true:=by kernel_rfl
theorem EB:K.good 139=true:=by kernel_rfl
theorem wG:K.good 140=true:=by kernel_rfl
theorem GL:K.good 141=true:=by kernel_rfl
theorem lB:K.good 142=true:=by kernel_rfl
theorem FJ:K.good 149=true:=by kernel_rfl
theorem we:K.good 150=true:=by kernel_rfl
theorem EO:K.good 151=true:=by kernel_rfl
theorem oN:K.good 152=true:=by kernel_rfl
theorem lH:K.good 153=true:=by kernel_rfl
theorem Fm:K.good 156=true:=by kernel_rfl
theorem Fy:K.good 157=true:=by kernel_rfl
theorem EA:K.good 160=true:=by kernel_rfl
theorem xd:K.good 170=true:=by kernel_rfl
theorem GA:K.good 171=true:=by kernel_rfl
theorem D4:K.good 172=true:=by kernel_rfl
theorem rH:K.good 175=true:=by kernel_rfl
theorem wX:K.good 176=true:=by kernel_rfl
theorem Gz:K.good 177=true:=by kernel_rfl
theorem F4:K.good 178=true:=by kernel_rfl
theorem xz:K.good 179=true:=by kernel_rfl
theorem Ej:K.good 180=true:=by kernel_rfl
theorem yk:K.good 181=true:=by kernel_rfl
theorem sG:K.good 182=true:=by kernel_rfl
theorem Fo:K.good 183=true:=by kernel_rfl
theorem yP:K.good 184=true:=by kernel_rfl
theorem qX:K.good 185=true:=by kernel_rfl
theorem Eg:K.good 186=true:=by kernel_rfl
theorem E5:K.good 187=true:=by kernel_rfl
theorem FU:K.good 188=true:=by kernel_rfl
theorem D2:K.good 189=true:=by kernel_rfl
theorem EE:K.good 190=true:=by kernel_rfl
theorem xE:K.good 191=true:=by kernel_rfl
theorem F8:K.good 193=true:=by kernel_rfl
theorem ET:K.good 204=true:=by kernel_rfl
theorem GJ:K.good 205=true:=by kernel_rfl
theorem FS:K.good 206=true:=by kernel_rfl
theorem FA:K.good 209=true:=by kernel_rfl
theorem GC:K.good 210=true:=by kernel_rfl
theorem ER:K.good 212=true:=by kernel_rfl
theorem GH:K.good 213=true:=by kernel_rfl
theorem Ff:K.good 230=true:=by kernel_rfl
theorem E3:K.good 231=true:=by kernel_rfl
theorem Co:eh 22 4=([0,1,5],[]):=by kernel_rfl
theorem DB:eh 22 9=([0,1,5,6],[]):=by kernel_rfl
theorem DD:eh 99 2=([3],[6]):=by kernel_rfl
theorem BQ:eh 33 3=([0,3,4],[]):=by kernel_rfl
theorem Cl:eh 52 4=([0,1,5],[]):=by kernel_rfl
theorem DX:eh 65 5=([0,4,6],[4]):=by kernel_rfl
theorem AJ:eh 231 5=([5,15,16,17],[]):=by kernel_rfl
theorem Dw:eh 34 2=([0,3,4],[]):=by kernel_rfl
theorem CN:eh 34 4=([0,3,4],[]):=by kernel_rfl
theorem BZ:eh 26 4=([0,1,5,6,7],[]):=by kernel_rfl
theorem Ak:eh 182 2=([0,1,2,7],[100000]):=by kernel_rfl
theorem Am:eh 186 6=([0,2,3,4,29],[100000]):=by kernel_rfl
theorem AA:eh 115 2=([0,5],[]):=by kernel_rfl
theorem AM:eh 117 2=([0,1,5],[]):=by kernel_rfl
theorem zg:eh 118 1=([0,1],[]):=by kernel_rfl
theorem zA:eh 120 4=([0,1,4,6,7],[4]):=by kernel_rfl
theorem CG:eh 64 2=([0,2,3,8,9],[8,9]):=by kernel_rfl
theorem Ck:eh 70 1=([0],[]):=by kernel_rfl
theorem CA:eh 70 3=([0],[]):=by kernel_rfl
theorem CR:eh 25 3=([0,1,5,6],[]):=by kernel_rfl
theorem tE:eh 5 18=([9,11,13,14,15,16],[]):=by kernel_rfl
theorem DH:eh 17 3=([4,9,10,11],[4]):=by kernel_rfl
theorem Dt:eh 24 2=([0,3],[]):=by kernel_rfl
theorem Ct:eh 24 7=([0,3,4,5,6],[4]):=by kernel_rfl
theorem Da:eh 47 3=([0,2,3,4],[2,3,100000]):=by kernel_rfl
theorem CB:eh 55 3=([1,3,11,12,13],[1]):=by kernel_rfl
theorem Dq:eh 56 2=([0,3],[]):=by kernel_rfl
theorem DR:eh 91 2=([0,4],[100000]):=by kernel_rfl
theorem Ad:eh 104 2=([0,1,7,8],[100000]):=by kernel_rfl
theorem zY:eh 105 2=([0,1,7,8,9],[]):=by kernel_rfl
theorem zK:eh 141 2=([0,3],[100000]):=by kernel_rfl
theorem zX:eh 151 2=([0,1,7,8],[]):=by kernel_rfl
end Go.Abs
namespace Go.Abs
open Go Go.Proofs
abbrev I (n:Int):AV := .c (.pv (.int .i64 n))
abbrev T (l:List UInt8):AV := .c (.pv (.str l))
abbrev B (b:Bool):AV := .c (.pv (.bool b))
abbrev L (l:List (List PV)):AV := .c (.pv (.sl l))
abbrev P0:AV := .c (.loc 100000 0)
theorem ai {f:FuncId} {fn:Func} {x:Code} {nt:Nat} {args:List AV} {bxs:List (List CV)} {r:Res} (hp:prF f=none) (hh:hpF f=none) (hf:Tryz.prog.funcs[f]? = some fn) (hx:fn.body=some x) (hn:fn.ntmps=nt)
  (hl:args.length≤nt∧nt<LK) (h:(exL K f x (bM nt args bxs)).bind (fun r=>leave K f fn bxs.length (some r))=some r):den K f args bxs=some r:=by
 rw[vH (K:=K) hp hh hf hx,hn,if_pos hl]
 exact h
theorem eN (f:FuncId) (h:(
 f==227 ||
 f==1000000)=false):K.ownRet f=false:=h
theorem dE (f i:Nat):K.hook f i=ev f i:=rfl
theorem K_P:K.P=Tryz.prog:=rfl
theorem dq (f r:Nat):K.keep f r=eh f r:=rfl
theorem eW {f:FuncId} {F:Prim} {args:List AV} {bxs cs:List (List CV)} {v:AV} (h:prF f=some F) (hF:F args bxs=some (v,cs)):den K f args bxs=some (.ret v cs):=by
 rw[sE (K:=K) h,hF];rfl
set_option maxRecDepth 10000
theorem wo (n:Nat):lens n []=true:=rfl
end Go.Abs
namespace Go.Abs
open Go Go.Proofs
theorem aB (f:FuncId) (a:Code) (S:St):exL K f (.loop a) S=exL K f (.loop a) (head (eh f ((aX a).getD 0)) S):=by
 rw[aw,aw (S:=head _ S),dq,pq]
set_option maxRecDepth 10000
attribute [local go_sem] cM bt ck bJ bH cL cq co aR bU bO ci cN bF opd avOf cvOf St.degAt St.put okPV dA okAV cZ cY cX cG aH if_true Bool.false_eq_true if_false Option.map_some Option.map_none Option.bind_some Option.bind_none dC dr upd List.toList_toArray cA steal bm mvB c8 cF cE AV.deg CV.deg AV.gv AV.isIter cy cj bK List.length_nil List.length_cons List.filterMap_cons List.filterMap_nil beq_iff_eq List.getElem?_cons_zero List.getElem?_cons_succ Option.getD_some dE ev Bool.false_and Bool.and_false Bool.and_self K_P eN bZ cz bh lend back idx dedup AV.ren CV.ren TV.ren AV.ptrs CV.ptrs cH AV.flat CV.flat cf bQ aV cK cQ dM bW aM bX bc bv bR bd d8 CV.pv? content bo ownT aW reps pvs chunks bM leave dU cw cV bG bg TV.deg TV.av LK CV.plain CV.noBld cJ dX bound List.map_cons List.map_nil List.all_cons List.all_nil List.any_cons List.any_nil List.contains_cons List.contains_nil List.elem_cons List.elem_nil List.cons_append List.nil_append List.append_nil List.flatMap_cons List.flatMap_nil List.zip_cons_cons List.zip_nil_left List.zip_nil_right List.take_succ_cons List.take_zero List.take_nil List.drop_succ_cons List.drop_zero List.drop_nil List.isEmpty_nil List.isEmpty_cons Bool.and_true Bool.true_and Bool.or_true Bool.true_or Bool.or_false Bool.false_or Bool.not_true Bool.not_false Nat.add_zero Nat.zero_add Option.isNone_none Option.isNone_some Option.getD_none true_and and_true not_true_eq_false not_false_eq_true decide_true decide_false Nat.le_refl and_self Bool.not_eq_true Nat.sub_self or_true true_or Option.some.injEq List.length_map List.nil_eq and_false false_and AV.live CV.live CV.liveIn dq aX Option.orElse_some Option.orElse_none head a7 a6 Int.lt_irrefl List.length_append ite_self dz ce cO bu Key.clash Key.sees Key.writes Nat.lt_irrefl gt_iff_lt cg dc false_or or_false beq_self_eq_true Bool.true_beq Bool.false_beq
theorem E6 (n:Int) (h : -9223372036854775808≤n∧n≤9223372036854775807):den K 68 [I n] []=some (.ret (T (Lib.itoa n)) []) :=
 eW (F:=xw) rfl (by simp[xw,h])
theorem bA (n:Nat) (h:n<9223372036854775807):IntKind.i64.wrap ((n:Int)+1)=((n+1:Nat):Int):=by
 rw[IntWalk.i64_in _ (by omega)];rfl
theorem bS {α:Type} {l rest:List α} {x:α} {i:Nat} (h:l.drop i=x::rest):l[i]? = some x∧l.drop (i+1)=rest∧i<l.length:=by
 have h1:l[i]? = some x:=by
  have:(l.drop i)[0]? = some x:=by rw[h];rfl
  simpa using this
 refine ⟨h1,?_,(List.getElem?_eq_some_iff.1 h1).1⟩
 have:(l.drop i).tail=rest:=by rw[h];rfl
 rw[←this,List.tail_drop]
end Go.Abs
namespace Go.Abs
open Go Go.Proofs
set_option maxRecDepth 10000
attribute [local go_sem] cM bt ck bJ bH cL cq co aR bU bO ci cN bF opd avOf cvOf St.degAt St.put okPV dA okAV cZ cY cX cG aH if_true Bool.false_eq_true if_false Option.map_some Option.map_none Option.bind_some Option.bind_none dC dr upd List.toList_toArray cA steal bm mvB c8 cF cE AV.deg CV.deg AV.gv AV.isIter cy cj bK List.length_nil List.length_cons List.filterMap_cons List.filterMap_nil beq_iff_eq List.getElem?_cons_zero List.getElem?_cons_succ Option.getD_some dE ev Bool.false_and Bool.and_false Bool.and_self K_P eN bZ cz bh lend back idx dedup AV.ren CV.ren TV.ren AV.ptrs CV.ptrs cH AV.flat CV.flat cf bQ aV cK cQ dM bW aM bX bc bv bR bd d8 CV.pv? content bo ownT aW reps pvs chunks bM leave dU cw cV bG bg TV.deg TV.av LK CV.plain CV.noBld cJ dX bound List.map_cons List.map_nil List.all_cons List.all_nil List.any_cons List.any_nil List.contains_cons List.contains_nil List.elem_cons List.elem_nil List.cons_append List.nil_append List.append_nil List.flatMap_cons List.flatMap_nil List.zip_cons_cons List.zip_nil_left List.zip_nil_right List.take_succ_cons List.take_zero List.take_nil List.drop_succ_cons List.drop_zero List.drop_nil List.isEmpty_nil List.isEmpty_cons Bool.and_true Bool.true_and Bool.or_true Bool.true_or Bool.or_false Bool.false_or Bool.not_true Bool.not_false Nat.add_zero Nat.zero_add Option.isNone_none Option.isNone_some Option.getD_none true_and and_true not_true_eq_false not_false_eq_true decide_true decide_false Nat.le_refl and_self Bool.not_eq_true Nat.sub_self or_true true_or Option.some.injEq List.length_map List.nil_eq and_false false_and AV.live CV.live CV.liveIn dq aX Option.orElse_some Option.orElse_none head a7 a6 Int.lt_irrefl List.length_append ite_self dz ce cO bu Key.clash Key.sees Key.writes Nat.lt_irrefl gt_iff_lt cg dc false_or or_false beq_self_eq_true Bool.true_beq Bool.false_beq dJ cx bC dH aI b7 fc HW
theorem ov {n:Int} (h:I64 n):(Lib.itoa n).length≤21:=Lib.itoa_length_le n h.1 h.2
set_option maxHeartbeats 4000000 in
theorem Ir (t:Tok) (hn:I64 t.n) (hl:t.text.length<1000000000000):den K 156 [.agg t.cells] []=some (.ret (T (oneS t)) []):=by
 obtain ⟨k,s,n⟩:=t
 refine ai rfl rfl Tryz.func156 rfl Tryz.ntmps156 ⟨by simp,by simp[LK]⟩ ?_
 have hr:Tryz.f156.results = #[.tmp 2]:=rfl
 have hit:=E6 n hn
 have hi:=ov hn
 simp only at hl hi
 have l1:s.length+1<bT:=by simp[bT];omega
 have l1':1+s.length<bT:=by simp[bT];omega
 have l2:(Lib.itoa n).length+s.length<bT:=by simp[bT];omega
 have l3:1+s.length+1<bT:=by simp[bT];omega
 have l4:s.length+2<bT:=by simp[bT];omega
 have l5:s.length+2+1<bT:=by simp[bT];omega
 have l6:s.length+2+1+2<bT:=by simp[bT];omega
 have l7:s.length+1+1<bT:=by simp[bT];omega
 have hk:k=1∨k=2∨k=3∨k=4∨k=5∨k=6∨k=7∨k=8∨(k≠1∧k≠2∧k≠3∧k≠4∧k≠5∧k≠6∧k≠7∧k≠8):=by omega
 rcases hk with rfl|rfl|rfl|rfl|rfl|rfl|rfl|rfl|⟨h1,h2,h3,h4,h5,h6,h7,h8⟩
 ·simp[go_sem,Nat.reduceLT,Nat.reduceEqDiff,Nat.reduceBEq,Nat.reduceAdd,Tok.cells,oneS]
 ·simp[go_sem,Nat.reduceLT,Nat.reduceEqDiff,Nat.reduceBEq,Nat.reduceAdd,Tok.cells,oneS,l1]
 ·simp[go_sem,Nat.reduceLT,Nat.reduceEqDiff,Nat.reduceBEq,Nat.reduceAdd,Tok.cells,oneS,l1']
 ·simp[go_sem,Nat.reduceLT,Nat.reduceEqDiff,Nat.reduceBEq,Nat.reduceAdd,Tok.cells,oneS,l1']
 ·simp[go_sem,Nat.reduceLT,reduceCtorEq,Nat.reduceEqDiff,Nat.reduceBEq,Nat.reduceAdd,Tok.cells,oneS,hit,l2]
 ·by_cases h:n=39<;>simp[go_sem,Nat.reduceLT,Nat.reduceEqDiff,Nat.reduceBEq,Nat.reduceAdd,Tok.cells,oneS,h,l1',l7]
 ·by_cases h:s=[34]
  ·simp[go_sem,Nat.reduceLT,Nat.reduceEqDiff,Nat.reduceBEq,Nat.reduceAdd,Tok.cells,oneS,h,bT]
  ·have e:(s==[34])=false:=by simp[h]
   by_cases h':s=[39]
   ·simp[go_sem,Nat.reduceLT,Nat.reduceEqDiff,Nat.reduceBEq,Nat.reduceAdd,Tok.cells,oneS,h',bT]
   ·have e':(s==[39])=false:=by simp[h']
    simp[go_sem,Nat.reduceLT,Nat.reduceEqDiff,Nat.reduceBEq,Nat.reduceAdd,Tok.cells,oneS,e,e',h,h']
 ·simp[go_sem,Nat.reduceLT,Nat.reduceEqDiff,Nat.reduceBEq,Nat.reduceAdd,Tok.cells,oneS]
 ·simp[go_sem,Nat.reduceLT,Nat.reduceEqDiff,Nat.reduceBEq,Nat.reduceAdd,Tok.cells,oneS,h1,h2,h3,h4,h5,h6,h7,h8]
theorem lR (k k' n n':Int) (t t':List UInt8):dt Tryz.prog 91 [.int .i64 k,.str t,.int .i64 n] [.int .i64 k',.str t',.int .i64 n']=some ((k==k')&&((t==t')&&((n==n')&&true))):=by kernel_rfl
theorem mL (a b:Tok):((a.kind==b.kind)&&((a.text==b.text)&&((a.n==b.n)&&true)))=decide (a=b):=by
 obtain ⟨k,t,n⟩:=a
 obtain ⟨k',t',n'⟩:=b
 rw[Bool.eq_iff_iff,decide_eq_true_eq]
 simp[Tok.mk.injEq]
def yE (n:Nat):Prop:=n<9000000000000000000
theorem Fe (l:List Tok) (i:Nat) (t:Tok) (h:l[i]? = some t):(l.map Tok.enc)[(i:Int).toNat]? = some [.int .i64 t.kind,.str t.text,.int .i64 t.n]:=by
 simp[h,Tok.enc]
theorem dD (l:List Val):lens 5 (encL l)=true:=by
 rw[encL_map]
 simp only[lens,List.all_map,List.all_eq_true,Function.comp_apply,beq_iff_eq]
 intro v _
 exact vy v
theorem gS (a b c d e:PV):lens 5 [[a,b,c,d,e]]=true:=rfl
theorem lW (l:List Val) (i:Nat) (k:Int) (t:Tok) (l':List Val) (h:l[i]? = some (.mk k t l')):(encL l)[(i:Int).toNat]? = some [.int .i64 k,.int .i64 t.kind,.str t.text,.int .i64 t.n,.sl (encL l')]:=rt l i _ h
end Go.Abs
set_option linter.unusedSimpArgs true
namespace Go.Abs
open Go Go.Proofs
theorem z64:I64 0:=⟨by decide,by decide⟩
theorem e00:(([]:List UInt8)==[])=true:=rfl
theorem i00:((0:Int)==0)=true:=rfl
theorem d00:decide ((0:Int)<((0:Nat):Int))=false:=rfl
theorem s00:0<bT:=by decide
theorem jK (acc:List Sim):((acc.length:Int)==0)=acc.isEmpty:=by
 cases acc with
 | nil=>rfl
 | cons x l=>rw[List.length_cons,List.isEmpty_cons,beq_eq_false_iff_ne];omega
end Go.Abs
set_option linter.unusedSimpArgs true
namespace Go.Abs
open Go Go.Proofs
set_option maxRecDepth 10000
attribute [local go_sem] cM bt ck bJ bH cL cq co aR bU bO ci cN bF opd avOf cvOf St.degAt St.put okPV dA okAV cZ cY cX cG aH if_true Bool.false_eq_true if_false Option.map_some Option.map_none Option.bind_some Option.bind_none dC dr upd List.toList_toArray cA steal bm mvB c8 cF cE AV.deg CV.deg AV.gv AV.isIter cy cj bK List.length_nil List.length_cons List.filterMap_cons List.filterMap_nil beq_iff_eq List.getElem?_cons_zero List.getElem?_cons_succ Option.getD_some dE ev Bool.false_and Bool.and_false Bool.and_self K_P eN bZ cz bh lend back idx dedup AV.ren CV.ren TV.ren AV.ptrs CV.ptrs cH AV.flat CV.flat cf bQ aV cK cQ dM bW aM bX bc bv bR bd d8 CV.pv? content bo ownT aW reps pvs chunks bM leave dU cw cV bG bg TV.deg TV.av LK CV.plain CV.noBld cJ dX bound List.map_cons List.map_nil List.all_cons List.all_nil List.any_cons List.any_nil List.contains_cons List.contains_nil List.elem_cons List.elem_nil List.cons_append List.nil_append List.append_nil List.flatMap_cons List.flatMap_nil List.zip_cons_cons List.zip_nil_left List.zip_nil_right List.take_succ_cons List.take_zero List.take_nil List.drop_succ_cons List.drop_zero List.drop_nil List.isEmpty_nil List.isEmpty_cons Bool.and_true Bool.true_and Bool.or_true Bool.true_or Bool.or_false Bool.false_or Bool.not_true Bool.not_false Nat.add_zero Nat.zero_add Option.isNone_none Option.isNone_some Option.getD_none true_and and_true not_true_eq_false not_false_eq_true decide_true decide_false Nat.le_refl and_self Bool.not_eq_true Nat.sub_self or_true true_or Option.some.injEq List.length_map List.nil_eq and_false false_and AV.live CV.live CV.liveIn dq aX Option.orElse_some Option.orElse_none head a7 a6 Int.lt_irrefl List.length_append ite_self dz ce cO bu Key.clash Key.sees Key.writes Nat.lt_irrefl gt_iff_lt cg dc false_or or_false beq_self_eq_true Bool.true_beq Bool.false_beq
abbrev iY (k:Int) (t:Tok) (l:List Val):List CV:=[.pv (.int .i64 k),.pv (.int .i64 t.kind),.pv (.str t.text),.pv (.int .i64 t.n),.pv (.sl (encL l))]
end Go.Abs
namespace Go.Abs
open Go Go.Proofs
set_option maxRecDepth 10000
attribute [local go_sem] cM bt ck bJ bH cL cq co aR bU bO ci cN bF opd avOf cvOf St.degAt St.put okPV dA okAV cZ cY cX cG aH if_true Bool.false_eq_true if_false Option.map_some Option.map_none Option.bind_some Option.bind_none dC dr upd List.toList_toArray cA steal bm mvB c8 cF cE AV.deg CV.deg AV.gv AV.isIter cy cj bK List.length_nil List.length_cons List.filterMap_cons List.filterMap_nil beq_iff_eq List.getElem?_cons_zero List.getElem?_cons_succ Option.getD_some dE ev Bool.false_and Bool.and_false Bool.and_self K_P eN bZ cz bh lend back idx dedup AV.ren CV.ren TV.ren AV.ptrs CV.ptrs cH AV.flat CV.flat cf bQ aV cK cQ dM bW aM bX bc bv bR bd d8 CV.pv? content bo ownT aW reps pvs chunks bM leave dU cw cV bG bg TV.deg TV.av LK CV.plain CV.noBld cJ dX bound List.map_cons List.map_nil List.all_cons List.all_nil List.any_cons List.any_nil List.contains_cons List.contains_nil List.elem_cons List.elem_nil List.cons_append List.nil_append List.append_nil List.flatMap_cons List.flatMap_nil List.zip_cons_cons List.zip_nil_left List.zip_nil_right List.take_succ_cons List.take_zero List.take_nil List.drop_succ_cons List.drop_zero List.drop_nil List.isEmpty_nil List.isEmpty_cons Bool.and_true Bool.true_and Bool.or_true Bool.true_or Bool.or_false Bool.false_or Bool.not_true Bool.not_false Nat.add_zero Nat.zero_add Option.isNone_none Option.isNone_some Option.getD_none true_and and_true not_true_eq_false not_false_eq_true decide_true decide_false Nat.le_refl and_self Bool.not_eq_true Nat.sub_self or_true true_or Option.some.injEq List.length_map List.nil_eq and_false false_and AV.live CV.live CV.liveIn dq aX Option.orElse_some Option.orElse_none head a7 a6 Int.lt_irrefl List.length_append ite_self dz ce cO bu Key.clash Key.sees Key.writes Nat.lt_irrefl gt_iff_lt cg dc false_or or_false beq_self_eq_true Bool.true_beq Bool.false_beq c5 cx bC cu aQ dJ dH aI b7 fc a8 dv Jd Dw CN HX BZ
theorem iq (k:Int) (t:Tok) (l:List Val):den K 66 [.agg (iY k t l)] []=some (.ret (B (Sl.aq (.mk k t l))) []):=by
 refine ai rfl rfl Tryz.func66 rfl Tryz.ntmps66 ⟨by simp,by simp[LK]⟩ ?_
 have hr:Tryz.f66.results = #[.tmp 2]:=rfl
 have hs:Sl.aq (.mk k t l)=((k==1)&&(t.kind==8)):=rfl
 rw[hs]
 cases e1:(k==1)
 ·simp only[go_sem,Nat.reduceLT,Nat.reduceEqDiff,Nat.reduceBEq,Nat.reduceAdd,Nat.reduceSub,Nat.reduceLeDiff,hr,e1]
 ·simp only[go_sem,Nat.reduceLT,Nat.reduceEqDiff,Nat.reduceBEq,Nat.reduceAdd,Nat.reduceSub,Nat.reduceLeDiff,hr,e1]
theorem tz (k:Int) (t:Tok) (l:List Val) (s:List UInt8):den K 57 [.agg (iY k t l),T s] []=some (.ret (B (Sl.aU s (.mk k t l))) []):=by
 refine ai rfl rfl Tryz.func57 rfl Tryz.ntmps57 ⟨by simp,by simp[LK]⟩ ?_
 have hr:Tryz.f57.results = #[.tmp 4]:=rfl
 have hv:decide (t=⟨7,s,0⟩)=((t.kind==7)&&((t.text==s)&&((t.n==0)&&true))):=(mL t ⟨7,s,0⟩).symm
 have hs:Sl.aU s (.mk k t l)=((k==1)&&((t.kind==7)&&((t.text==s)&&((t.n==0)&&true)))):=by rw[←hv];rfl
 rw[hs]
 cases e1:(k==1)
 ·simp only[go_sem,Nat.reduceLT,Nat.reduceEqDiff,Nat.reduceBEq,Nat.reduceAdd,Nat.reduceSub,Nat.reduceLeDiff,hr,e1]
 ·cases e2:(t.kind==7)
  ·simp only[go_sem,Nat.reduceLT,Nat.reduceEqDiff,Nat.reduceBEq,Nat.reduceAdd,Nat.reduceSub,Nat.reduceLeDiff,hr,e1,e2]
  ·cases e3:(t.text==s)
   ·simp only[go_sem,Nat.reduceLT,Nat.reduceEqDiff,Nat.reduceBEq,Nat.reduceAdd,Nat.reduceSub,Nat.reduceLeDiff,hr,e1,e2,e3]
   ·simp only[go_sem,Nat.reduceLT,Nat.reduceEqDiff,Nat.reduceBEq,Nat.reduceAdd,Nat.reduceSub,Nat.reduceLeDiff,hr,e1,e2,e3]
abbrev lv (l:List Val) (i j:Nat):St :=
  { sl:=upd (upd (upd bot 4 (I j)) 3 (I i)) 0 (L (encL l)),bx:=nobox,nt:=38 }
noncomputable def tlp2:Code := .loop (ao Tryz.f34 2)
noncomputable def tlp4:Code := .loop (ao Tryz.f34 4)
theorem DT (l:List Val) (i:Nat) (hl:l.length≤100000000) (v:Val) (hi:l[i]? = some v) (hb:Sl.aq v=true) :
  exL K 34 tlp2 (lv l i l.length)=exL K 34 tlp2 (lv l (i+1) l.length):=by
 obtain ⟨k,t,c⟩:=v
 have hil:i<l.length:=(List.getElem?_eq_some_iff.1 hi).1
 have hlt:decide ((i:Int)<(l.length:Int))=true:=decide_eq_true (by omega)
 have hget:=lW l i k t c hi
 have hw:IntKind.i64.wrap ((i:Int)+1)=((i+1:Nat):Int):=bA i (by omega)
 have hd:=iq k t c
 rw[hb] at hd
 unfold tlp2
 conv in ao _ _=>whnf
 conv in ao _ _=>whnf
 conv in exL _ _ _ (lv l i l.length)=>rw[aw]
 simp only[go_sem,Nat.reduceLT,reduceCtorEq,Nat.reduceEqDiff,Nat.reduceBEq,Nat.reduceAdd,ae ap,hlt,hget,Int.natCast_nonneg,hw,hd]
 rw[aB]
 simp only[go_sem,reduceCtorEq,Nat.reduceEqDiff]
theorem Gg (l:List Val) (i:Nat) (hl:l.length≤100000000) (v:Val) (hi:l[i]? = some v) (hb:Sl.aq v=false) :
  Ends (exL K 34 tlp2 (lv l i l.length)) fun o S=>o = .exit 0∧S.nt=38∧S.sl 0=L (encL l)∧S.sl 3=I i∧S.sl 4=I l.length:=by
 obtain ⟨k,t,c⟩:=v
 have hil:i<l.length:=(List.getElem?_eq_some_iff.1 hi).1
 have hlt:decide ((i:Int)<(l.length:Int))=true:=decide_eq_true (by omega)
 have hget:=lW l i k t c hi
 have hd:=iq k t c
 rw[hb] at hd
 unfold tlp2
 conv in ao _ _=>whnf
 rw[aw]
 simp only[go_sem,Nat.reduceLT,reduceCtorEq,Nat.reduceEqDiff,Nat.reduceBEq,Nat.reduceAdd,ae ap,hlt,hget,Int.natCast_nonneg,hd,ay]
theorem BV (l:List Val):Ends (exL K 34 tlp2 (lv l l.length l.length)) fun o S=>o = .exit 0∧S.nt=38∧S.sl 0=L (encL l)∧S.sl 3=I l.length∧S.sl 4=I l.length:=by
 unfold tlp2
 conv in ao _ _=>whnf
 rw[aw]
 simp only[go_sem,Nat.reduceLT,reduceCtorEq,Nat.reduceEqDiff,Nat.reduceBEq,Nat.reduceAdd,ay]
theorem ry (l:List Val) (hl:l.length≤100000000) : ∀ (rest:List Val) (i:Nat),l.drop i=rest→i≤l.length →
  Ends (exL K 34 tlp2 (lv l i l.length)) fun o S=>o = .exit 0∧S.nt=38 ∧ ∃ j:Nat,j≤l.length∧l.drop j=rest.dropWhile Sl.aq∧S.sl 0=L (encL l)∧S.sl 3=I j∧S.sl 4=I l.length
 | [],i,hd,hi=>by
  have hin:i=l.length:=by
   have:=List.drop_eq_nil_iff.1 hd
   omega
  subst hin
  refine cm (BV l) fun o S q=>⟨q.1,q.2.1,l.length,Nat.le_refl _,?_,q.2.2⟩
  simp
 | v::rest,i,hd,hi=>by
  obtain ⟨g1,g2,g3⟩:=bS hd
  cases hb:Sl.aq v with
  | true =>
   rw[DT l i hl v g1 hb,List.dropWhile_cons,if_pos hb]
   exact ry l hl rest (i+1) g2 (by omega)
  | false =>
   refine cm (Gg l i hl v g1 hb) fun o S q=>⟨q.1,q.2.1,i,hi,?_,q.2.2⟩
   rw[hd,List.dropWhile_cons,if_neg (by rw[hb];simp)]
theorem Cu (l:List Val) (i j:Nat) (hl:l.length≤100000000) (hij:i≤j) (v:Val) (hi:l[j]? = some v) (hb:Sl.aq v=true) :
  exL K 34 tlp4 (lv l i (j+1))=exL K 34 tlp4 (lv l i j):=by
 obtain ⟨k,t,c⟩:=v
 have hil:j<l.length:=(List.getElem?_eq_some_iff.1 hi).1
 have hlt:decide ((i:Int)<((j+1:Nat):Int))=true:=decide_eq_true (by omega)
 have hget:=lW l j k t c hi
 have hw:IntKind.i64.wrap (((j+1:Nat):Int) - 1)=(j:Int):=by rw[IntWalk.i64_in _ (by omega)];omega
 have hd:=iq k t c
 rw[hb] at hd
 unfold tlp4
 conv in ao _ _=>whnf
 conv in ao _ _=>whnf
 conv in exL _ _ _ (lv l i (j+1))=>rw[aw]
 simp only[go_sem,Nat.reduceLT,reduceCtorEq,Nat.reduceEqDiff,Nat.reduceBEq,Nat.reduceAdd,ae ap,hlt,hget,Int.natCast_nonneg,hw,hd]
 rw[aB]
 simp only[go_sem,reduceCtorEq,Nat.reduceEqDiff]
theorem Es (l:List Val) (i j:Nat) (hl:l.length≤100000000) (hij:i≤j) (v:Val) (hi:l[j]? = some v) (hb:Sl.aq v=false) :
  Ends (exL K 34 tlp4 (lv l i (j+1))) fun o S=>o = .exit 2∧S.nt=38∧S.sl 0=L (encL l)∧S.sl 3=I i∧S.sl 4=I ((j+1:Nat):Int):=by
 obtain ⟨k,t,c⟩:=v
 have hil:j<l.length:=(List.getElem?_eq_some_iff.1 hi).1
 have hlt:decide ((i:Int)<((j+1:Nat):Int))=true:=decide_eq_true (by omega)
 have hget:=lW l j k t c hi
 have hw:IntKind.i64.wrap (((j+1:Nat):Int) - 1)=(j:Int):=by rw[IntWalk.i64_in _ (by omega)];omega
 have hd:=iq k t c
 rw[hb] at hd
 unfold tlp4
 conv in ao _ _=>whnf
 rw[aw]
 simp only[go_sem,Nat.reduceLT,reduceCtorEq,Nat.reduceEqDiff,Nat.reduceBEq,Nat.reduceAdd,ae ap,hlt,hget,Int.natCast_nonneg,hw,hd,ay]
theorem Ch (l:List Val) (i:Nat):Ends (exL K 34 tlp4 (lv l i i)) fun o S=>o = .exit 2∧S.nt=38∧S.sl 0=L (encL l)∧S.sl 3=I i∧S.sl 4=I i:=by
 unfold tlp4
 conv in ao _ _=>whnf
 rw[aw]
 simp only[go_sem,Nat.reduceLT,reduceCtorEq,Nat.reduceEqDiff,Nat.reduceBEq,Nat.reduceAdd,ay]
theorem so (l:List Val) (hl:l.length≤100000000) (i:Nat) : ∀ (m j:Nat),j=i+m→j≤l.length →
  Ends (exL K 34 tlp4 (lv l i j)) fun o S=>o = .exit 2∧S.nt=38 ∧ ∃ e:Nat,i≤e∧e≤l.length∧(l.take e).drop i=(((l.take j).drop i).reverse.dropWhile Sl.aq).reverse∧S.sl 0=L (encL l)∧S.sl 3=I i∧S.sl 4=I e
 | 0,j,hj,hjl=>by
  obtain rfl:j=i:=by omega
  refine cm (Ch l j) fun o S q=>⟨q.1,q.2.1,j,Nat.le_refl _,hjl,?_,q.2.2⟩
  have:(l.take j).drop j=[]:=by rw[List.drop_eq_nil_iff,List.length_take];omega
  rw[this];rfl
 | m+1,j,hj,hjl=>by
  obtain rfl:j=(i+m)+1:=by omega
  have hlt:i+m<l.length:=by omega
  have hg:l[i+m]? = some l[i+m]:=List.getElem?_eq_getElem hlt
  have htk:(l.take (i+m+1)).drop i=(l.take (i+m)).drop i++[l[i+m]]:=by
   rw[List.take_add_one,hg,Option.toList_some,List.drop_append_of_le_length (by rw[List.length_take];omega)]
  generalize hv:l[i+m]=v at hg htk
  cases hb:Sl.aq v with
  | true =>
   rw[Cu l i (i+m) hl (by omega) v hg hb]
   refine cm (so l hl i m (i+m) rfl (by omega)) fun o S q => ?_
   obtain ⟨q1,q2,e,q3,q4,q5,q6⟩:=q
   refine ⟨q1,q2,e,q3,q4,?_,q6⟩
   rw[q5,htk,List.reverse_append,List.reverse_singleton,List.singleton_append,List.dropWhile_cons,if_pos hb]
  | false =>
   refine cm (Es l i (i+m) hl (by omega) v hg hb) fun o S q=>⟨q.1,q.2.1,i+m+1,by omega,hjl,?_,q.2.2⟩
   rw[htk,List.reverse_append,List.reverse_singleton,List.singleton_append,List.dropWhile_cons,if_neg (by rw[hb];simp),List.reverse_cons,List.reverse_reverse]
theorem FW (l:List Val) (a b:Nat):((encL l).take a).drop b=encL ((l.take a).drop b):=by
 rw[encL_map,encL_map,List.map_drop,List.map_take]
theorem Sl.trim_len (l:List Val):(Sl.trim l).length≤l.length:=by
 unfold Sl.trim
 rw[List.length_reverse]
 have h1:=(List.dropWhile_sublist Sl.aq (l:=(l.dropWhile Sl.aq).reverse)).length_le
 have h2:=(List.dropWhile_sublist Sl.aq (l:=l)).length_le
 rw[List.length_reverse] at h1
 omega
theorem Ed (l:List Val) (hl:l.length≤100000000):den K 34 [L (encL l)] []=some (.ret (L (encL (Sl.trim l))) []):=by
 have h2:=ry l hl l 0 rfl (Nat.zero_le _)
 unfold tlp2 at h2
 conv at h2 in ao _ _=>whnf
 obtain ⟨o,S,w,rfl,hn,j,hj,hjd,s0,s3,s4⟩:=h2
 have h4:=so l hl j (l.length - j) l.length (by omega) (Nat.le_refl _)
 unfold tlp4 at h4
 conv at h4 in ao _ _=>whnf
 obtain ⟨o',S',w',rfl,hn',e,he1,he2,hed,s0',s3',s4'⟩:=h4
 have hres:(l.take e).drop j=Sl.trim l:=by
  rw[hed,List.take_length,hjd];rfl
 have hlen:(Sl.trim l).length<cD:=by
  have:(Sl.trim l).length≤l.length:=by rw[←hres,List.length_drop,List.length_take];omega
  unfold cD;omega
 have hlv:=dD l
 have hlv2:=dD (Sl.trim l)
 have hb1:((0:Int)≤(e:Int)∧(e:Int)≤(l.length:Int))=True:=by rw[eq_iff_iff];simp;omega
 have hb2:((0:Int)≤(j:Int)∧(j:Int)≤(e:Int))=True:=by rw[eq_iff_iff];simp;omega
 refine ai rfl rfl Tryz.func34 rfl Tryz.ntmps34 ⟨by simp,by simp[LK]⟩ ?_
 have hr:Tryz.f34.results = #[.tmp 2]:=rfl
 simp only[go_sem,Nat.reduceLT,reduceCtorEq,Nat.reduceEqDiff,Nat.reduceBEq,Nat.reduceAdd,ah ap,aY]
 rw[aB]
 simp only[go_sem,reduceCtorEq,Nat.reduceEqDiff]
 erw [w]
 simp only[go_sem]
 rw[aB]
 simp only[go_sem,hn,s0,s3,s4]
 erw [w']
 simp only[go_sem,Nat.reduceLT,reduceCtorEq,Nat.reduceEqDiff,Nat.reduceBEq,Nat.reduceAdd,am (len:=0) ap a8 az ⟨rfl,by decide,by decide⟩,dV ap a8,cB cI,br ap,hr,hn',s0',s3',s4',aY,hb1,hb2,Int.toNat_natCast,FW,hres,hlen,hlv,hlv2,wo]
abbrev encP (l:List (List Val)):List (List PV):=l.map fun p=>[.sl (encL p)]
theorem su (l:List (List Val)):lens 1 (encP l)=true:=by simp[lens]
theorem uo (x:PV):lens 1 [[x]]=true:=rfl
theorem uE (out:List (List Val)) (p:List Val):encP out++[[.sl (encL p)]]=encP (out++[p]):=by simp[encP]
theorem Jx (acc:List Val) (k:Int) (t:Tok) (vs:List Val):encL acc++[[.int .i64 k,.int .i64 t.kind,.str t.text,.int .i64 t.n,.sl (encL vs)]]=encL (acc++[.mk k t vs]):=by
 rw[ig];rfl
abbrev atH (s:List UInt8) (l:List Val) (i e e':Nat) (out:List (List Val)) (part:List Val):St :=
  { sl:=upd (upd (upd (upd (upd bot 7 (I i)) 6 (.c (.own e' (encL part)))) 5 (.c (.own e (encP out)))) 1 (T s)) 0 (L (encL l)),bx:=nobox,nt:=38 }
noncomputable def atlp:Code := .loop (ao Tryz.f26 4)
theorem J3 (s:List UInt8) (l:List Val) (i e e':Nat) (out:List (List Val)) (part:List Val) (hl:l.length≤100000000) (ho:out.length≤100000000) (he:e=23∨out=[]) (v:Val) (hi:l[i]? = some v) (hb:Sl.aU s v=true) :
  exL K 26 atlp (atH s l i e e' out part)=exL K 26 atlp (atH s l (i+1) 23 93 (out++[part]) []):=by
 obtain ⟨k,t,c⟩:=v
 have hil:i<l.length:=(List.getElem?_eq_some_iff.1 hi).1
 have hlt:decide ((i:Int)<(l.length:Int))=true:=decide_eq_true (by omega)
 have hget:=lW l i k t c hi
 have hw:IntKind.i64.wrap ((i:Int)+1)=((i+1:Nat):Int):=bA i (by omega)
 have hd:=tz k t c s
 rw[hb] at hd
 have hown:e=23∨(encP out).isEmpty=true:=by
  rcases he with rfl|rfl
  ·exact .inl rfl
  ·exact .inr rfl
 have hlim:out.length+1<cD:=by unfold cD;omega
 have hlv:=su out
 have e0:encL []=[]:=rfl
 unfold atlp
 conv in ao _ _=>whnf
 conv in ao _ _=>whnf
 conv in exL _ _ _ (atH s l i e e' out part)=>rw[aw]
 simp only[go_sem,Nat.reduceLT,reduceCtorEq,Nat.reduceEqDiff,Nat.reduceBEq,Nat.reduceAdd,Nat.reduceMul,am (len:=0) ap a8 az ⟨rfl,by decide,by decide⟩,ah ap,ae ap,am (len:=1) bE cR dY ⟨rfl,by decide,by decide⟩,cB j8,br bE,am (len:=1) ap a8 az ⟨rfl,by decide,by decide⟩,cB cI,br ap,aY,hlt,hget,Int.natCast_nonneg,hw,hd,hown,hlim,hlv,uo,uE]
 rw[aB]
 simp only[go_sem,reduceCtorEq,Nat.reduceEqDiff]
 rfl
theorem KR (s:List UInt8) (l:List Val) (i e e':Nat) (out:List (List Val)) (part:List Val) (hl:l.length≤100000000) (ho:part.length≤100000000) (he:e'=93∨part=[]) (v:Val) (hi:l[i]? = some v) (hb:Sl.aU s v=false) :
  exL K 26 atlp (atH s l i e e' out part)=exL K 26 atlp (atH s l (i+1) e 93 out (part++[v])):=by
 obtain ⟨k,t,c⟩:=v
 have hil:i<l.length:=(List.getElem?_eq_some_iff.1 hi).1
 have hlt:decide ((i:Int)<(l.length:Int))=true:=decide_eq_true (by omega)
 have hget:=lW l i k t c hi
 have hw:IntKind.i64.wrap ((i:Int)+1)=((i+1:Nat):Int):=bA i (by omega)
 have hd:=tz k t c s
 rw[hb] at hd
 have hown:e'=93∨(encL part).isEmpty=true:=by
  rcases he with rfl|rfl
  ·exact .inl rfl
  ·exact .inr rfl
 have hlim:part.length+1<cD:=by unfold cD;omega
 have hlv:=dD part
 unfold atlp
 conv in ao _ _=>whnf
 conv in ao _ _=>whnf
 conv in exL _ _ _ (atH s l i e e' out part)=>rw[aw]
 simp only[go_sem,Nat.reduceLT,reduceCtorEq,Nat.reduceEqDiff,Nat.reduceBEq,Nat.reduceAdd,Nat.reduceMul,ah ap,ae ap,am (len:=1) bE cR dY ⟨rfl,by decide,by decide⟩,cB j8,br bE,am (len:=1) ap a8 az ⟨rfl,by decide,by decide⟩,cB cI,br ap,aY,hlt,hget,Int.natCast_nonneg,hw,hd,hown,hlim,hlv,gS,Jx]
 rw[aB]
 simp only[go_sem,reduceCtorEq,Nat.reduceEqDiff]
theorem J2 (s:List UInt8) (l:List Val) (e e':Nat) (out:List (List Val)) (part:List Val) :
  Ends (exL K 26 atlp (atH s l l.length e e' out part)) fun o S=>o = .exit 0∧S.nt=38∧S.sl 5 = .c (.own e (encP out))∧S.sl 6 = .c (.own e' (encL part)):=by
 unfold atlp
 conv in ao _ _=>whnf
 rw[aw]
 simp only[go_sem,Nat.reduceLT,reduceCtorEq,Nat.reduceEqDiff,Nat.reduceBEq,Nat.reduceAdd,ah ap,aY,ay]
def atF (s:List UInt8) (part:List Val):List Val→List (List Val)
 | []=>[part]
 | v::l=>if Sl.aU s v then part::atF s [] l else atF s (part++[v]) l
theorem zO (s:List UInt8) : ∀ (l part:List Val), ∃ p ps,Sl.at_ s l=p::ps∧atF s part l=(part++p)::ps
 | [],part=>⟨[],[],rfl,by simp[atF]⟩
 | v::l,part=>by
  rw[Sl.at_,atF]
  split
  ·obtain ⟨p,ps,h1,h2⟩:=zO s l []
   exact ⟨[],Sl.at_ s l,rfl,by rw[h1,h2];simp⟩
  ·obtain ⟨p,ps,h1,h2⟩:=zO s l (part++[v])
   rw[h1]
   exact ⟨v::p,ps,rfl,by rw[h2];simp⟩
theorem Kk (s:List UInt8) (l:List Val):atF s [] l=Sl.at_ s l:=by
 obtain ⟨p,ps,h1,h2⟩:=zO s l []
 rw[h1,h2,List.nil_append]
theorem vB (s:List UInt8) (l:List Val) (hl:l.length≤100000000) : ∀ (rest:List Val) (i e e':Nat) (out:List (List Val)) (part:List Val),l.drop i=rest→i≤l.length→out.length≤i→part.length≤i→(e=23∨out=[])→(e'=93∨part=[]) →
  Ends (exL K 26 atlp (atH s l i e e' out part)) fun o S=>o = .exit 0∧S.nt=38 ∧ ∃ (f f':Nat) (out':List (List Val)) (part':List Val),S.sl 5 = .c (.own f (encP out'))∧S.sl 6 = .c (.own f' (encL part'))∧out'++[part']=out++atF s part rest∧out'.length≤l.length∧(f=23∨out'=[])
 | [],i,e,e',out,part,hd,hi,h1,h2,h3,h4=>by
  have hin:i=l.length:=by
   have:=List.drop_eq_nil_iff.1 hd
   omega
  subst hin
  refine cm (J2 s l e e' out part) fun o S q=>⟨q.1,q.2.1,e,e',out,part,q.2.2.1,q.2.2.2,rfl,h1,h3⟩
 | v::rest,i,e,e',out,part,hd,hi,h1,h2,h3,h4=>by
  obtain ⟨g1,g2,g3⟩:=bS hd
  cases hb:Sl.aU s v with
  | true =>
   rw[J3 s l i e e' out part hl (by omega) h3 v g1 hb]
   have:=vB s l hl rest (i+1) 23 93 (out++[part]) [] g2 (by omega) (by rw[List.length_append,List.length_singleton];omega) (Nat.zero_le _) (.inl rfl) (.inl rfl)
   rw[List.append_assoc,List.singleton_append] at this
   rw[atF,hb,if_pos rfl]
   exact this
  | false =>
   rw[KR s l i e e' out part hl (by omega) h4 v g1 hb]
   have:=vB s l hl rest (i+1) e 93 out (part++[v]) g2 (by omega) (by omega) (by rw[List.length_append,List.length_singleton];omega) h3 (.inl rfl)
   rw[atF,hb,if_neg (by simp)]
   exact this
theorem Ki (l:List Val) (s:List UInt8) (hl:l.length≤100000000):den K 26 [L (encL l),T s] []=some (.ret (L (encP (Sl.at_ s l))) []):=by
 have h:=vB s l hl l 0 23 93 [] [] rfl (Nat.zero_le _) (Nat.le_refl _) (Nat.le_refl _) (.inl rfl) (.inl rfl)
 unfold atlp at h
 conv at h in ao _ _=>whnf
 obtain ⟨o,S,w,rfl,hn,f,f',out,part,s5,s6,hp,hlen,hf⟩:=h
 rw[List.nil_append,Kk] at hp
 rw[←hp,←uE]
 have hown:f=23∨(encP out).isEmpty=true:=by
  rcases hf with rfl|rfl
  ·exact .inl rfl
  ·exact .inr rfl
 have hlim:out.length+1<cD:=by unfold cD;omega
 have hlv:=su out
 have e0:encL []=[]:=rfl
 refine ai rfl rfl Tryz.func26 rfl Tryz.ntmps26 ⟨by simp,by simp[LK]⟩ ?_
 have hr:Tryz.f26.results = #[.tmp 4]:=rfl
 simp only[go_sem,Nat.reduceLT,Nat.reduceEqDiff,Nat.reduceBEq,Nat.reduceAdd,am (len:=0) bE cR dY ⟨rfl,by decide,by decide⟩,am (len:=0) ap a8 az ⟨rfl,by decide,by decide⟩]
 rw[aB]
 simp only[go_sem,reduceCtorEq,Nat.reduceEqDiff]
 erw [w]
 simp only[go_sem,Nat.reduceLT,reduceCtorEq,Nat.reduceEqDiff,Nat.reduceBEq,Nat.reduceAdd,Nat.reduceMul,am (len:=1) bE cR dY ⟨rfl,by decide,by decide⟩,cB j8,br bE,hr,hn,s5,s6,hown,hlim,hlv,uo]
attribute [local go_sem] Fd Ck CA Fh
theorem ld (k:Int) (t:Tok) (l:List Val):den K 123 [.agg (iY k t l)] []=some (.ret (B (Sl.aq (.mk k t l))) []):=by
 refine ai rfl rfl Tryz.func123 rfl Tryz.ntmps123 ⟨by simp,by simp[LK]⟩ ?_
 have hr:Tryz.f123.results = #[.tmp 2]:=rfl
 have hs:Sl.aq (.mk k t l)=((k==1)&&(t.kind==8)):=rfl
 rw[hs]
 cases e1:(k==1)
 ·simp only[go_sem,Nat.reduceLT,Nat.reduceEqDiff,Nat.reduceBEq,Nat.reduceAdd,Nat.reduceSub,Nat.reduceLeDiff,hr,e1]
 ·simp only[go_sem,Nat.reduceLT,Nat.reduceEqDiff,Nat.reduceBEq,Nat.reduceAdd,Nat.reduceSub,Nat.reduceLeDiff,hr,e1]
abbrev trH (l:List Val):St := { sl:=upd bot 0 (L (encL l)),bx:=nobox,nt:=33 }
noncomputable def trlp1:Code := .loop (ao Tryz.f70 1)
noncomputable def trlp3:Code := .loop (ao Tryz.f70 3)
theorem rP (k:Int) (t:Tok) (c r:List Val):(encL (.mk k t c::r))[(0:Int).toNat]? = some [.int .i64 k,.int .i64 t.kind,.str t.text,.int .i64 t.n,.sl (encL c)]:=rfl
theorem yH (v:Val) (r:List Val) (n:Nat) (h:n=r.length+1):((encL (v::r)).take n).drop (1:Int).toNat=encL r:=by
 subst h
 rw[encL,List.take_of_length_le (by rw[List.length_cons,aY];omega)];rfl
theorem le00:((0:Int)≤0)=True:=by simp
theorem Hm (v:Val) (r:List Val) (hl:r.length≤100000000) (hb:Sl.aq v=true) :
  exL K 70 trlp1 (trH (v::r))=exL K 70 trlp1 (trH r):=by
 obtain ⟨k,t,c⟩:=v
 have hlt:decide ((0:Int)<(((r.length+1:Nat)):Int))=true:=decide_eq_true (by omega)
 have hget:=rP k t c r
 have hcut:=yH (.mk k t c) r (r.length+1) rfl
 have hb1:((0:Int)≤1∧(1:Int)≤((r.length+1:Nat):Int))=True:=by rw[eq_iff_iff];simp;omega
 have hlv:=dD (.mk k t c::r)
 have hd:=ld k t c
 rw[hb] at hd
 unfold trlp1
 conv in ao _ _=>whnf
 conv in ao _ _=>whnf
 conv in exL _ _ _ (trH (.mk k t c::r))=>rw[aw]
 simp only[go_sem,Nat.reduceLT,reduceCtorEq,Nat.reduceEqDiff,Nat.reduceBEq,Nat.reduceAdd,ah ap,ae ap,dV ap a8,aY,List.length_cons,hlt,hget,hd,hb1,hlv,hcut,le00]
 rw[aB]
 simp only[go_sem,reduceCtorEq]
theorem J0 (v:Val) (r:List Val) (hl:r.length≤100000000) (hb:Sl.aq v=false) :
  Ends (exL K 70 trlp1 (trH (v::r))) fun o S=>o = .exit 0∧S.nt=33∧S.sl 0=L (encL (v::r)):=by
 obtain ⟨k,t,c⟩:=v
 have hlt:decide ((0:Int)<(((r.length+1:Nat)):Int))=true:=decide_eq_true (by omega)
 have hget:=rP k t c r
 have hd:=ld k t c
 rw[hb] at hd
 unfold trlp1
 conv in ao _ _=>whnf
 rw[aw]
 simp only[go_sem,Nat.reduceLT,reduceCtorEq,Nat.reduceEqDiff,Nat.reduceBEq,Nat.reduceAdd,ah ap,ae ap,aY,List.length_cons,hlt,hget,hd,le00,ay]
theorem I4:Ends (exL K 70 trlp1 (trH [])) fun o S=>o = .exit 0∧S.nt=33∧S.sl 0=L (encL []):=by
 have hlt:decide ((0:Int)<((0:Nat):Int))=false:=rfl
 unfold trlp1
 conv in ao _ _=>whnf
 rw[aw]
 simp only[go_sem,Nat.reduceLT,reduceCtorEq,Nat.reduceEqDiff,Nat.reduceBEq,Nat.reduceAdd,ah ap,aY,List.length_nil,hlt,ay]
theorem yB : ∀ (l:List Val),l.length≤100000000→Ends (exL K 70 trlp1 (trH l)) fun o S=>o = .exit 0∧S.nt=33∧S.sl 0=L (encL (l.dropWhile Sl.aq))
 | [],_=>I4
 | v::r,hl=>by
  rw[List.length_cons] at hl
  cases hb:Sl.aq v with
  | true =>
   rw[Hm v r (by omega) hb,List.dropWhile_cons,if_pos hb]
   exact yB r (by omega)
  | false =>
   rw[List.dropWhile_cons,if_neg (by rw[hb];simp)]
   exact J0 v r (by omega) hb
theorem wz (m:List Val) (k:Int) (t:Tok) (c:List Val):(encL (m++[.mk k t c]))[((m.length:Nat):Int).toNat]? = some [.int .i64 k,.int .i64 t.kind,.str t.text,.int .i64 t.n,.sl (encL c)]:=by
 exact rt (m++[.mk k t c]) m.length (.mk k t c) (by simp)
theorem E8 (m:List Val) (v:Val):(encL (m++[v])).take m.length=encL m:=by
 rw[ig,List.take_append_of_le_length (by rw[aY];exact Nat.le_refl _),List.take_of_length_le (by rw[aY];exact Nat.le_refl _)]
theorem H6 (m:List Val) (v:Val) (hl:m.length≤100000000) (hb:Sl.aq v=true) :
  exL K 70 trlp3 (trH (m++[v]))=exL K 70 trlp3 (trH m):=by
 obtain ⟨k,t,c⟩:=v
 have hn:(encL (m++[.mk k t c])).length=m.length+1:=by rw[aY];simp
 have hlt:decide ((0:Int)<(((m.length+1:Nat)):Int))=true:=decide_eq_true (by omega)
 have hw:IntKind.i64.wrap (((m.length+1:Nat):Int) - 1)=(m.length:Int):=by rw[IntWalk.i64_in _ (by omega)];omega
 have hget:=wz m k t c
 have hcut:=E8 m (.mk k t c)
 have hb1:((m.length:Int)≤((m.length+1:Nat):Int))=True:=by rw[eq_iff_iff];simp;omega
 have hlv:=dD (m++[.mk k t c])
 have hd:=ld k t c
 rw[hb] at hd
 rw[Int.toNat_natCast] at hget
 unfold trlp3
 conv in ao _ _=>whnf
 conv in ao _ _=>whnf
 conv in exL _ _ _ (trH (m++[.mk k t c]))=>rw[aw]
 simp only[go_sem,Nat.reduceLT,reduceCtorEq,Nat.reduceEqDiff,Nat.reduceBEq,Nat.reduceAdd,ah ap,ae ap,dV ap a8,hn,hlt,hw,Int.natCast_nonneg,Int.toNat_natCast,hget,hd,hb1,hlv,hcut]
 rw[aB]
 simp only[go_sem,reduceCtorEq]
theorem Ks (m:List Val) (v:Val) (hl:m.length≤100000000) (hb:Sl.aq v=false) :
  Ends (exL K 70 trlp3 (trH (m++[v]))) fun o S=>o = .exit 2∧S.nt=33∧S.sl 0=L (encL (m++[v])):=by
 obtain ⟨k,t,c⟩:=v
 have hn:(encL (m++[.mk k t c])).length=m.length+1:=by rw[aY];simp
 have hlt:decide ((0:Int)<(((m.length+1:Nat)):Int))=true:=decide_eq_true (by omega)
 have hw:IntKind.i64.wrap (((m.length+1:Nat):Int) - 1)=(m.length:Int):=by rw[IntWalk.i64_in _ (by omega)];omega
 have hget:=wz m k t c
 have hd:=ld k t c
 rw[hb] at hd
 rw[Int.toNat_natCast] at hget
 unfold trlp3
 conv in ao _ _=>whnf
 rw[aw]
 simp only[go_sem,Nat.reduceLT,reduceCtorEq,Nat.reduceEqDiff,Nat.reduceBEq,Nat.reduceAdd,ah ap,ae ap,hn,hlt,hw,Int.natCast_nonneg,Int.toNat_natCast,hget,hd,ay]
theorem HA:Ends (exL K 70 trlp3 (trH [])) fun o S=>o = .exit 2∧S.nt=33∧S.sl 0=L (encL []):=by
 have hlt:decide ((0:Int)<((0:Nat):Int))=false:=rfl
 unfold trlp3
 conv in ao _ _=>whnf
 rw[aw]
 simp only[go_sem,Nat.reduceLT,reduceCtorEq,Nat.reduceEqDiff,Nat.reduceBEq,Nat.reduceAdd,ah ap,aY,List.length_nil,hlt,ay]
theorem xM : ∀ (n:Nat) (l:List Val),l.length=n→l.length≤100000000→Ends (exL K 70 trlp3 (trH l)) fun o S=>o = .exit 2∧S.nt=33∧S.sl 0=L (encL (l.reverse.dropWhile Sl.aq).reverse)
 | 0,l,h,_=>by
  obtain rfl:l=[]:=List.eq_nil_of_length_eq_zero h
  exact HA
 | n+1,l,h,hl=>by
  obtain ⟨m,v,rfl⟩ : ∃ m v,l=m++[v]:=⟨l.dropLast,l.getLast (fun e=>by rw[e] at h;simp at h),(List.dropLast_concat_getLast _).symm⟩
  rw[List.length_append,List.length_singleton] at h hl
  rw[List.reverse_append,List.reverse_singleton,List.singleton_append]
  cases hb:Sl.aq v with
  | true =>
   rw[H6 m v (by omega) hb,List.dropWhile_cons,if_pos hb]
   exact xM n m (by omega) (by omega)
  | false =>
   rw[List.dropWhile_cons,if_neg (by rw[hb];simp),List.reverse_cons,List.reverse_reverse]
   exact Ks m v (by omega) hb
theorem Cp (l:List Val) (hl:l.length≤1000000000):den K 124 [L (encL l)] []=some (.ret (L (encL l)) []):=by
 refine eW (F:=vd) rfl ?_
 show (if (encL l).length≤1000000000∧(encL l).all (fun el=>el.length==5) then _ else none)=_
 have h2:(encL l).all (fun el=>el.length==5)=true:=dD l
 rw[if_pos ⟨by rw[aY];exact hl,h2⟩]
theorem mO (l:List Val) (hl:l.length≤100000000):den K 70 [L (encL l)] []=some (.ret (L (encL (Sl.trim l))) []):=by
 have h1:=yB l hl
 have hlen:=(List.dropWhile_sublist Sl.aq (l:=l)).length_le
 have h3:=xM _ (l.dropWhile Sl.aq) rfl (by omega)
 unfold trlp1 at h1
 conv at h1 in ao _ _=>whnf
 obtain ⟨o,S,w,rfl,hn,s0⟩:=h1
 unfold trlp3 at h3
 conv at h3 in ao _ _=>whnf
 obtain ⟨o',S',w',rfl,hn',s0'⟩:=h3
 have hc:=Cp (Sl.trim l) (by have:=Sl.trim_len l;omega)
 have e:(((l.dropWhile Sl.aq).reverse).dropWhile Sl.aq).reverse=Sl.trim l:=rfl
 rw[e] at s0'
 refine ai rfl rfl Tryz.func70 rfl Tryz.ntmps70 ⟨by simp,by simp[LK]⟩ ?_
 have hr:Tryz.f70.results = #[.tmp 2]:=rfl
 simp only[go_sem,Nat.reduceLT,Nat.reduceBEq]
 rw[aB]
 simp only[go_sem,reduceCtorEq]
 erw [w]
 simp only[go_sem]
 rw[aB]
 simp only[go_sem,hn,s0]
 erw [w']
 simp only[go_sem,Nat.reduceLT,Nat.reduceEqDiff,Nat.reduceBEq,Nat.reduceAdd,hr,hn',s0',hc]
theorem B7 (s:List UInt8):SR.aU s=Sl.aU s:=by funext v;cases v;rfl
theorem zL:SR.aq=Sl.aq:=by funext v;cases v;rfl
theorem sc (p:Val→Bool) : ∀ l:List Val,cutL p l=Sl.cut p l
 | []=>rfl
 | v::l=>by
  rw[cutL,Sl.cut,sc p l]
  all_goals (cases Sl.cut p l<;>rfl)
theorem uZ (s:List UInt8) : ∀ l:List Val,Sl.cut (Sl.aU s) l=Sl.at_ s l
 | []=>rfl
 | v::l=>by
  rw[Sl.cut,Sl.at_,uZ s l]
  all_goals (cases Sl.at_ s l<;>rfl)
theorem Hg (l:List Val) (s:List UInt8) (hl:Ne.size l≤100000000):den K 45 [L (encL l),T s] []=some (.ret (L (encP (Sl.at_ s l))) []):=by
 refine eW (F:=pAt) rfl ?_
 have hlen:=Ne.cU l
 show (match om (encL l) with|some vs=>if vs.length≤100000000 then some ((.c (.pv (.sl (uD (cutL (SR.aU s) vs)))):AV),([]:List (List CV))) else none|none=>none)=_
 rw[xo l (by omega)]
 simp only
 rw[if_pos (by omega),B7,sc,uZ]
theorem AI (l:List Val) (hl:Ne.size l≤100000000):den K 206 [L (encL l)] []=some (.ret (L (encP (Sl.words l))) []):=by
 refine eW (F:=u0) rfl ?_
 have hlen:=Ne.cU l
 show (match om (encL l) with|some vs=>if vs.length≤100000000 then some ((.c (.pv (.sl (uD (full (cutL SR.aq vs))))):AV),([]:List (List CV))) else none|none=>none)=_
 rw[xo l (by omega)]
 simp only
 rw[if_pos (by omega),zL,sc];rfl
end Go.Abs
set_option linter.unusedSimpArgs true
namespace Go.Abs
open Go Go.Proofs
set_option maxRecDepth 10000
attribute [local go_sem] cM bt ck bJ bH cL cq co aR bU bO ci cN bF opd avOf cvOf St.degAt St.put okPV dA okAV cZ cY cX cG aH if_true Bool.false_eq_true if_false Option.map_some Option.map_none Option.bind_some Option.bind_none dC dr upd List.toList_toArray cA steal bm mvB c8 cF cE AV.deg CV.deg AV.gv AV.isIter cy cj bK List.length_nil List.length_cons List.filterMap_cons List.filterMap_nil beq_iff_eq List.getElem?_cons_zero List.getElem?_cons_succ Option.getD_some dE ev Bool.false_and Bool.and_false Bool.and_self K_P eN bZ cz bh lend back idx dedup AV.ren CV.ren TV.ren AV.ptrs CV.ptrs cH AV.flat CV.flat cf bQ aV cK cQ dM bW aM bX bc bv bR bd d8 CV.pv? content bo ownT aW reps pvs chunks bM leave dU cw cV bG bg TV.deg TV.av LK CV.plain CV.noBld cJ dX bound List.map_cons List.map_nil List.all_cons List.all_nil List.any_cons List.any_nil List.contains_cons List.contains_nil List.elem_cons List.elem_nil List.cons_append List.nil_append List.append_nil List.flatMap_cons List.flatMap_nil List.zip_cons_cons List.zip_nil_left List.zip_nil_right List.take_succ_cons List.take_zero List.take_nil List.drop_succ_cons List.drop_zero List.drop_nil List.isEmpty_nil List.isEmpty_cons Bool.and_true Bool.true_and Bool.or_true Bool.true_or Bool.or_false Bool.false_or Bool.not_true Bool.not_false Nat.add_zero Nat.zero_add Option.isNone_none Option.isNone_some Option.getD_none true_and and_true not_true_eq_false not_false_eq_true decide_true decide_false Nat.le_refl and_self Bool.not_eq_true Nat.sub_self or_true true_or Option.some.injEq List.length_map List.nil_eq and_false false_and AV.live CV.live CV.liveIn dq aX Option.orElse_some Option.orElse_none head a7 a6 Int.lt_irrefl List.length_append ite_self dz ce cO bu Key.clash Key.sees Key.writes Nat.lt_irrefl gt_iff_lt cg dc false_or or_false beq_self_eq_true Bool.true_beq Bool.false_beq
theorem rZ (a:List (List Val)):(encP a).length=a.length:=List.length_map ..
theorem AY (a:List (List Val)) (i:Nat) (p:List Val) (h:a[i]? = some p):(encP a)[(i:Int).toNat]? = some [.sl (encL p)]:=by
 rw[Int.toNat_natCast,List.getElem?_map,h];rfl
end Go.Abs
set_option linter.unusedSimpArgs true
namespace Go.Abs
open Go Go.Proofs
set_option maxRecDepth 10000
attribute [local go_sem] cM bt ck bJ bH cL cq co aR bU bO ci cN bF opd avOf cvOf St.degAt St.put okPV dA okAV cZ cY cX cG aH if_true Bool.false_eq_true if_false Option.map_some Option.map_none Option.bind_some Option.bind_none dC dr upd List.toList_toArray cA steal bm mvB c8 cF cE AV.deg CV.deg AV.gv AV.isIter cy cj bK List.length_nil List.length_cons List.filterMap_cons List.filterMap_nil beq_iff_eq List.getElem?_cons_zero List.getElem?_cons_succ Option.getD_some dE ev Bool.false_and Bool.and_false Bool.and_self K_P eN bZ cz bh lend back idx dedup AV.ren CV.ren TV.ren AV.ptrs CV.ptrs cH AV.flat CV.flat cf bQ aV cK cQ dM bW aM bX bc bv bR bd d8 CV.pv? content bo ownT aW reps pvs chunks bM leave dU cw cV bG bg TV.deg TV.av LK CV.plain CV.noBld cJ dX bound List.map_cons List.map_nil List.all_cons List.all_nil List.any_cons List.any_nil List.contains_cons List.contains_nil List.elem_cons List.elem_nil List.cons_append List.nil_append List.append_nil List.flatMap_cons List.flatMap_nil List.zip_cons_cons List.zip_nil_left List.zip_nil_right List.take_succ_cons List.take_zero List.take_nil List.drop_succ_cons List.drop_zero List.drop_nil List.isEmpty_nil List.isEmpty_cons Bool.and_true Bool.true_and Bool.or_true Bool.true_or Bool.or_false Bool.false_or Bool.not_true Bool.not_false Nat.add_zero Nat.zero_add Option.isNone_none Option.isNone_some Option.getD_none true_and and_true not_true_eq_false not_false_eq_true decide_true decide_false Nat.le_refl and_self Bool.not_eq_true Nat.sub_self or_true true_or Option.some.injEq List.length_map List.nil_eq and_false false_and AV.live CV.live CV.liveIn dq aX Option.orElse_some Option.orElse_none head a7 a6 Int.lt_irrefl List.length_append ite_self dz ce cO bu Key.clash Key.sees Key.writes Nat.lt_irrefl gt_iff_lt cg dc false_or or_false beq_self_eq_true Bool.true_beq Bool.false_beq
theorem appV (a b:List Val):encL a++encL b=encL (a++b):=(ig a b).symm
theorem DA (a:List Val) (d:List UInt8):encL a++[[PV.int .i64 1,.int .i64 7,.str d,.int .i64 0,.sl []]]=encL (a++[Sl.jt d]):=by
 rw[ig];rfl
end Go.Abs
namespace Go.Abs
open Go Go.Proofs
set_option maxRecDepth 10000
attribute [local go_sem] cM bt ck bJ bH cL cq co aR bU bO ci cN bF opd avOf cvOf St.degAt St.put okPV dA okAV cZ cY cX cG aH if_true Bool.false_eq_true if_false Option.map_some Option.map_none Option.bind_some Option.bind_none dC dr upd List.toList_toArray cA steal bm mvB c8 cF cE AV.deg CV.deg AV.gv AV.isIter cy cj bK List.length_nil List.length_cons List.filterMap_cons List.filterMap_nil beq_iff_eq List.getElem?_cons_zero List.getElem?_cons_succ Option.getD_some dE ev Bool.false_and Bool.and_false Bool.and_self K_P eN bZ cz bh lend back idx dedup AV.ren CV.ren TV.ren AV.ptrs CV.ptrs cH AV.flat CV.flat cf bQ aV cK cQ dM bW aM bX bc bv bR bd d8 CV.pv? content bo ownT aW reps pvs chunks bM leave dU cw cV bG bg TV.deg TV.av LK CV.plain CV.noBld cJ dX bound List.map_cons List.map_nil List.all_cons List.all_nil List.any_cons List.any_nil List.contains_cons List.contains_nil List.elem_cons List.elem_nil List.cons_append List.nil_append List.append_nil List.flatMap_cons List.flatMap_nil List.zip_cons_cons List.zip_nil_left List.zip_nil_right List.take_succ_cons List.take_zero List.take_nil List.drop_succ_cons List.drop_zero List.drop_nil List.isEmpty_nil List.isEmpty_cons Bool.and_true Bool.true_and Bool.or_true Bool.true_or Bool.or_false Bool.false_or Bool.not_true Bool.not_false Nat.add_zero Nat.zero_add Option.isNone_none Option.isNone_some Option.getD_none true_and and_true not_true_eq_false not_false_eq_true decide_true decide_false Nat.le_refl and_self Bool.not_eq_true Nat.sub_self or_true true_or Option.some.injEq List.length_map List.nil_eq and_false false_and AV.live CV.live CV.liveIn dq aX Option.orElse_some Option.orElse_none head a7 a6 Int.lt_irrefl List.length_append ite_self dz ce cO bu Key.clash Key.sees Key.writes Nat.lt_irrefl gt_iff_lt cg dc false_or or_false beq_self_eq_true Bool.true_beq Bool.false_beq cR eD CR
abbrev rjH (d:List UInt8) (ps:List (List Val)) (e:Nat) (out:List Val) (i:Nat):St :=
  { sl:=upd (upd (upd (upd bot 6 (I i)) 5 (.c (.own e (encL out)))) 1 (T d)) 0 (L (encP ps)),bx:=nobox,nt:=29 }
noncomputable def rjlp:Code := .loop (ao Tryz.f25 3)
theorem Jg (d:List UInt8) (ps:List (List Val)) (e:Nat) (out p:List Val) (hi:ps[0]? = some p) (hl:ps.length≤100000000) (ho:out.length+p.length≤100000000) (he:e=93∨out=[]) :
  exL K 25 rjlp (rjH d ps e out 0)=exL K 25 rjlp (rjH d ps 93 (out++p) 1):=by
 have hil:0<ps.length:=(List.getElem?_eq_some_iff.1 hi).1
 have hlt:decide (((0:Nat):Int)<(ps.length:Int))=true:=decide_eq_true (by omega)
 have hget:=AY ps 0 p hi
 have h0:decide ((0:Int)<((0:Nat):Int))=false:=rfl
 have hws:IntKind.i64.wrap (((0:Nat):Int)+1)=((1:Nat):Int):=by decide
 have hown:e=93∨(encL out).isEmpty=true:=by
  rcases he with rfl|rfl
  ·exact .inl rfl
  ·exact .inr rfl
 have hlim:out.length+p.length<cD:=by unfold cD;omega
 have hlv:=dD out
 have hlv2:=dD p
 unfold rjlp
 conv in ao _ _=>whnf
 conv in ao _ _=>whnf
 conv in exL _ _ _ (rjH d ps e out 0)=>rw[aw]
 simp only[go_sem,Nat.reduceLT,reduceCtorEq,Nat.reduceEqDiff,Nat.reduceBEq,Nat.reduceAdd,Nat.reduceLeDiff,Nat.reduceMul,ah bE,af ab aj,af az bB,am (len:=1) ap a8 az ⟨rfl,by decide,by decide⟩,cB cI,br ap,ae bE,rZ,aY,hlt,hget,Int.natCast_nonneg,h0,hws,hown,hlim,hlv,hlv2,appV]
 rw[aB]
 simp only[go_sem,reduceCtorEq,Nat.reduceEqDiff]
theorem KD (d:List UInt8) (ps:List (List Val)) (e:Nat) (out p:List Val) (i:Nat) (h0:0<i) (hi:ps[i]? = some p) (hl:ps.length≤100000000) (ho:out.length+p.length<100000000) (he:e=93∨out=[]) :
  exL K 25 rjlp (rjH d ps e out i)=exL K 25 rjlp (rjH d ps 93 (out++[Sl.jt d]++p) (i+1)):=by
 have hil:i<ps.length:=(List.getElem?_eq_some_iff.1 hi).1
 have hlt:decide ((i:Int)<(ps.length:Int))=true:=decide_eq_true (by omega)
 have hget:=AY ps i p hi
 have h0':decide ((0:Int)<(i:Int))=true:=decide_eq_true (by omega)
 have hws:IntKind.i64.wrap ((i:Int)+1)=((i+1:Nat):Int):=bA i (by omega)
 have hown:e=93∨(encL out).isEmpty=true:=by
  rcases he with rfl|rfl
  ·exact .inl rfl
  ·exact .inr rfl
 have hsl:(out++[Sl.jt d]).length=out.length+1:=by simp
 have hlim:out.length+1<cD:=by unfold cD;omega
 have hlim2:(out++[Sl.jt d]).length+p.length<cD:=by rw[hsl];unfold cD;omega
 have hlv:=dD out
 have hlv1:=dD (out++[Sl.jt d])
 have hlv2:=dD p
 generalize hO:out++[Sl.jt d]=O at hlim2 hlv1
 have hsn:=DA out d
 rw[hO] at hsn
 unfold rjlp
 conv in ao _ _=>whnf
 conv in ao _ _=>whnf
 conv in exL _ _ _ (rjH d ps e out i)=>rw[aw]
 simp only[go_sem,Nat.reduceLT,reduceCtorEq,Nat.reduceEqDiff,Nat.reduceBEq,Nat.reduceAdd,Nat.reduceLeDiff,Nat.reduceMul,ah bE,af ab aj,af az bB,am (len:=1) ap a8 az ⟨rfl,by decide,by decide⟩,cB cI,br ap,ae bE,rZ,aY,hlt,hget,Int.natCast_nonneg,h0',hws,hown,hlim,hlim2,hlv,hlv1,hlv2,gS,hsn,appV]
 rw[aB]
 simp only[go_sem,reduceCtorEq,Nat.reduceEqDiff]
theorem EX (d:List UInt8) (ps:List (List Val)) (e:Nat) (out:List Val):Ends (exL K 25 rjlp (rjH d ps e out ps.length)) fun o S=>o = .exit 0∧S.nt=29∧S.sl 5 = .c (.own e (encL out)):=by
 unfold rjlp
 conv in ao _ _=>whnf
 rw[aw]
 simp only[go_sem,Nat.reduceLT,reduceCtorEq,Nat.reduceEqDiff,Nat.reduceBEq,Nat.reduceAdd,ah bE,rZ,ay]
theorem BD (d:List UInt8) (ps:List (List Val)) (hl:ps.length≤100000000) : ∀ (rest:List (List Val)) (i e:Nat) (out:List Val),ps.drop i=rest→0<i→i≤ps.length→(e=93∨out=[])→out.length+(Sl.joins d rest).length<100000000 →
  Ends (exL K 25 rjlp (rjH d ps e out i)) fun o S=>o = .exit 0∧S.nt=29 ∧ ∃ f,S.sl 5 = .c (.own f (encL (out++Sl.joins d rest)))
 | [],i,e,out,hd,h0,hi,he,ho=>by
  have hin:i=ps.length:=by
   have:=List.drop_eq_nil_iff.1 hd
   omega
  subst hin
  refine cm (EX d ps e out) fun o S q=>⟨q.1,q.2.1,e,?_⟩
  rw[Sl.uO,List.append_nil]
  exact q.2.2
 | p::rest,i,e,out,hd,h0,hi,he,ho=>by
  obtain ⟨g1,g2,g3⟩:=bS hd
  rw[Sl.nl,List.length_cons,List.length_append] at ho
  rw[KD d ps e out p i h0 g1 hl (by omega) he]
  have:=BD d ps hl rest (i+1) 93 (out++[Sl.jt d]++p) g2 (by omega) (by omega) (.inl rfl) (by simp only[List.length_append,List.length_singleton];omega)
  rw[Sl.nl]
  simp only[List.append_assoc,List.singleton_append] at this ⊢
  exact this
theorem B3 (d:List UInt8) (ps:List (List Val)) (hl:ps.length≤100000000) (ho:(Sl.join d ps).length<100000000):den K 25 [L (encP ps),T d] []=some (.ret (L (encL (Sl.join d ps))) []):=by
 have key:Ends (exL K 25 rjlp (rjH d ps 93 [] 0)) fun o S=>o = .exit 0∧S.nt=29 ∧ ∃ f,S.sl 5 = .c (.own f (encL (Sl.join d ps))):=by
  cases ps with
  | nil=>exact cm (EX d [] 93 []) fun o S q=>⟨q.1,q.2.1,93,q.2.2⟩
  | cons p ps =>
   rw[Sl.join,List.length_append] at ho
   rw[Jg d (p::ps) 93 [] p rfl hl (by rw[List.length_nil];omega) (.inr rfl)]
   refine cm (BD d (p::ps) hl ps 1 93 ([]++p) rfl (by omega) (by simp) (.inl rfl) (by rw[List.nil_append];omega)) fun o S q => ?_
   rw[List.nil_append] at q
   exact q
 unfold rjlp at key
 conv at key in ao _ _=>whnf
 obtain ⟨o,S,w,rfl,hn,f,s5⟩:=key
 have e0:encL []=[]:=rfl
 have z0:((0:Nat):Int)=0:=rfl
 simp only[rjH,e0,z0] at w
 refine ai rfl rfl Tryz.func25 rfl Tryz.ntmps25 ⟨by simp,by simp[LK]⟩ ?_
 have hr:Tryz.f25.results = #[.tmp 4]:=rfl
 simp only[go_sem,Nat.reduceLT,Nat.reduceEqDiff,Nat.reduceBEq,Nat.reduceAdd,am (len:=0) ap a8 az ⟨rfl,by decide,by decide⟩]
 rw[aB]
 simp only[go_sem,reduceCtorEq,Nat.reduceEqDiff]
 erw [w]
 simp only[go_sem,Nat.reduceLT,Nat.reduceEqDiff,Nat.reduceBEq,Nat.reduceAdd,hr,hn,s5]
end Go.Abs
set_option linter.unusedSimpArgs true
namespace Go.Abs
open Go Go.Proofs
theorem yx (c:UInt8):lowB c=Sl.low1 c:=by
 have e1:(65:UInt8)≤c↔65≤c.toNat:=UInt8.le_iff_toNat_le
 have e2:c≤(90:UInt8)↔c.toNat≤90:=UInt8.le_iff_toNat_le
 unfold lowB Sl.low1
 by_cases h:65≤c.toNat∧c.toNat≤90
 ·rw[if_pos h,if_pos ⟨e1.2 h.1,e2.2 h.2⟩]
 ·rw[if_neg h,if_neg (fun k=>h ⟨e1.1 k.1,e2.1 k.2⟩)]
theorem Ig (s:List UInt8) (h:s.length<1000000000):den K 142 [T s] []=some (.ret (T (Sl.low s)) []):=by
 have e:Sl.low s=s.map lowB:=by unfold Sl.low;exact List.map_congr_left fun c _=>(yx c).symm
 rw[e]
 exact eW (F:=pLow) rfl (by unfold pLow;simp only;rw[if_pos (by unfold bT;omega)])
end Go.Abs
set_option linter.unusedSimpArgs true
namespace Go.Abs
open Go
inductive Clo (g:Nat):CV→List AV→Option (List CV)→List (List CV)→Prop
 | no:Clo g (.fn g []) [] none []
 | one (cs:List PV):Clo g (.fn g [(100000,0)]) [P0] (some (cs.map CV.pv)) [cs.map CV.pv]
theorem jb {α:Type}:(#[]:Array α).isEmpty=true:=rfl
theorem oM (f:Nat→Option Nat) (cs:List PV):(cs.map CV.pv).map (CV.ren f)=cs.map CV.pv:=by
 rw[List.map_map];exact List.map_congr_left fun _ _=>rfl
theorem kD (bs:List Nat) (cs:List PV):(cs.map CV.pv).map (CV.live bs)=cs.map CV.pv:=by
 rw[List.map_map];exact List.map_congr_left fun _ _=>rfl
def encT (l:List (List UInt8)):List (List PV):=l.map fun s=>[.str s]
theorem ye (l:List (List UInt8)):(encT l).length=l.length:=List.length_map ..
theorem JX (l:List (List UInt8)) (i:Nat) (x:List UInt8) (h:l[i]? = some x):(encT l)[(i:Int).toNat]? = some [.str x]:=by
 rw[Int.toNat_natCast,encT,List.getElem?_map,h];rfl
def ixI (o:Option Nat):Int:=match o with|some j=>j|none => -1
theorem Eu {α:Type} {p:α→Bool} {l:List α}:decide (0≤ixI (l.findIdx? p))=l.any p:=by
 cases h:l.findIdx? p with
 | none =>
  rw[List.findIdx?_eq_none_iff] at h
  have:l.any p=false:=by
   rw[List.any_eq_false]
   intro x hx
   rw[h x hx];simp
  rw[this];decide
 | some j =>
  obtain ⟨hj,hp,_⟩:=List.findIdx?_eq_some_iff_getElem.1 h
  have:l.any p=true:=by
   rw[List.any_eq_true]
   exact ⟨_,List.getElem_mem hj,hp⟩
  rw[this]
  show decide ((0:Int)≤(j:Int))=true
  exact decide_eq_true (by omega)
end Go.Abs
namespace Go.Abs
open Go Go.Proofs
set_option maxRecDepth 10000
attribute [local go_sem] cM bt ck bJ bH cL cq co aR bU bO ci cN bF opd avOf cvOf St.degAt St.put okPV dA okAV cZ cY cX cG aH if_true Bool.false_eq_true if_false Option.map_some Option.map_none Option.bind_some Option.bind_none dC dr upd List.toList_toArray cA steal bm mvB c8 cF cE AV.deg CV.deg AV.gv AV.isIter cy cj bK List.length_nil List.length_cons List.filterMap_cons List.filterMap_nil beq_iff_eq List.getElem?_cons_zero List.getElem?_cons_succ Option.getD_some dE ev Bool.false_and Bool.and_false Bool.and_self K_P eN bZ cz bh lend back idx dedup AV.ren CV.ren TV.ren AV.ptrs CV.ptrs cH AV.flat CV.flat cf bQ aV cK cQ dM bW aM bX bc bv bR bd d8 CV.pv? content bo ownT aW reps pvs chunks bM leave dU cw cV bG bg TV.deg TV.av LK CV.plain CV.noBld cJ dX bound List.map_cons List.map_nil List.all_cons List.all_nil List.any_cons List.any_nil List.contains_cons List.contains_nil List.elem_cons List.elem_nil List.cons_append List.nil_append List.append_nil List.flatMap_cons List.flatMap_nil List.zip_cons_cons List.zip_nil_left List.zip_nil_right List.take_succ_cons List.take_zero List.take_nil List.drop_succ_cons List.drop_zero List.drop_nil List.isEmpty_nil List.isEmpty_cons Bool.and_true Bool.true_and Bool.or_true Bool.true_or Bool.or_false Bool.false_or Bool.not_true Bool.not_false Nat.add_zero Nat.zero_add Option.isNone_none Option.isNone_some Option.getD_none true_and and_true not_true_eq_false not_false_eq_true decide_true decide_false Nat.le_refl and_self Bool.not_eq_true Nat.sub_self or_true true_or Option.some.injEq List.length_map List.nil_eq and_false false_and AV.live CV.live CV.liveIn dq aX Option.orElse_some Option.orElse_none head a7 a6 Int.lt_irrefl List.length_append ite_self dz ce cO bu Key.clash Key.sees Key.writes Nat.lt_irrefl gt_iff_lt cg dc false_or or_false beq_self_eq_true Bool.true_beq Bool.false_beq
theorem aJ {α:Type} {ops ops':List Oper} {n j i n' j' i':Nat} {a b:α} (h:(reach ops n j i&&reach ops' n' j' i')=true):(if (reach ops n j i&&reach ops' n' j' i')=true then a else b)=a:=if_pos h
theorem A0 (n:Int):den K 51 [I n] []=some (.ret (B (decide (Sl.few n))) []):=by
 have hv:decide (Sl.few n)=(decide (-9999≤n)&&decide (n≤9999)):=by
  have e:(decide (-9999≤n)&&decide (n≤9999))=decide (-9999≤n∧n≤9999):=(Bool.decide_and ..).symm
  rw[e]
  exact decide_eq_decide.2 Iff.rfl
 rw[hv]
 refine ai rfl rfl Tryz.func51 rfl Tryz.ntmps51 ⟨by simp,by simp[LK]⟩ ?_
 have hr:Tryz.f51.results = #[.tmp 2]:=rfl
 cases e1:decide (-9999≤n)
 ·simp only[go_sem,Nat.reduceLT,reduceCtorEq,Nat.reduceEqDiff,Nat.reduceBEq,Nat.reduceAdd,hr,e1]
 ·simp only[go_sem,Nat.reduceLT,reduceCtorEq,Nat.reduceEqDiff,Nat.reduceBEq,Nat.reduceAdd,hr,e1]
mutual
def Sim.enc:Sim→List PV
 | .mk k n v a b l=>[.int .i64 k,.str n,.str v,.int .i64 a,.int .i64 b,.sl (Sim.encL l)]
def Sim.encL:List Sim→List (List PV)
 | []=>[]
 | x::l=>x.enc::Sim.encL l
end
theorem Sim.encL_map (l:List Sim):Sim.encL l=l.map Sim.enc:=by
 induction l with
 | nil=>rfl
 | cons x l ih=>simp only[Sim.encL,List.map_cons,ih]
theorem Sim.enc_mk (k:Int) (n v:List UInt8) (a b:Int) (l:List Sim):(Sim.mk k n v a b l).enc=[.int .i64 k,.str n,.str v,.int .i64 a,.int .i64 b,.sl (l.map Sim.enc)]:=by
 rw[Sim.enc,Sim.encL_map]
end Go.Abs
set_option linter.unusedSimpArgs true
namespace Go.Abs
open Go Go.Proofs
theorem wV (s:List UInt8) (l:List Val) : ∀ q∈Sl.at_ s l,Ne.size q≤Ne.size l:=by
 rw[←uZ];exact mM _ l
theorem Cz (s:List UInt8) (l:List Val):(Sl.at_ s l).length≤l.length+1:=by
 rw[←uZ];exact Sl.nh _ l
end Go.Abs
namespace Go.Abs
namespace Sl
set_option maxRecDepth 100000
open Tk (eo sep within digit begins at0 all)
def TM (M:Nat) (l:List Val):Prop := ∀ t∈Ne.flat l,t.text.length≤M
theorem mc {M:Nat} {l m:List Val} (h:TM M l) (hs : ∀ v∈m,v∈l):TM M m:=fun t ht=>by
 obtain ⟨v,hv,ht⟩:=eB.1 ht
 exact h t (eB.2 ⟨v,hs v hv,ht⟩)
theorem qx {M:Nat} {v:Val} {l:List Val} (h:TM M (v::l)):TM M l:=mc h fun w hw=>by simp[hw]
theorem ni {M:Nat} {t:Tok} {c l:List Val} (h:TM M (.mk 1 t c::l)):t.text.length≤M:=h t (eB.2 ⟨.mk 1 t c,by simp,by rw[Ne.iL,if_pos rfl];simp⟩)
theorem Kw {M:Nat} {t:Tok} {c l:List Val} (h:TM M (.mk 3 t c::l)):TM M c:=fun x hx=>h x (eB.2 ⟨.mk 3 t c,by simp,by
 rw[Ne.iL,if_neg (by decide),if_neg (by decide),if_pos (by decide)];simp[hx]⟩)
theorem JG {M:Nat} {t:Tok} {c l:List Val} (h:TM M (.mk 5 t c::l)):TM M c:=fun x hx=>h x (eB.2 ⟨.mk 5 t c,by simp,by
 rw[Ne.iL,if_neg (by decide),if_pos rfl];simp[hx]⟩)
theorem uI {M:Nat} {p r:List Val} (h:TM M (p++r)):TM M r:=mc h fun v hv=>by simp[hv]
inductive Sb (M:Nat):Sim→Prop
 | mk {k:Int} {n v:List UInt8} {a b:Int} {l:List Sim} (hn:n.length≤M) (hv:v.length≤M) (hl : ∀ x∈l,Sb M x):Sb M (.mk k n v a b l)
theorem Sb.mk0 {M:Nat} {k:Int} {n v:List UInt8} {a b:Int} (hn:n.length≤M) (hv:v.length≤M):Sb M (.mk k n v a b []) := .mk hn hv fun x hx=>by cases hx
theorem Ik {M:Nat} {l:List Val} {x:Sim} (h:attr l=some x) (ht:TM M l):Sb M x:=by
 unfold attr at h
 have hf:TM M (l.filter fun v => !aq v):=mc ht fun v hv=>(List.mem_filter.1 hv).1
 split at h
 ·rename_i k t c e
  split at h
  case isFalse=>cases h
  rename_i hc
  cases h
  rw[e] at hf
  obtain ⟨rfl,hk⟩:=hc
  exact .mk0 (ni hf) (Nat.zero_le _)
 ·rename_i k t c v k' u c' e
  split at h
  case isFalse=>cases h
  rename_i hc
  cases h
  rw[e] at hf
  obtain ⟨rfl,hk,_,rfl,hu⟩:=hc
  exact .mk0 (ni hf) (ni (qx (qx hf)))
 ·cases h
theorem vg {M:Nat} {s:List UInt8} {x:Sim} (h:fX s=some x) (hs:s.length≤M):Sb M x:=by
 unfold fX at h
 split at h
 ·cases h;exact .mk0 hs (Nat.zero_le _)
 ·split at h
  ·cases h;exact .mk0 (Nat.zero_le _) (Nat.zero_le _)
  ·split at h
   ·cases h;exact .mk0 (Nat.zero_le _) (Nat.zero_le _)
   ·split at h
    ·cases h;exact .mk0 (Nat.zero_le _) (Nat.zero_le _)
    ·cases h
theorem FM {M:Nat} {g:List Val→Option (Sim×List Val)} {l r:List Val} {x:Sim} (hG : ∀ m y z,g m=some (y,z)→TM M m→Sb M y) (h:colon g l=some (x,r)) (ht:TM M l):Sb M x:=by
 unfold colon at h
 split at h
 ·rename_i t c r' hv
  have hl:=gI hv
  subst hl
  split at h
  ·rw[Option.map_eq_some_iff] at h
   obtain ⟨y,hy,e⟩:=h
   cases e
   exact .mk0 (Nat.zero_le _) (Nat.zero_le _)
  ·split at h
   ·split at h
    ·rename_i y hgy
     split at h
     ·cases h
     ·cases h
      refine .mk (Nat.zero_le _) (Nat.zero_le _) fun z hz => ?_
      obtain rfl:=List.mem_singleton.1 hz
      exact hG _ _ _ hgy (mc (JG ht) fun v hv=>iR hv)
    ·cases h
   ·cases h
 ·split at h
  ·rename_i s r' hn
   rw[Option.map_eq_some_iff] at h
   obtain ⟨y,hy,e⟩:=h
   cases e
   obtain ⟨t,c,rfl,_,rfl⟩:=kg hn
   exact vg hy (ni ht)
  ·cases h
theorem tN {M:Nat} : ∀ (f:Nat) (first:Bool) (l:List Val) (x:Sim) (r:List Val),simple f first l=some (x,r)→TM M l→Sb M x
 | 0,_,_,_,_,h,_=>by cases h
 | f+1,first,l,x,r,h,ht=>by
  rw[simple] at h
  split at h
  ·rename_i t hk
   cases first with
   | false=>cases hk
   | true =>
    obtain ⟨c,m,rfl,_⟩:=kv hk
    cases h
    exact .mk0 (by unfold low;rw[List.length_map];exact ni ht) (Nat.zero_le _)
  split at h
  ·cases h
   exact .mk0 (Nat.zero_le _) (Nat.zero_le _)
  split at h
  ·rename_i t hk
   obtain ⟨c,m,rfl,_⟩:=kv hk
   cases h
   exact .mk0 (ni ht) (Nat.zero_le _)
  split at h
  ·rename_i r' hk
   obtain ⟨v,rfl,_⟩:=fu hk
   rw[Option.map_eq_some_iff] at h
   obtain ⟨⟨s,r''⟩,hn,e⟩:=h
   obtain ⟨t,c,rfl,_,rfl⟩:=kg hn
   cases e
   exact .mk0 (ni (qx ht)) (Nat.zero_le _)
  split at h
  ·rename_i r' hk
   obtain ⟨v,rfl,_⟩:=fu hk
   exact FM (fun m y z hy hm=>tN f true m y z hy hm) h (qx ht)
  split at h
  ·rename_i y hv
   obtain ⟨⟨t,c⟩,r'⟩:=y
   have hl:=gI hv
   subst hl
   rw[Option.map_eq_some_iff] at h
   obtain ⟨z,hz,e⟩:=h
   cases e
   exact Ik hz (Kw ht)
  ·cases h
theorem BC {M:Nat} : ∀ (f:Nat) (first:Bool) (l:List Val) (ps:List Sim) (r:List Val),part f first l=some (ps,r)→FG l→TM M l → ∀ x∈ps,Sb M x
 | 0,_,_,_,_,h,_,_=>by cases h
 | f+1,first,l,ps,r,h,hg,ht=>by
  rw[part] at h
  split at h
  ·cases h
   exact fun x hx=>by cases hx
  ·split at h
   ·cases h
   ·rename_i x m hs
    rw[Option.map_eq_some_iff] at h
    obtain ⟨⟨qs,r'⟩,hp,e⟩:=h
    cases e
    have hx:=tN _ _ _ _ _ hs ht
    obtain ⟨_,_,p,rfl⟩:=lk _ _ _ _ _ hs hg
    have hr:=BC f false m qs r' hp (mD hg) (uI ht)
    intro y hy
    rcases List.mem_cons.1 hy with rfl|hy
    ·exact hx
    ·exact hr y hy
theorem F2 {M:Nat} : ∀ (n:Nat) (c:Int) (l:List Val) (x:Cpx),cpx n c l=some x→FG l→TM M l → ∀ p∈x.parts, ∀ y∈p.l,Sb M y
 | 0,_,_,_,h,_,_=>by cases h
 | n+1,c,l,x,h,hg,ht=>by
  rw[cpx] at h
  split at h
  ·cases h
  ·rename_i ps r hp
   have h1:=BC _ _ _ _ _ hp hg ht
   obtain ⟨_,_,q,rfl⟩:=m9 _ _ _ _ _ hp hg
   have one : ∀ p∈[(⟨c,ps⟩:Prt)], ∀ y∈p.l,Sb M y:=fun p hp=>by
    obtain rfl:=List.mem_singleton.1 hp
    exact h1
   split at h
   ·split at h
    ·split at h
     ·cases h
      exact one
     ·cases h
    ·cases h
   ·split at h
    ·cases h
    ·split at h
     ·cases h
      exact one
     ·rw[Option.map_eq_some_iff] at h
      obtain ⟨y,hy,e⟩:=h
      cases e
      obtain ⟨_,c2⟩:=sZ r
      have hr:=F2 n _ _ y hy (jn (mD hg) c2) (mc (uI ht) c2)
      intro p hp
      rcases List.mem_cons.1 hp with rfl|hp
      ·exact h1
      ·exact hr p hp
theorem EP {M:Nat} : ∀ {ps:List (List Val)} {l:List Cpx},all_ ps=some l→(∀ p∈ps,FG p∧TM M p) → ∀ c∈l, ∀ p∈c.parts, ∀ y∈p.l,Sb M y
 | [],l,h,_=>by cases h;exact fun c hc=>by cases hc
 | p::ps,l,h,hg=>by
  rw[all_] at h
  split at h
  ·rename_i c cs hc hcs
   cases h
   have h1:=EP hcs fun q hq=>hg q (by simp[hq])
   intro d hd
   rcases List.mem_cons.1 hd with rfl|hd
   ·obtain ⟨g1,g2⟩:=hg p (by simp)
    exact F2 16 0 _ _ hc (jn g1 fun v hv=>iR hv) (mc g2 fun v hv=>iR hv)
   ·exact h1 d hd
  ·cases h
theorem IK {s:List UInt8} {l:List Cpx} (h:read s=some l) : ∀ c∈l, ∀ p∈c.parts, ∀ y∈p.l,Sb (s.length+1) y:=by
 unfold read at h
 rw[Option.bind_eq_some_iff] at h
 obtain ⟨v,hv,hp⟩:=h
 obtain ⟨_,_,_,c,hc⟩:=Ne.jB hv
 have hg:FG (trim v):=jn (fun t ht=>by
  rw[hc] at ht
  rcases List.mem_append.1 ht with ht|ht
  ·exact Tk.rF s t ht
  ·obtain ⟨k,_,rfl⟩:=List.mem_map.1 ht
   unfold Ne.fw Ne.gY
   split
   ·exact .delim _ (by decide) (by decide) (by decide)
   ·split<;>exact .delim _ (by decide) (by decide) (by decide)) fun w hw=>iR hw
 have ht:TM (s.length+1) (trim v):=mc (fun t ht=>by
  rw[hc] at ht
  rcases List.mem_append.1 ht with ht|ht
  ·have:=Tk.xP s t ht;omega
  ·obtain ⟨k,_,rfl⟩:=List.mem_map.1 ht
   unfold Ne.fw
   show [_].length≤_
   rw[List.length_singleton];omega) fun w hw=>iR hw
 unfold parse at hp
 split at hp
 ·exact EP hp fun p hp=>⟨jn hg fun v hv=>vA _ _ p hp v hv,mc ht fun v hv=>vA _ _ p hp v hv⟩
 ·cases hp
end Sl
end Go.Abs
namespace Go.Abs
open Go Go.Proofs Go.ChangeShapes Go.WideShapes Go.ChangeAt Go.RowKit
def TyP (P:Program):Nat→TypeId→List PV→Prop
 | 0,_,_=>False
 | n+1,t,ps =>
  match P.underlying t with
  | some .bool => ∃ b,ps=[.bool b]
  | some (.int k) => ∃ z,ps=[.int k z]∧(Lit.int k z).wf=true
  | some .string => ∃ s,ps=[.str s]∧s.length≤reachBytes
  | some (.slice e) => ∃ c,ps=[.sl c]∧c.length≤reachBytes ∧ ∀ el∈c,TyP P n e el
  | some (.struct fs)=>ps.length=P.cellsOf t ∧ ∀ (i:Nat) (f:Field),fs[i]? = some f→TyP P n f.type ((ps.drop f.offset).take (P.cellsOf f.type))
  | _=>False
def qU (P:Program) (L:List TypeId):Bool:=L.all fun t=>decide (t<P.types.size) &&
 match P.underlying t with
 | some .bool|some (.int _)|some .string=>P.cellsOf t==1
 | some (.slice e)=>L.contains e&&decide (0<P.cellsOf e)&&decide (0<P.bytesOf e)&&P.cellsOf t==1
 | some (.struct fs)=>fs.toList.all fun f=>L.contains f.type
 | _=>false
section
variable {H:Type} {enc:TypeId×Value→H} {P:Program} {w:World}
theorem GU {base n:Nat} {a:Addr} {cs:List Value} (h:w.cells? base a n=some cs):cs.length=n ∧ ∀ (k:Nat) (y:Value),cs[k]? = some y→w.cell? (a.add k)=some y:=by
 unfold World.cells? at h
 split at h
 case isFalse=>cases h
 have hl:cs.length=n:=by simpa using mapM_some_length h
 refine ⟨hl,fun k y hk => ?_⟩
 have hlt:k<n:=by have:=(List.getElem?_eq_some_iff.1 hk).1;omega
 have:=mapM_some_get h k k (by simp[hlt])
 rw[this,hk]
theorem I6 (b o m j:Nat):((⟨b,o,none⟩:Addr).add m).add j=⟨b,o+(m+j),none⟩:=by
 simp only[Addr.add]
 split<;>split<;>simp_all [Nat.add_assoc]
theorem Cf {a:Addr} {y:Value} (h:w.cell? a=some y):a=⟨a.block,a.off,none⟩:=by
 unfold World.cell? at h
 cases a with
 | mk b o s =>
  cases s with
  | none=>rfl
  | some k=>simp at h;split at h<;>simp at h
theorem yX {I:Nat→Nat→Option Value} {n:Nat} : ∀ (fs:List Field) (k:Nat) (cs:List Value),(∀ (j:Nat) (f:Field),fs[j]? = some f→f.offset=k+((fs.take j).map fun f=>P.cellsOf f.type).sum) →
  (∀ f∈fs, ∃ ps,TyP P n f.type ps∧All2 (RP I) ps ((cs.drop f.offset).take (P.cellsOf f.type))∧ps.length=P.cellsOf f.type)→cs.length=k+(fs.map fun f=>P.cellsOf f.type).sum →
  ∃ ps,ps.length=(fs.map fun f=>P.cellsOf f.type).sum∧All2 (RP I) ps (cs.drop k) ∧ ∀ (j:Nat) (f:Field),fs[j]? = some f→TyP P n f.type ((ps.drop (f.offset - k)).take (P.cellsOf f.type))
 | [],k,cs,_,_,hl=>⟨[],rfl,by rw[List.drop_eq_nil_of_le (by simp at hl;omega)];exact .nil,fun j f h=>by simp at h⟩
 | f::fs,k,cs,ho,hf,hl=>by
  have ho0:=ho 0 f rfl
  simp at ho0
  obtain ⟨p0,h1,h2,h3⟩:=hf f (by simp)
  simp only[List.map_cons,List.sum_cons] at hl
  obtain ⟨ps,h4,h5,h6⟩:=yX fs (k+P.cellsOf f.type) cs (fun j g hg=>by
   have:=ho (j+1) g (by simpa using hg)
   simp only[List.take_succ_cons,List.map_cons,List.sum_cons] at this
   omega) (fun g hg=>hf g (by simp[hg])) (by omega)
  refine ⟨p0++ps,by simp[h3,h4],?_,fun j g hg => ?_⟩
  ·rw[ho0] at h2
   have:cs.drop k=(cs.drop k).take (P.cellsOf f.type)++cs.drop (k+P.cellsOf f.type):=by
    rw[←List.drop_drop,List.take_append_drop]
   rw[this]
   exact h2.append h5
  ·cases j with
   | zero =>
    simp at hg
    subst hg
    rw[ho0,Nat.sub_self,List.drop_zero,List.take_left' h3]
    exact h1
   | succ j =>
    have hg':fs[j]? = some g:=by simpa using hg
    have:=h6 j g hg'
    have hoj:=ho (j+1) g hg
    simp only[List.take_succ_cons,List.map_cons,List.sum_cons] at hoj
    have hle:k+P.cellsOf f.type≤g.offset:=by omega
    rw[List.drop_append,List.drop_eq_nil_of_le (by omega),List.nil_append,h3]
    rw[show g.offset - k - P.cellsOf f.type=g.offset - (k+P.cellsOf f.type) by omega]
    exact this
theorem pH {e:TypeId} : ∀ {l:List (DataW H)} {d:DataW H},d∈l → ∀ n∈d.weights P e,n∈DataW.weightsAll P e l
 | d'::l,d,h,n,hn=>by
  unfold DataW.weightsAll
  rw[List.mem_append]
  rcases List.mem_cons.1 h with rfl|h
  ·exact .inl hn
  ·exact .inr (pH h n hn)
theorem vO : ∀ {ts:List TypeId} {ds:List (DataW H)} {j:Nat} {t:TypeId} {d:DataW H},ts[j]? = some t→ds[j]? = some d → ∀ n∈d.weights P t,n∈DataW.weightsEach P ts ds:=DataW.weights_mem_each
theorem HY {I:Nat→Nat→Option Value} (hI : ∀ b o y,w.cell? ⟨b,o,none⟩=some y→I b o=some y) (K0:Kids P (· < P.types.size)) {L:List TypeId} (hL:qU P L=true) {base:Nat} {sp:Nat→Bool} {held:Bool} :
  ∀ (n:Nat) (t:TypeId) (cs:List Value) (x:DataW H×List MemPlace),DataW.trod enc P w base sp held n t cs=some x→t∈L→(∀ m∈x.1.weights P t,m≤reachBytes) → ∃ ps,TyP P n t ps∧All2 (RP I) ps cs∧ps.length=P.cellsOf t:=by
 intro n
 induction n with
 | zero=>intro t cs x h;simp[DataW.trod] at h
 | succ n ih =>
  intro t cs x h ht hw
  have hLt:=List.all_eq_true.1 hL t ht
  simp only[Bool.and_eq_true,decide_eq_true_eq] at hLt
  obtain ⟨hlt,hLt⟩:=hLt
  unfold TyP
  split at hLt
  ·rename_i hu
   obtain ⟨b,rfl,rfl⟩:=DataW.trod_bool hu h
   exact ⟨[.bool b],⟨b,rfl⟩,.cons (.bool b) .nil,(by simpa using hLt:P.cellsOf t=1).symm⟩
  ·rename_i k hu
   obtain ⟨z,rfl,rfl,hwf⟩:=DataW.trod_int hu h
   exact ⟨[.int k z],⟨z,rfl,hwf⟩,.cons (.int k z) .nil,(by simpa using hLt:P.cellsOf t=1).symm⟩
  ·rename_i hu
   obtain ⟨s,rfl,rfl,hsz⟩:=DataW.trod_string hu h
   refine ⟨[.str s.data.toList],⟨_,rfl,hw _ (by simp[DataW.weights])⟩,.cons ?_ .nil,(by simpa using hLt:P.cellsOf t=1).symm⟩
   exact .str _
  ·rename_i e hu
   simp only[Bool.and_eq_true,decide_eq_true_eq] at hLt
   obtain ⟨⟨⟨he,hpos⟩,hby⟩,hc1⟩:=hLt
   have hc1:P.cellsOf t=1:=by simpa using hc1
   rcases DataW.trod_slice hu h with ⟨rfl,rfl⟩|⟨a,len,cap,elems,rest,m,hfuel,rfl,rfl,_,hlc,_,hel,hget,_,_⟩
   ·exact ⟨[.sl []],⟨[],rfl,by simp,by simp⟩,.cons (.sl0 none 0) .nil,hc1.symm⟩
   ·have hm:m=n:=by omega
    subst hm
    have hwt : ∀ m∈(elems.length+rest.length)*P.bytesOf e::(DataW.weightsAll P e (elems.map (·.1))++DataW.weightsAll P e (rest.map (·.1))),m≤reachBytes:=by
     have:DataW.weights P t (DataW.slice (elems.map (·.1)) (rest.map (·.1)))=(elems.length+rest.length)*P.bytesOf e::(DataW.weightsAll P e (elems.map (·.1))++DataW.weightsAll P e (rest.map (·.1))):=by
      simp[DataW.weights,hu]
     rw[←this];exact hw
    have hlenb:len≤reachBytes:=by
     have h1:=hwt _ (List.mem_cons_self ..)
     have h2:(elems.length+rest.length)*1≤(elems.length+rest.length)*P.bytesOf e:=Nat.mul_le_mul_left _ hby
     omega
    have hone : ∀ i,i<len → ∃ ps,TyP P m e ps∧ps.length=P.cellsOf e ∧ ∀ (j:Nat) (p:PV),ps[j]? = some p → ∃ y,w.cell? ((a.add (i*P.cellsOf e)).add j)=some y∧RP I p y:=by
     intro i hi
     have hg:=hget i hi
     have hsome : ∃ y,elems[i]? = some y:=⟨elems[i]'(by omega),by simp[hel,hi]⟩
     obtain ⟨y,hy⟩:=hsome
     rw[hy,Option.bind_eq_some_iff] at hg
     obtain ⟨cs',hcs,htr⟩:=hg
     obtain ⟨ps,h1,h2,h3⟩:=ih e cs' y htr (by simpa using he) fun q hq=>hwt q (List.mem_cons_of_mem _ (List.mem_append_left _ (pH (List.mem_map.2 ⟨y,List.mem_of_getElem? hy,rfl⟩) q hq)))
     obtain ⟨h4,h5⟩:=GU hcs
     refine ⟨ps,h1,h3,fun j p hj => ?_⟩
     obtain ⟨z,hz,hr⟩:=h2.get hj
     exact ⟨z,h5 j z hz,hr⟩
    obtain ⟨g,hg⟩ : ∃ g:Nat→List PV, ∀ i,i<len→TyP P m e (g i)∧(g i).length=P.cellsOf e ∧ ∀ (j:Nat) (p:PV),(g i)[j]? = some p → ∃ y,w.cell? ((a.add (i*P.cellsOf e)).add j)=some y∧RP I p y:=by
     refine ⟨fun i=>if hi:i<len then (hone i hi).choose else [],fun i hi => ?_⟩
     simp only[dif_pos hi]
     exact (hone i hi).choose_spec
    have hcget : ∀ (i:Nat) (el:List PV),((List.range len).map g)[i]? = some el→i<len∧el=g i:=fun i el hi=>by
     have hlt':=(List.getElem?_eq_some_iff.1 hi).1
     simp at hlt'
     rw[List.getElem?_map,List.getElem?_range hlt'] at hi
     simp at hi
     exact ⟨hlt',hi.symm⟩
    refine ⟨[.sl ((List.range len).map g)],⟨_,rfl,by simpa using hlenb,fun el hel' => ?_⟩,.cons ?_ .nil,hc1.symm⟩
    ·obtain ⟨i,hi,rfl⟩:=List.mem_map.1 hel'
     exact (hg i (by simpa using hi)).1
    ·by_cases h0:len=0
     ·subst h0
      exact .sl0 _ _
     ·obtain ⟨p0,hp0⟩ : ∃ p,(g 0)[0]? = some p:=⟨(g 0)[0]'(by rw[(hg 0 (by omega)).2.1];exact hpos),by simp⟩
      obtain ⟨y0,hy0,_⟩:=(hg 0 (by omega)).2.2 0 p0 hp0
      have hadd0:(a.add (0*P.cellsOf e)).add 0=a:=by simp[Addr.add]
      rw[hadd0] at hy0
      have ha:=Cf hy0
      have:=RP.of_seg (I:=I) (c:=(List.range len).map g) (b:=a.block) (o:=a.off) (cap:=cap) (sz:=P.cellsOf e) (by simpa using hlc) (fun el hel'=>by
       obtain ⟨i,hi,rfl⟩:=List.mem_map.1 hel'
       exact (hg i (by simpa using hi)).2.1) (fun i el j p hi hj=>by
       obtain ⟨hlt',rfl⟩:=hcget i el hi
       obtain ⟨y,h1,h2⟩:=(hg i hlt').2.2 j p hj
       refine ⟨y,hI _ _ _ ?_,h2⟩
       have hadd:(a.add (i*P.cellsOf e)).add j=⟨a.block,a.off+(i*P.cellsOf e+j),none⟩:=by
        have:=I6 a.block a.off (i*P.cellsOf e) j
        rw[←ha] at this;exact this
       rw[hadd] at h1
       exact h1)
      rw[←ha] at this
      simpa using this
  ·rename_i fs hu
   obtain ⟨xs,m,hfuel,rfl,hcl,hxl,hget⟩:=DataW.trod_struct hu h
   have hm:m=n:=by omega
   subst hm
   obtain ⟨hf1,hf2,hf3⟩:=K0.struct hlt hu
   have hwt : ∀ m∈DataW.weightsEach P (fs.toList.map (·.type)) (xs.map (·.1)),m≤reachBytes:=by
    have:DataW.weights P t (DataW.agg (xs.map (·.1)))=DataW.weightsEach P (fs.toList.map (·.type)) (xs.map (·.1)):=by
     rw[DataW.weights,hu]
    rw[←this];exact hw
   obtain ⟨ps,h1,h2,h3⟩:=yX (P:=P) (I:=I) (n:=m) fs.toList 0 cs (fun j f hj=>by rw[hf3 j f hj];omega) (fun f hf=>by
    obtain ⟨i,hi⟩:=List.mem_iff_getElem?.1 hf
    have hi':fs[i]? = some f:=by simpa using hi
    have hg:=hget i f hi'
    have hlt':i<fs.size:=(Array.getElem?_eq_some_iff.1 hi').1
    obtain ⟨y,hy⟩ : ∃ y,xs[i]? = some y:=⟨xs[i]'(by omega),by simp[hxl,hlt']⟩
    rw[hy] at hg
    exact ih f.type _ y hg (by simpa using List.all_eq_true.1 hLt f hf) fun q hq=>hwt q (vO (j:=i) (t:=f.type) (d:=y.1) (by simp[hi']) (by simp[hy]) q hq)) (by rw[hcl,hf2];omega)
   refine ⟨ps,⟨by rw[h1,hf2],fun i f hi => ?_⟩,by simpa using h2,by rw[h1,hf2]⟩
   have:=h3 i f (by simpa using hi)
   simpa using this
  ·cases hLt
def nR (P:Program) (t:TypeId) (ps:List PV):AV :=
 match P.underlying t with
 | some (.struct _) => .agg (ps.map CV.pv)
 | _=>match ps with
  | [p] => .c (.pv p)
  | _ => .c .top
theorem JT {r:Reach} {base:Nat} {t:TypeId} {v:Value} (h:Value.okWide P w r base t v) (hs:(∀ fs,P.underlying t≠some (.struct fs)) ∧ ∀ n e,P.underlying t≠some (.array n e)):v.cells = #[v]:=by
 unfold Value.okWide at h
 split at h
 ·exact absurd ‹_› (hs.1 _)
 ·exact absurd ‹_› (hs.2 _ _)
 ·cases v<;>first|rfl|(unfold Cell.okWide Cell.ok at h;split at h<;>simp_all)
theorem yM {f:Func} {s:ChangeSpec} {apart fresh handsOn again:Bool} {W W':World} {args:Array Value} {v:Value} {ds gs:List (DataW H)} {before pa pv:List MemPlace}
  (hW:DataW.Whole enc P f.params.toList s.vars apart W args.toList ds gs before)
  (hres : ∀ (b:Nat) (sp:Nat→Bool) (hd:Bool),DataW.TrodAll enc P W' b sp hd f.resultTypes.toList (v.resultList f.resultTypes.size) (s.fn H (ds++gs)).results [])
  (hargs : ∀ sp:Nat→Bool,(∀ p∈before,sp p.block=true)→DataW.TrodAll enc P W' 0 sp true f.params.toList args.toList (s.fn H (ds++gs)).args pa)
  (hvars : ∀ sp:Nat→Bool,(∀ p∈before,sp p.block=true)→DataW.TrodVars enc P W' sp s.vars (s.fn H (ds++gs)).vars pv)
  (hps:before=pa++pv) (hk:W.keptBut W' (· ∈ before)) (hfz : ∀ a:Addr,a.block<W.heap.size→W'.frozen? a=W.frozen? a)
  (hok : ∀ (j:Nat) (t:TypeId) (r:Value),f.resultTypes[j]? = some t→(v.resultList f.resultTypes.size)[j]? = some r→Value.okWide P W' .any 0 t r) :
  s.post enc P f apart fresh handsOn again W args v W':=by
 have hold : ∀ p∈before,(fun b=>decide (b<W.heap.size)) p.block=true:=fun p hp=>by simpa using hW.lt p hp
 have hlt:=fun p hp=>hW.lt p hp
 refine ⟨ds,gs,before,[],pa,pv,hW,hres _ _ _,hargs _ hold,hvars _ hold,World.keptBut_mono (fun p hp=>⟨hp,?_⟩) hk,fun _ => ?_⟩
 ·rw[hps,List.mem_append] at hp
  exact Or.inr hp
 ·obtain ⟨_,_,_,_,_,hz,hn⟩:=hW
  refine ⟨hok,_,_,([]++pa)++pv,⟨[]++pa,pv,trodAll_append (hargs _ (fun _ _=>rfl)) (hres _ _ _),hvars _ (fun _ _=>rfl),rfl,?_,?_⟩,?_⟩
  ·intro b off hp
   have hp':MemPlace.cell b off∈before:=by rw[hps];simpa using hp
   rw[hfz _ (hlt _ hp')]
   exact hz b off hp'
  ·intro ha
   have:=hn ha
   rw[hps] at this
   simpa using this
  ·intro p hp _
   rw[hps]
   simpa using hp
def sy (w:World):Gh := { I:=fun b o=>w.cell? ⟨b,o,none⟩,bb:=fun _=>none,ow:=fun _=>none }
theorem KV (h:TabOK (sy w) w):WI (sy w) w :=
 ⟨fun _ _ _ h=>h,fun b hb=>⟨fun o=>by
  show w.cell? ⟨b,o,none⟩=none
  unfold World.cell?
  have:w.heap[b]? = none:=Array.getElem?_eq_none hb
  simp[this],rfl⟩,fun _ _ h=>(by cases h),fun _ _ h=>(by cases h),h⟩
theorem sh {W W':World} (hos:W'.os=W.os) (hout:W'.output=W.output) (h : ∀ b,b<W.heap.size→W'.heap[b]? = W.heap[b]?) (may:MemPlace→Prop):W.keptBut W' may:=by
 refine ⟨hos,hout,fun i hi => ?_⟩
 rw[h i hi]
 split
 ·rename_i h1 h2;rw[h1] at h2;cases h2;exact ⟨rfl,rfl,rfl,fun _ _=>rfl⟩
 ·rename_i h1 h2;rw[h1] at h2;cases h2;exact .inr ⟨rfl,rfl⟩
 ·rfl
end
theorem kids:Kids Tryz.prog (· < Tryz.prog.types.size):=kids_rows (by kernel_rfl) (by kernel_rfl)
theorem wn : ∀ t e,t<Tryz.prog.types.size→Tryz.prog.underlying t=some (.slice e)→0<Tryz.prog.cellsOf e:=slices_full_of _ (by kernel_rfl)
theorem wq {w:World} : ∀ {l:List (String×DataW Unit)} {ps:List MemPlace},DataW.LaidVars Tryz.prog w l ps → ∀ {n:String} {d:DataW Unit},(n,d)∈l →
  ∃ g t cs fuel p,Tryz.prog.globalNamed n=some g∧(Tryz.prog.globals[g]?).map (·.type)=some t∧w.var? Tryz.prog n=some cs∧DataW.trod (fun _=>()) Tryz.prog w 0 (fun _=>true) false fuel t cs.toList=some (d,p)
 | [],_,_,n,d,hm=>by simp at hm
 | (m,e)::l,ps,h,n,d,hm=>by
  obtain ⟨g,t,cs,fuel,p,q,h1,h2,h3,h4,h5,_⟩:=h
  rcases List.mem_cons.1 hm with h|h
  ·cases h;exact ⟨g,t,cs,fuel,p,h1,h2,h3,h4⟩
  ·exact wq h5 h
set_option maxRecDepth 100000 in
theorem JC {W : World} {laid : List (String × DataW Unit)} (hL : laidMet Tryz.prog laid W) (hm : ("internal/strconv.uint64pow10", Go.Proofs.YtlomcifkckgneaaGreatDoor.Rows.laid_internal_strconv_uint64pow10) ∈ laid) (hsh : W.ShapedOpen Tryz.prog) : TabOK (sy W) W := by
 refine ⟨fun x hx=>⟨rfl,?_⟩,fun b hb=>⟨rfl,?_⟩⟩
 ·simp only[tabs,List.mem_cons,List.not_mem_nil,or_false] at hx
  subst hx
  obtain ⟨ps,hl,_⟩:=hL
  obtain ⟨g,t,cs,fuel,p,h1,h2,h3,h4⟩:=wq hl hm
  have hg : g = 3 := Option.some.inj (h1.symm.trans (show Tryz.prog.globalNamed "internal/strconv.uint64pow10" = some 3 by kernel_rfl))
  subst hg
  have ht:t=230:=Option.some.inj (h2.symm.trans (show (Tryz.prog.globals[3]?).map (·.type)=some 230 by kernel_rfl))
  subst ht
  have hcs:=Lib.cells_of_tab (k := .u64) (zs:=(List.range 20).map fun i=>((10 ^ i:Nat):Int)) (n:=20) (e:=214) (by kernel_rfl) (by kernel_rfl) (by kernel_rfl) (by kernel_rfl) (h:=h4)
  simp only[World.var?,h1,Option.bind_some] at h3
  split at h3
  ·rename_i cs' ty fz hh
   cases h3
   refine ⟨ty,fz,hh.trans ?_⟩
   have:cs=cs.toList.toArray:=by simp
   rw[this,hcs]
   simp
  ·cases h3
 ·simp only[ints,List.mem_cons,List.not_mem_nil,or_false] at hb
  subst hb
  obtain ⟨cs,hh,hs,hr⟩:=hsh.1 2 #[.int .i64 0] 3 (of_decide_eq_true (by kernel_rfl)) (by kernel_rfl)
  obtain ⟨ts,hts,_,hall⟩:=hr (by kernel_rfl)
  have hct:Tryz.prog.cellTypes Tryz.prog.depth 3=some [3]:=by kernel_rfl
  have hts':ts=[3]:=Option.some.inj (hts.symm.trans hct)
  subst hts'
  have h1:0<cs.size:=by rw[hs];simp
  obtain ⟨u,hu',hok⟩:=hall 0 cs[0] (by simp[h1])
  have hu0:u=3:=by simpa using hu'.symm
  subst hu0
  unfold Cell.ok at hok
  rw[show Tryz.prog.underlying 3=some (.int .i64) by kernel_rfl] at hok
  cases hv:cs[0] with
  | int k m =>
   rw[hv] at hok
   obtain ⟨rfl,_⟩:=hok
   exact ⟨m,cs,3,_,hh,by simp[h1,hv]⟩
  | _=>rw[hv] at hok;simp at hok
section
variable {H:Type} {enc:TypeId×Value→H}
set_option maxRecDepth 100000 in
theorem BB {W:World} {base:Nat} {L:List TypeId} (hL:qU Tryz.prog L=true) : ∀ {ts:List TypeId} {vs:List Value} {ds:List (DataW H)} {ps:List MemPlace},DataW.TrodAll enc Tryz.prog W 0 (fun _=>true) true ts vs ds ps→(∀ t∈ts,t∈L) →
  (∀ (j:Nat) (t:TypeId) (v:Value),ts[j]? = some t→vs[j]? = some v→Value.okWide Tryz.prog W .any base t v)→(∀ m∈DataW.weightsEach Tryz.prog ts ds,m≤reachBytes) →
  ∃ pss:List (List PV),All2 (fun t p => ∃ n,TyP Tryz.prog n t p) ts pss∧All2 (fun v x=>RA (sy W) W .ret v x) (List.zipWith (nR Tryz.prog) ts pss) vs ∧ ∀ v∈List.zipWith (nR Tryz.prog) ts pss,cA v=false
 | [],[],[],_,_,_,_,_=>⟨[],.nil,.nil,by simp⟩
 | t::ts,v::vs,d::ds,ps,h,hts,hval,hw=>by
  obtain ⟨p,q,⟨n,h1⟩,h2,_⟩:=h
  have hw1 : ∀ m∈d.weights Tryz.prog t,m≤reachBytes:=fun m hm=>hw m (by unfold DataW.weightsEach;exact List.mem_append_left _ hm)
  have hw2 : ∀ m∈DataW.weightsEach Tryz.prog ts ds,m≤reachBytes:=fun m hm=>hw m (by unfold DataW.weightsEach;exact List.mem_append_right _ hm)
  have hv2 : ∀ (j:Nat) (u:TypeId) (x:Value),ts[j]? = some u→vs[j]? = some x→Value.okWide Tryz.prog W .any base u x:=by
   intro j u x hj hx
   refine hval (j+1) u x ?_ ?_
   ·rw[List.getElem?_cons_succ];exact hj
   ·rw[List.getElem?_cons_succ];exact hx
  obtain ⟨pss,h3,h4,h5⟩:=BB hL h2 (fun u hu=>hts u (List.mem_cons_of_mem _ hu)) hv2 hw2
  obtain ⟨pv,h6,h7,h8⟩:=HY (w:=W) (I:=(sy W).I) (fun _ _ _ h=>h) kids hL n t _ _ h1 (hts t (by simp)) hw1
  have hok:=hval 0 t v rfl rfl
  have key:RA (sy W) W .ret (nR Tryz.prog t pv) v∧cA (nR Tryz.prog t pv)=false:=by
   unfold nR
   split
   ·rename_i fs hu
    refine ⟨?_,rfl⟩
    unfold Value.okWide at hok
    rw[hu] at hok
    obtain ⟨cs,rfl,_,_⟩:=hok
    exact ⟨cs.toList,by simp,All2.eT (h7.imp fun _ _ _ h=>h)⟩
   ·rename_i hns
    have hnarr : ∀ m e,Tryz.prog.underlying t≠some (.array m e):=fun m e hu=>by
     have:=List.all_eq_true.1 hL t (hts t (by simp))
     rw[hu] at this
     simp at this
    rw[JT hok ⟨fun fs=>hns fs,hnarr⟩] at h7
    cases h7 with
    | cons ha hb =>
     cases hb
     exact ⟨ha,rfl⟩
  refine ⟨pv::pss,.cons ⟨n,h6⟩ h3,.cons key.1 h4,fun x hx => ?_⟩
  simp only[List.zipWith_cons_cons,List.mem_cons] at hx
  rcases hx with rfl|hx
  ·exact key.2
  ·exact h5 x hx
theorem pM {W:World} {base:Nat} {sp:Nat→Bool} {held:Bool} : ∀ {ts:List TypeId} {vs:List Value} {ds:List (DataW H)} {ps:List MemPlace},DataW.TrodAll enc Tryz.prog W base sp held ts vs ds ps→ds.length=ts.length
 | [],[],[],_,_=>rfl
 | _::_,_::_,_::_,_,⟨_,_,_,h2,_⟩=>by simp[pM h2]
theorem m0 {W W':World} {base:Nat} {sp:Nat→Bool} {held:Bool} : ∀ {ts:List TypeId} {vs:List Value} {ds:List (DataW H)} {ps:List MemPlace},(∀ p∈ps,W.sameAt W' p)→DataW.TrodAll enc Tryz.prog W base sp held ts vs ds ps→DataW.TrodAll enc Tryz.prog W' base sp held ts vs ds ps
 | [],[],[],_,_,h=>h
 | _::_,_::_,_::_,_,hs,⟨p,q,⟨n,h1⟩,h2,e⟩=>⟨p,q,⟨n,DataW.trod_carry n _ _ _ h1 fun x hx=>hs x (by rw[e];exact List.mem_append_left _ hx)⟩,m0 (fun x hx=>hs x (by rw[e];exact List.mem_append_right _ hx)) h2,e⟩
set_option maxRecDepth 100000 in
/-- WHAT A LAW's ROW ASKS, from the interpreter's answer. -/
theorem JN {f:FuncId} {fn:Func} {spec:ChangeSpec} {laid:List (String×DataW Unit)} {L:List TypeId} {W:World} {base:Nat} {args:Array Value} {ds gs:List (DataW H)} {before:List MemPlace}
  (hg:K.good f=true) (hL:qU Tryz.prog L=true) (hts : ∀ t∈fn.params.toList,t∈L) (hres:fn.resultTypes = #[4]) (hvars:spec.vars=[]) (hspec : ∀ ds:List (DataW H),ds.length=fn.params.size→spec.fn H ds = { results:=[.lit (.bool true)],args:=ds })
  (hmem : ("internal/strconv.uint64pow10", Go.Proofs.YtlomcifkckgneaaGreatDoor.Rows.laid_internal_strconv_uint64pow10) ∈ laid) (hnoh : (laid.filter fun x => x.2.handleName?.isSome) = [])
  (hden : ∀ pss:List (List PV),All2 (fun t p => ∃ n,TyP Tryz.prog n t p) fn.params.toList pss→den K f (List.zipWith (nR Tryz.prog) fn.params.toList pss) []=some (.ret (.c (.pv (.bool true))) []))
  (hval : ∀ (j:Nat) t v,fn.params[j]? = some t→args[j]? = some v→Value.okWide Tryz.prog W .any base t v)
  (hW:DataW.Whole enc Tryz.prog fn.params.toList spec.vars false W args.toList ds gs before)
  (hwt:(DataW.weightsEach Tryz.prog fn.params.toList ds).all (· ≤ reachBytes)=true)
  (hLaid:laidMetH Tryz.prog laid W) (hsh:W.ShapedOpen Tryz.prog) :
  Calls Tryz.prog f args W fun e W' => ∃ v,e = .returned v∧spec.post enc Tryz.prog fn false true false false W args v W':=by
 have hW':=hW
 obtain ⟨p,q,hA,hV,rfl,hfz,hnd⟩:=hW
 rw[hvars] at hV
 have hgq:gs=[]∧q=[]:=by
  cases gs with
  | nil=>exact ⟨rfl,hV⟩
  | cons g gs=>exact hV.elim
 obtain ⟨rfl,rfl⟩:=hgq
 have hlen:=pM hA
 have hv2 : ∀ (j:Nat) (u:TypeId) (x:Value),fn.params.toList[j]? = some u→args.toList[j]? = some x→Value.okWide Tryz.prog W .any base u x:=by
  intro j u x hj hx
  rw[Array.getElem?_toList] at hj hx
  exact hval j u x hj hx
 obtain ⟨pss,h1,h2,h3⟩:=BB (base:=base) hL hA hts hv2 (fun m hm=>by simpa using List.all_eq_true.1 hwt m hm)
 have hlm:laidMet Tryz.prog laid W:=by
  unfold laidMetH at hLaid
  rw[hnoh] at hLaid
  exact hLaid
 have hwi:=KV (JC hlm hmem hsh)
 have hc:=rz JE hg (hden pss h1) (sy W) W args.toList hwi h2 h3 (fun i l h=>by simp at h) (fun s b h=>by cases h)
 rw[Array.toArray_toList] at hc
 refine hc.mono fun e W' ⟨G',hx,hw',v,he,hv,_⟩ => ?_
 subst he
 have hv':v = .bool true:=RA.boolv hv
 subst hv'
 refine ⟨_,rfl,?_⟩
 have hold : ∀ b,b<W.heap.size→W'.heap[b]? = W.heap[b]? := fun b hb=>(hx.old b hb rfl).2.1
 have hds:spec.fn H (ds++[]) = { results:=[.lit (.bool true)],args:=ds }:=by
  rw[List.append_nil]
  exact hspec ds (by rw[hlen];simp)
 refine yM (pa:=p) (pv:=[]) hW' (fun b sp hd => ?_) (fun sp hsp => ?_) (fun sp hsp => ?_) rfl (sh hx.os hx.output hold _) (fun a ha => ?_) ?_
 ·rw[hds,hres]
  exact trodAll_cons_mk (shut_bool (by kernel_rfl) _) trodAll_mk0
 ·rw[hds]
  have hT : ∀ t∈fn.params.toList,t<Tryz.prog.types.size:=fun t ht=>by
   have:=List.all_eq_true.1 hL t (hts t ht)
   simp only[Bool.and_eq_true,decide_eq_true_eq] at this
   exact this.1
  have:=DataW.TrodAll.respare (spare':=sp) kids wn hT hA (fun y hy=>hsp y (by simpa using hy))
  refine m0 (fun y hy => ?_) this
  have hlt:y.block<W.heap.size:=DataW.TrodAll.lt hA y hy
  cases y with
  | cell b off =>
   show W'.cell? ⟨b,off,none⟩=W.cell? ⟨b,off,none⟩
   unfold World.cell?
   rw[hold b hlt]
  | map b=>exact hold b hlt
 ·rw[hds,hvars]
  rfl
 ·unfold World.frozen?
  rw[hold a.block ha]
 ·rw[hres]
  intro j t r hj hr
  have hj0:j=0:=by
   rcases Nat.eq_zero_or_pos j with h|h
   ·exact h
   ·rw[Array.getElem?_eq_none (by simp;omega)] at hj;cases hj
  subst hj0
  simp at hj
  subst hj
  have hr0:r = .bool true:=by
   have:((Value.bool true).resultList 1)[0]? = some r:=by simpa using hr
   simp[Value.resultList] at this
   exact this.symm
  subst hr0
  exact okWide_bool_mk (by kernel_rfl) _
end
end Go.Abs
namespace Go.Abs
open Go Go.Proofs
section
variable {P:Program} {t e:TypeId} {n:Nat} {ps:List PV}
theorem Bn (h:cP P t=some .str) (hp:TyP P n t ps) : ∃ s,ps=[.str s]∧s.length≤reachBytes:=by
 cases n with
 | zero=>exact hp.elim
 | succ n=>unfold TyP at hp;rw[iO h] at hp;exact hp
end
end Go.Abs
namespace Go.Abs
open Go Go.Proofs
set_option maxRecDepth 100000
theorem Dl (p:PV):nR Tryz.prog 9 [p] = .c (.pv p):=by
 unfold nR;rw[Tryz.underlying9]
theorem args2 {t u:TypeId} {pss:List (List PV)} {Q:Prop} (h:All2 (fun t p => ∃ n,TyP Tryz.prog n t p) [t,u] pss) (hq : ∀ n m p q,TyP Tryz.prog n t p→TyP Tryz.prog m u q→pss=[p,q]→Q):Q:=by
 cases h with
 | cons h1 h =>
 cases h with
 | cons h2 h =>
 cases h
 obtain ⟨n,h1⟩:=h1
 obtain ⟨m,h2⟩:=h2
 exact hq n m _ _ h1 h2 rfl
end Go.Abs
namespace Go.Abs
open Go Go.Proofs
set_option maxRecDepth 100000
end Go.Abs
