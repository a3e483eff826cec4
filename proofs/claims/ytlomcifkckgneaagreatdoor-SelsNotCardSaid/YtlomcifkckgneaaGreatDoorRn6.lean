/-
  FACTS ON THE TYPES OF THIS PROGRAM, each by the kernel (printed by a program).
  WHAT THE FUNCTIONS COMPUTE: the smallest; the builder of texts.
  WHAT THE FUNCTIONS COMPUTE: loops; texts of words.
  WHAT THE FUNCTIONS COMPUTE: a token's text; numbers of an nth; simple selectors.
  WHAT THE FUNCTIONS COMPUTE, layer 1: tokens that are the same; lists of them.
  WHAT THE FUNCTIONS COMPUTE, layer 2: blocks' last tokens; values told flat; depth.
  SMALL FACTS of the texts on selectors.
  WHAT THE FUNCTIONS COMPUTE, layer 2: are values the same?
  WHAT THE FUNCTIONS COMPUTE, layer 2: values told flat, as the document says; how many there are.
  WHAT THE FUNCTIONS COMPUTE, layer 3, the document's answer: blanks, signs; values trimmed, cut by a sign.
  WHAT THE FUNCTIONS COMPUTE, layer 3: values trimmed, cut, joined.
  WHAT THE FUNCTIONS COMPUTE: small letters, as the document's answer has them.
  WHAT THE FUNCTIONS COMPUTE, layer 1: classes of bytes, runs, names.
  WHAT THE FUNCTIONS COMPUTE, layer 1: the scanner's small steps: a name, a token that is laid, a comment, a string.
  Functions as values: what captures nothing, or one variable of whatever cells; texts as the interpreter's data.
  Layer 4, plain: digits, as strings.Trim and strconv.Atoi see them.
  Layer 3, plain: how many values there are in what is cut, trimmed.
  Layer 3: bounds on values that are cut, and joined.
  FROM A ROW's READING TO THE INTERPRETER's VALUES: an argument that reads as data is data without memory; a law whose answer the interpreter gives as 'true' meets its row.
  DATA OF A TYPE: what reads as a value of a struct, of a slice; what reads as tokens, and as values.
-/
import Derived.Lib.Atoi
import Derived.Lib.SlTrimSet
import Derived.Test.YtlomcifkckgneaaGreatDoorRows
import Derived.ReadAgain
import Derived.ChangeBears
import Derived.RowKit
import Derived.OpenShut
import Derived.SizedLaws
import Derived.Deep.DeepHandedRow
import Derived.Lib.LaidTab
import Derived.Test.YtlomcifkckgneaaGreatDoorRn1
import Derived.Test.YtlomcifkckgneaaGreatDoorRn2
import Derived.Test.YtlomcifkckgneaaGreatDoorRn3
import Derived.Test.YtlomcifkckgneaaGreatDoorRn4
import Derived.Test.YtlomcifkckgneaaGreatDoorRn5
set_option linter.unusedSimpArgs false
set_option linter.unusedVariables false
namespace Go.Abs
open Go Go.Proofs
theorem FM:K.good 11=true:=by kernel_rfl
theorem Gc:K.good 13=true:=by kernel_rfl
theorem F9:K.good 16=true:=by kernel_rfl
theorem Aa:K.good 17=true:=by kernel_rfl
theorem F7:K.good 19=true:=by kernel_rfl
theorem GC:K.good 22=true:=by kernel_rfl
theorem FF:K.good 27=true:=by kernel_rfl
theorem Gs:K.good 28=true:=by kernel_rfl
theorem Hc:K.good 32=true:=by kernel_rfl
theorem zQ:K.good 33=true:=by kernel_rfl
theorem G4:K.good 34=true:=by kernel_rfl
theorem tL:K.good 37=true:=by kernel_rfl
theorem Gv:K.good 39=true:=by kernel_rfl
theorem jZ:K.good 40=true:=by kernel_rfl
theorem FK:K.good 41=true:=by kernel_rfl
theorem Hb:K.good 45=true:=by kernel_rfl
theorem Gg:K.good 49=true:=by kernel_rfl
theorem Gm:K.good 52=true:=by kernel_rfl
theorem GG:K.good 58=true:=by kernel_rfl
theorem zT:K.good 59=true:=by kernel_rfl
theorem Ak:K.good 64=true:=by kernel_rfl
theorem GD:K.good 65=true:=by kernel_rfl
theorem Fz:K.good 66=true:=by kernel_rfl
theorem FA:K.good 70=true:=by kernel_rfl
theorem pJ:K.good 71=true:=by kernel_rfl
theorem F3:K.good 72=true:=by kernel_rfl
theorem pS:K.good 73=true:=by kernel_rfl
theorem tX:K.good 74=true:=by kernel_rfl
theorem Ha:K.good 75=true:=by kernel_rfl
theorem GI:K.good 76=true:=by kernel_rfl
theorem pC:K.good 77=true:=by kernel_rfl
theorem pK:K.good 78=true:=by kernel_rfl
theorem FJ:K.good 79=true:=by kernel_rfl
theorem Hi:K.good 80=true:=by kernel_rfl
theorem G5:K.good 91=true:=by kernel_rfl
theorem Hj:K.good 92=true:=by kernel_rfl
theorem G6:K.good 98=true:=by kernel_rfl
theorem Gi:K.good 99=true:=by kernel_rfl
theorem EA:K.good 103=true:=by kernel_rfl
theorem xe:K.good 106=true:=by kernel_rfl
theorem C9:K.good 108=true:=by kernel_rfl
theorem CP:K.good 109=true:=by kernel_rfl
theorem D1:K.good 110=true:=by kernel_rfl
theorem Ex:K.good 113=true:=by kernel_rfl
theorem Dx:K.good 114=true:=by kernel_rfl
theorem Eb:K.good 115=true:=by kernel_rfl
theorem wc:K.good 116=true:=by kernel_rfl
theorem DD:K.good 117=true:=by kernel_rfl
theorem vO:K.good 118=true:=by kernel_rfl
theorem wP:K.good 119=true:=by kernel_rfl
theorem Es:K.good 120=true:=by kernel_rfl
theorem Dw:K.good 123=true:=by kernel_rfl
theorem DE:K.good 124=true:=by kernel_rfl
theorem CW:K.good 125=true:=by kernel_rfl
theorem EX:K.good 138=true:=by kernel_rfl
theorem DA:K.good 139=true:=by kernel_rfl
theorem wg:K.good 140=true:=by kernel_rfl
theorem C4:K.good 141=true:=by kernel_rfl
theorem El:K.good 149=true:=by kernel_rfl
theorem Dn:K.good 151=true:=by kernel_rfl
theorem EJ:K.good 157=true:=by kernel_rfl
theorem EN:K.good 160=true:=by kernel_rfl
theorem E3:K.good 170=true:=by kernel_rfl
theorem DS:K.good 171=true:=by kernel_rfl
theorem C1:K.good 172=true:=by kernel_rfl
theorem rF:K.good 175=true:=by kernel_rfl
theorem xA:K.good 176=true:=by kernel_rfl
theorem CU:K.good 177=true:=by kernel_rfl
theorem Ev:K.good 178=true:=by kernel_rfl
theorem wK:K.good 179=true:=by kernel_rfl
theorem Ey:K.good 180=true:=by kernel_rfl
theorem uU:K.good 181=true:=by kernel_rfl
theorem qM:K.good 182=true:=by kernel_rfl
theorem EP:K.good 183=true:=by kernel_rfl
theorem vL:K.good 184=true:=by kernel_rfl
theorem ru:K.good 185=true:=by kernel_rfl
theorem Da:K.good 186=true:=by kernel_rfl
theorem Fm:K.good 191=true:=by kernel_rfl
theorem EU:K.good 193=true:=by kernel_rfl
theorem Fj:K.good 204=true:=by kernel_rfl
theorem De:K.good 205=true:=by kernel_rfl
theorem EG:K.good 206=true:=by kernel_rfl
theorem Em:K.good 209=true:=by kernel_rfl
theorem vF:K.good 210=true:=by kernel_rfl
theorem Fu:K.good 212=true:=by kernel_rfl
theorem D2:K.good 230=true:=by kernel_rfl
theorem BJ:eD 22 4=([0,1,5],[]):=by kernel_rfl
theorem Bi:eD 22 9=([0,1,5,6],[]):=by kernel_rfl
theorem AQ:eD 99 2=([3],[6]):=by kernel_rfl
theorem AG:eD 33 3=([0,3,4],[]):=by kernel_rfl
theorem B4:eD 58 3=([0,3,4],[]):=by kernel_rfl
theorem BA:eD 52 4=([0,1,5],[]):=by kernel_rfl
theorem Cg:eD 65 5=([0,4,6],[4]):=by kernel_rfl
theorem AY:eD 34 2=([0,3,4],[]):=by kernel_rfl
theorem Cl:eD 34 4=([0,3,4],[]):=by kernel_rfl
theorem x8:eD 182 2=([0,1,2,7],[100000]):=by kernel_rfl
theorem yp:eD 186 6=([0,2,3,4,29],[100000]):=by kernel_rfl
theorem yk:eD 115 2=([0,5],[]):=by kernel_rfl
theorem xW:eD 117 2=([0,1,5],[]):=by kernel_rfl
theorem zm:eD 118 1=([0,1],[]):=by kernel_rfl
theorem yq:eD 120 4=([0,1,4,6,7],[4]):=by kernel_rfl
theorem B0:eD 64 2=([0,2,3,8,9],[8,9]):=by kernel_rfl
theorem BR:eD 59 3=([0,3,4],[]):=by kernel_rfl
theorem A1:eD 70 1=([0],[]):=by kernel_rfl
theorem CE:eD 70 3=([0],[]):=by kernel_rfl
theorem Au:eD 17 3=([4,9,10,11],[4]):=by kernel_rfl
theorem BF:eD 47 3=([0,2,3,4],[2,3,100000]):=by kernel_rfl
theorem BC:eD 91 2=([0,4],[100000]):=by kernel_rfl
theorem yJ:eD 141 2=([0,3],[100000]):=by kernel_rfl
theorem yL:eD 151 2=([0,1,7,8],[]):=by kernel_rfl
end Go.Abs
namespace Go.Abs
open Go Go.Proofs
abbrev I (n:Int):AV := .c (.pv (.int .i64 n))
abbrev T (l:List UInt8):AV := .c (.pv (.str l))
abbrev B (b:Bool):AV := .c (.pv (.bool b))
abbrev L (l:List (List PV)):AV := .c (.pv (.sl l))
abbrev P0:AV := .c (.loc 100000 0)
theorem ab {f:FuncId} {fn:Func} {x:Code} {nt:Nat} {args:List AV} {bxs:List (List CV)} {r:Res} (hp:prF f=none) (hh:hpF f=none) (hf:Tryz.prog.funcs[f]? = some fn) (hx:fn.body=some x) (hn:fn.ntmps=nt)
  (hl:args.length≤nt∧nt<LK) (h:(exL K f x (bC nt args bxs)).bind (fun r=>leave K f fn bxs.length (some r))=some r):den K f args bxs=some r:=by
 rw[uf (K:=K) hp hh hf hx,hn,if_pos hl]
 exact h
theorem fO (f:FuncId) (h:(
 f==227 ||
 f==1000000)=false):K.ownRet f=false:=h
theorem d8 (f i:Nat):K.hook f i=eS f i:=rfl
theorem K_P:K.P=Tryz.prog:=rfl
theorem dW (f r:Nat):K.keep f r=eD f r:=rfl
theorem eE {f:FuncId} {F:Prim} {args:List AV} {bxs cs:List (List CV)} {v:AV} (h:prF f=some F) (hF:F args bxs=some (v,cs)):den K f args bxs=some (.ret v cs):=by
 rw[qp (K:=K) h,hF];rfl
set_option maxRecDepth 10000
def kQ:Nat:=4294967296
theorem wa (n:Nat):lens n []=true:=rfl
end Go.Abs
namespace Go.Abs
open Go Go.Proofs
theorem az (f:FuncId) (a:Code) (S:St):exL K f (.loop a) S=exL K f (.loop a) (head (eD f ((aO a).getD 0)) S):=by
 rw[aw,aw (S:=head _ S),dW,oq]
set_option maxRecDepth 10000
attribute [local go_sem] cX bA ce bJ bL cU ci cg aN bD bt bR cz bE opd avOf cvOf St.degAt St.put okPV dQ okAV dc dh dp cG aD if_true Bool.false_eq_true if_false Option.map_some Option.map_none Option.bind_some Option.bind_none dL dG upd List.toList_toArray bX steal bd mvB dx cE co AV.deg CV.deg AV.gv AV.isIter cv cj bK List.length_nil List.length_cons List.filterMap_cons List.filterMap_nil beq_iff_eq List.getElem?_cons_zero List.getElem?_cons_succ Option.getD_some d8 eS Bool.false_and Bool.and_false Bool.and_self K_P fO bO cd bc lend back idx dedup AV.ren CV.ren TV.ren AV.ptrs CV.ptrs cD AV.flat CV.flat bU bH aR cA cQ dV bM aK bS bh bw bI bg ep CV.pv? content bo ownT aV reps pvs chunks bC leave ee cm c9 bF a8 TV.deg TV.av LK CV.plain CV.noBld cK ei bound List.map_cons List.map_nil List.all_cons List.all_nil List.any_cons List.any_nil List.contains_cons List.contains_nil List.elem_cons List.elem_nil List.cons_append List.nil_append List.append_nil List.flatMap_cons List.flatMap_nil List.zip_cons_cons List.zip_nil_left List.zip_nil_right List.take_succ_cons List.take_zero List.take_nil List.drop_succ_cons List.drop_zero List.drop_nil List.isEmpty_nil List.isEmpty_cons Bool.and_true Bool.true_and Bool.or_true Bool.true_or Bool.or_false Bool.false_or Bool.not_true Bool.not_false Nat.add_zero Nat.zero_add Option.isNone_none Option.isNone_some Option.getD_none true_and and_true not_true_eq_false not_false_eq_true decide_true decide_false Nat.le_refl and_self Bool.not_eq_true Nat.sub_self or_true true_or Option.some.injEq List.length_map List.nil_eq and_false false_and AV.live CV.live CV.liveIn dW aO Option.orElse_some Option.orElse_none head a7 aY Int.lt_irrefl List.length_append ite_self dR bQ cF br Key.clash Key.sees Key.writes Nat.lt_irrefl gt_iff_lt cf dD false_or or_false beq_self_eq_true Bool.true_beq Bool.false_beq
theorem bu (n:Nat) (h:n<9223372036854775807):IntKind.i64.wrap ((n:Int)+1)=((n+1:Nat):Int):=by
 rw[IntWalk.i64_in _ (by omega)];rfl
theorem bZ {α:Type} {l rest:List α} {x:α} {i:Nat} (h:l.drop i=x::rest):l[i]? = some x∧l.drop (i+1)=rest∧i<l.length:=by
 have h1:l[i]? = some x:=by
  have:(l.drop i)[0]? = some x:=by rw[h];rfl
  simpa using this
 refine ⟨h1,?_,(List.getElem?_eq_some_iff.1 h1).1⟩
 have:(l.drop i).tail=rest:=by rw[h];rfl
 rw[←this,List.tail_drop]
end Go.Abs
namespace Go.Abs
open Go Go.Proofs
set_option maxRecDepth 10000
attribute [local go_sem] cX bA ce bJ bL cU ci cg aN bD bt bR cz bE opd avOf cvOf St.degAt St.put okPV dQ okAV dc dh dp cG aD if_true Bool.false_eq_true if_false Option.map_some Option.map_none Option.bind_some Option.bind_none dL dG upd List.toList_toArray bX steal bd mvB dx cE co AV.deg CV.deg AV.gv AV.isIter cv cj bK List.length_nil List.length_cons List.filterMap_cons List.filterMap_nil beq_iff_eq List.getElem?_cons_zero List.getElem?_cons_succ Option.getD_some d8 eS Bool.false_and Bool.and_false Bool.and_self K_P fO bO cd bc lend back idx dedup AV.ren CV.ren TV.ren AV.ptrs CV.ptrs cD AV.flat CV.flat bU bH aR cA cQ dV bM aK bS bh bw bI bg ep CV.pv? content bo ownT aV reps pvs chunks bC leave ee cm c9 bF a8 TV.deg TV.av LK CV.plain CV.noBld cK ei bound List.map_cons List.map_nil List.all_cons List.all_nil List.any_cons List.any_nil List.contains_cons List.contains_nil List.elem_cons List.elem_nil List.cons_append List.nil_append List.append_nil List.flatMap_cons List.flatMap_nil List.zip_cons_cons List.zip_nil_left List.zip_nil_right List.take_succ_cons List.take_zero List.take_nil List.drop_succ_cons List.drop_zero List.drop_nil List.isEmpty_nil List.isEmpty_cons Bool.and_true Bool.true_and Bool.or_true Bool.true_or Bool.or_false Bool.false_or Bool.not_true Bool.not_false Nat.add_zero Nat.zero_add Option.isNone_none Option.isNone_some Option.getD_none true_and and_true not_true_eq_false not_false_eq_true decide_true decide_false Nat.le_refl and_self Bool.not_eq_true Nat.sub_self or_true true_or Option.some.injEq List.length_map List.nil_eq and_false false_and AV.live CV.live CV.liveIn dW aO Option.orElse_some Option.orElse_none head a7 aY Int.lt_irrefl List.length_append ite_self dR bQ cF br Key.clash Key.sees Key.writes Nat.lt_irrefl gt_iff_lt cf dD false_or or_false beq_self_eq_true Bool.true_beq Bool.false_beq
theorem qB {n:Int} (h:I64 n):(Lib.itoa n).length≤21:=Lib.itoa_length_le n h.1 h.2
theorem lg (k k' n n':Int) (t t':List UInt8):g9 Tryz.prog 91 [.int .i64 k,.str t,.int .i64 n] [.int .i64 k',.str t',.int .i64 n']=some ((k==k')&&((t==t')&&((n==n')&&true))):=by kernel_rfl
theorem pN (a b:Tok):((a.kind==b.kind)&&((a.text==b.text)&&((a.n==b.n)&&true)))=decide (a=b):=by
 obtain ⟨k,t,n⟩:=a
 obtain ⟨k',t',n'⟩:=b
 rw[Bool.eq_iff_iff,decide_eq_true_eq]
 simp[Tok.mk.injEq]
def Ah (n:Nat):Prop:=n<9000000000000000000
theorem uC (l:List Tok) (i:Nat) (t:Tok) (h:l[i]? = some t):(l.map Tok.enc)[(i:Int).toNat]? = some [.int .i64 t.kind,.str t.text,.int .i64 t.n]:=by
 simp[h,Tok.enc]
theorem eJ (l:List Val):lens 5 (encL l)=true:=by
 rw[encL_map]
 simp only[lens,List.all_map,List.all_eq_true,Function.comp_apply,beq_iff_eq]
 intro v _
 exact t7 v
theorem iZ (l:List Tok):lens 3 (l.map Tok.enc)=true:=by simp[lens,Tok.enc]
theorem jU (a b c:PV):lens 3 [[a,b,c]]=true:=rfl
theorem iC (a b c d e:PV):lens 5 [[a,b,c,d,e]]=true:=rfl
theorem mz (l:List Val) (i:Nat) (k:Int) (t:Tok) (l':List Val) (h:l[i]? = some (.mk k t l')):(encL l)[(i:Int).toNat]? = some [.int .i64 k,.int .i64 t.kind,.str t.text,.int .i64 t.n,.sl (encL l')]:=qI l i _ h
theorem k7 (acc:List Tok) (t:Tok):acc.map Tok.enc++[[.int .i64 t.kind,.str t.text,.int .i64 t.n]]=(acc++[t]).map Tok.enc:=by simp[Tok.enc]
theorem nq (acc:List Tok) (c:UInt8):acc.map Tok.enc++[[.int .i64 7,.str [c],.int .i64 0]]=(acc++[Tok.mk 7 [c] 0]).map Tok.enc:=by simp[Tok.enc]
theorem ld (a b:List Tok):a.map Tok.enc++b.map Tok.enc=(a++b).map Tok.enc:=by simp
end Go.Abs
set_option linter.unusedSimpArgs true
namespace Go.Abs
open Go Go.Proofs
theorem o5 (acc:List Sim):((acc.length:Int)==0)=acc.isEmpty:=by
 cases acc with
 | nil=>rfl
 | cons x l=>rw[List.length_cons,List.isEmpty_cons,beq_eq_false_iff_ne];omega
end Go.Abs
set_option linter.unusedSimpArgs true
namespace Go.Abs
open Go Go.Proofs
set_option maxRecDepth 10000
attribute [local go_sem] cX bA ce bJ bL cU ci cg aN bD bt bR cz bE opd avOf cvOf St.degAt St.put okPV dQ okAV dc dh dp cG aD if_true Bool.false_eq_true if_false Option.map_some Option.map_none Option.bind_some Option.bind_none dL dG upd List.toList_toArray bX steal bd mvB dx cE co AV.deg CV.deg AV.gv AV.isIter cv cj bK List.length_nil List.length_cons List.filterMap_cons List.filterMap_nil beq_iff_eq List.getElem?_cons_zero List.getElem?_cons_succ Option.getD_some d8 eS Bool.false_and Bool.and_false Bool.and_self K_P fO bO cd bc lend back idx dedup AV.ren CV.ren TV.ren AV.ptrs CV.ptrs cD AV.flat CV.flat bU bH aR cA cQ dV bM aK bS bh bw bI bg ep CV.pv? content bo ownT aV reps pvs chunks bC leave ee cm c9 bF a8 TV.deg TV.av LK CV.plain CV.noBld cK ei bound List.map_cons List.map_nil List.all_cons List.all_nil List.any_cons List.any_nil List.contains_cons List.contains_nil List.elem_cons List.elem_nil List.cons_append List.nil_append List.append_nil List.flatMap_cons List.flatMap_nil List.zip_cons_cons List.zip_nil_left List.zip_nil_right List.take_succ_cons List.take_zero List.take_nil List.drop_succ_cons List.drop_zero List.drop_nil List.isEmpty_nil List.isEmpty_cons Bool.and_true Bool.true_and Bool.or_true Bool.true_or Bool.or_false Bool.false_or Bool.not_true Bool.not_false Nat.add_zero Nat.zero_add Option.isNone_none Option.isNone_some Option.getD_none true_and and_true not_true_eq_false not_false_eq_true decide_true decide_false Nat.le_refl and_self Bool.not_eq_true Nat.sub_self or_true true_or Option.some.injEq List.length_map List.nil_eq and_false false_and AV.live CV.live CV.liveIn dW aO Option.orElse_some Option.orElse_none head a7 aY Int.lt_irrefl List.length_append ite_self dR bQ cF br Key.clash Key.sees Key.writes Nat.lt_irrefl gt_iff_lt cf dD false_or or_false beq_self_eq_true Bool.true_beq Bool.false_beq
abbrev iT (k:Int) (t:Tok) (l:List Val):List CV:=[.pv (.int .i64 k),.pv (.int .i64 t.kind),.pv (.str t.text),.pv (.int .i64 t.n),.pv (.sl (encL l))]
end Go.Abs
namespace Go.Abs
open Go Go.Proofs
set_option maxRecDepth 10000
attribute [local go_sem] cX bA ce bJ bL cU ci cg aN bD bt bR cz bE opd avOf cvOf St.degAt St.put okPV dQ okAV dc dh dp cG aD if_true Bool.false_eq_true if_false Option.map_some Option.map_none Option.bind_some Option.bind_none dL dG upd List.toList_toArray bX steal bd mvB dx cE co AV.deg CV.deg AV.gv AV.isIter cv cj bK List.length_nil List.length_cons List.filterMap_cons List.filterMap_nil beq_iff_eq List.getElem?_cons_zero List.getElem?_cons_succ Option.getD_some d8 eS Bool.false_and Bool.and_false Bool.and_self K_P fO bO cd bc lend back idx dedup AV.ren CV.ren TV.ren AV.ptrs CV.ptrs cD AV.flat CV.flat bU bH aR cA cQ dV bM aK bS bh bw bI bg ep CV.pv? content bo ownT aV reps pvs chunks bC leave ee cm c9 bF a8 TV.deg TV.av LK CV.plain CV.noBld cK ei bound List.map_cons List.map_nil List.all_cons List.all_nil List.any_cons List.any_nil List.contains_cons List.contains_nil List.elem_cons List.elem_nil List.cons_append List.nil_append List.append_nil List.flatMap_cons List.flatMap_nil List.zip_cons_cons List.zip_nil_left List.zip_nil_right List.take_succ_cons List.take_zero List.take_nil List.drop_succ_cons List.drop_zero List.drop_nil List.isEmpty_nil List.isEmpty_cons Bool.and_true Bool.true_and Bool.or_true Bool.true_or Bool.or_false Bool.false_or Bool.not_true Bool.not_false Nat.add_zero Nat.zero_add Option.isNone_none Option.isNone_some Option.getD_none true_and and_true not_true_eq_false not_false_eq_true decide_true decide_false Nat.le_refl and_self Bool.not_eq_true Nat.sub_self or_true true_or Option.some.injEq List.length_map List.nil_eq and_false false_and AV.live CV.live CV.liveIn dW aO Option.orElse_some Option.orElse_none head a7 aY Int.lt_irrefl List.length_append ite_self dR bQ cF br Key.clash Key.sees Key.writes Nat.lt_irrefl gt_iff_lt cf dD false_or or_false beq_self_eq_true Bool.true_beq Bool.false_beq aL ae aG aZ cx ck bB bz D1 dz dK dS zT BR
theorem fZ (s:List UInt8):den K 110 [T s] []=some (.ret (.agg [.pv (.int .i64 7),.pv (.str s),.pv (.int .i64 0)]) []):=by
 refine ab rfl rfl Tryz.func110 rfl Tryz.ntmps110 ⟨by simp,by simp[LK]⟩ ?_
 have hr:Tryz.f110.results = #[.cell 2 91]:=rfl
 simp only[go_sem,Nat.reduceLT,reduceCtorEq,Nat.reduceEqDiff,Nat.reduceBEq,Nat.reduceAdd,Nat.reduceSub,Nat.reduceLeDiff,ak ae aA,hr]
abbrev flat2H (l:List Val) (i:Nat) (e:Nat) (acc:List Tok):St :=
  { sl:=upd (upd (upd bot 4 (I i)) 3 (.c (.own e (acc.map Tok.enc)))) 0 (L (encL l)),bx:=nobox,nt:=67 }
noncomputable def flp2:Code := .loop (ap Tryz.f59 3)
def Flat2Den (l:List Val):Prop:=Ne.size l≤1000000→den K 59 [L (encL l)] []=some (.ret (L ((Ne.flat l).map Tok.enc)) [])
set_option maxHeartbeats 4000000 in
theorem zp (l:List Val) (i:Nat) (e:Nat) (acc:List Tok) (he:e=91∨acc=[]) (k:Int) (t:Tok) (l':List Val) (hi:l[i]? = some (.mk k t l')) (hlen:l.length≤1000000) (hacc:acc.length≤3000000) (hs:(Ne.flat l').length≤3000000)
  (hf:den K 59 [L (encL l')] []=some (.ret (L ((Ne.flat l').map Tok.enc)) [])) :
  ∃ e',(e'=91∨acc++Ne.dm (.mk k t l')=[])∧exL K 59 flp2 (flat2H l i e acc)=exL K 59 flp2 (flat2H l (i+1) e' (acc++Ne.dm (.mk k t l'))):=by
 have hil:i<l.length:=(List.getElem?_eq_some_iff.1 hi).1
 have hlt:decide ((i:Int)<(l.length:Int))=true:=decide_eq_true (by omega)
 have hget:=mz l i k t l' hi
 have hw:IntKind.i64.wrap ((i:Int)+1)=((i+1:Nat):Int):=bu i (by omega)
 have hown:e=91∨(acc.map Tok.enc).isEmpty=true:=by
  rcases he with rfl|rfl
  ·exact .inl rfl
  ·exact .inr rfl
 have hlim1:acc.length+1<cJ:=by unfold cJ;omega
 have hlim2:acc.length+1+(Ne.flat l').length<cJ:=by unfold cJ;omega
 have hlim3:acc.length+1+(Ne.flat l').length+1<cJ:=by unfold cJ;omega
 unfold flp2
 conv in ap _ _=>whnf
 conv in ap _ _=>whnf
 conv in exL _ _ _ (flat2H l i e acc)=>rw[aw]
 by_cases h1:k=1
 ·subst h1
  have c1:decide ((1:Int)<1)=false:=by decide
  have c2:decide ((5:Int)<1)=false:=by decide
  have c3:decide ((1:Int)<1)=false:=by decide
  refine ⟨91,.inl rfl,?_⟩
  have hv:Ne.dm (.mk 1 t l')=[t]:=by rw[Ne.dm,if_pos rfl]
  rw[hv]
  simp only[go_sem,Nat.reduceLT,reduceCtorEq,Nat.reduceEqDiff,Nat.reduceBEq,Nat.reduceAdd,Nat.reduceLeDiff,Nat.reduceMul,ai ah,am ah,af (len:=1) ag aG ae ⟨rfl,by decide,by decide⟩,bV dU,bf ag,aj aa,aH,hlt,hget,Int.natCast_nonneg,hf,iZ,jU,hlim1,hlim2,hown,k7,ld,hw,c2]
  rw[az]
  simp only[go_sem,reduceCtorEq,Nat.reduceEqDiff]
 by_cases h5:k=5
 ·subst h5
  have c1:decide ((5:Int)<1)=false:=by decide
  have c2:decide ((5:Int)<5)=false:=by decide
  have c3:decide ((1:Int)<5)=true:=by decide
  have n1:((5:Int)=1)=False:=by decide
  have b1:((5:Int)==1)=false:=by decide
  have q1:((0:Int)≤4∧(4:Int)≤((4:Nat):Int))=True:=by simp
  have q2:((0:Int)≤3∧(3:Int)≤((4:Nat):Int))=True:=by simp
  have q3:Int.toNat 4=4:=rfl
  have q4:Int.toNat 3=3:=rfl
  have w1:IntKind.i64.wrap (5 - 2)=3:=by decide
  have w2:IntKind.i64.wrap (5 - 1)=4:=by decide
  have hd2:=fZ [41]
  refine ⟨91,.inl rfl,?_⟩
  have hv:Ne.dm (.mk 5 t l')=t::(Ne.flat l'++[Ne.cS 5]):=by rw[Ne.dm,if_neg (by decide),if_pos rfl]
  rw[hv]
  have ha:acc++t::(Ne.flat l'++[Ne.cS 5])=acc++[t]++Ne.flat l'++[Tok.mk 7 [41] 0]:=by simp[Ne.cS,Ne.eO]
  rw[ha]
  simp only[go_sem,Nat.reduceLT,reduceCtorEq,Nat.reduceEqDiff,Nat.reduceBEq,Nat.reduceAdd,Nat.reduceLeDiff,Nat.reduceMul,ai ah,am ah,af (len:=1) ag aG ae ⟨rfl,by decide,by decide⟩,bV dU,bf ag,aj aa,aH,hlt,hget,Int.natCast_nonneg,hf,iZ,jU,hlim1,hlim2,hlim3,hown,k7,nq,ld,hw,c1,c3,b1,q1,q2,q3,q4,w1,w2,hd2]
  rw[az]
  simp only[go_sem,reduceCtorEq,Nat.reduceEqDiff]
 by_cases h2:k=2
 ·subst h2
  have c1:decide ((2:Int)<1)=false:=by decide
  have c2:decide ((5:Int)<2)=false:=by decide
  have c3:decide ((1:Int)<2)=true:=by decide
  have n1:((2:Int)=1)=False:=by decide
  have n5:((2:Int)=5)=False:=by decide
  have b1:((2:Int)==1)=false:=by decide
  have b5:((2:Int)==5)=false:=by decide
  have q1:((0:Int)≤1∧(1:Int)≤((3:Nat):Int))=True:=by simp
  have q2:((0:Int)≤0∧(0:Int)≤((1:Nat):Int))=True:=by simp
  have q3:((0:Int)≤1∧(1:Int)≤((4:Nat):Int))=True:=by simp
  have q4:Int.toNat 1=1:=rfl
  have q5:Int.toNat 0=0:=rfl
  have w1:IntKind.i64.wrap (2 - 2)=0:=by decide
  have w2:IntKind.i64.wrap (2 - 1)=1:=by decide
  have hd1:=fZ [40]
  have hd2:=fZ [41]
  refine ⟨91,.inl rfl,?_⟩
  have hv:Ne.dm (.mk 2 t l')=Ne.iX 2::(Ne.flat l'++[Ne.cS 2]):=by rw[Ne.dm,if_neg (by decide),if_neg (by decide),if_pos (by decide)]
  rw[hv]
  have ha:acc++Ne.iX 2::(Ne.flat l'++[Ne.cS 2])=acc++[Tok.mk 7 [40] 0]++Ne.flat l'++[Tok.mk 7 [41] 0]:=by simp[Ne.cS,Ne.eO,Ne.iX,Ne.uT]
  rw[ha]
  simp only[go_sem,Nat.reduceLT,reduceCtorEq,Nat.reduceEqDiff,Nat.reduceBEq,Nat.reduceAdd,Nat.reduceLeDiff,Nat.reduceMul,ai ah,am ah,af (len:=1) ag aG ae ⟨rfl,by decide,by decide⟩,bV dU,bf ag,aj aa,aH,hlt,hget,Int.natCast_nonneg,hf,iZ,jU,hlim1,hlim2,hlim3,hown,k7,nq,ld,hw,c1,c2,c3,b1,b5,Int.le_refl,q1,q3,q4,q5,w1,w2,hd1,hd2]
  rw[az]
  simp only[go_sem,reduceCtorEq,Nat.reduceEqDiff]
 by_cases h3:k=3
 ·subst h3
  have c1:decide ((3:Int)<1)=false:=by decide
  have c2:decide ((5:Int)<3)=false:=by decide
  have c3:decide ((1:Int)<3)=true:=by decide
  have n1:((3:Int)=1)=False:=by decide
  have n5:((3:Int)=5)=False:=by decide
  have b1:((3:Int)==1)=false:=by decide
  have b5:((3:Int)==5)=false:=by decide
  have q1:((0:Int)≤2∧(2:Int)≤((3:Nat):Int))=True:=by simp
  have q2:((0:Int)≤1∧(1:Int)≤((2:Nat):Int))=True:=by simp
  have q3:((0:Int)≤2∧(2:Int)≤((4:Nat):Int))=True:=by simp
  have q4:Int.toNat 2=2:=rfl
  have q5:Int.toNat 1=1:=rfl
  have w1:IntKind.i64.wrap (3 - 2)=1:=by decide
  have w2:IntKind.i64.wrap (3 - 1)=2:=by decide
  have hd1:=fZ [91]
  have hd2:=fZ [93]
  refine ⟨91,.inl rfl,?_⟩
  have hv:Ne.dm (.mk 3 t l')=Ne.iX 3::(Ne.flat l'++[Ne.cS 3]):=by rw[Ne.dm,if_neg (by decide),if_neg (by decide),if_pos (by decide)]
  rw[hv]
  have ha:acc++Ne.iX 3::(Ne.flat l'++[Ne.cS 3])=acc++[Tok.mk 7 [91] 0]++Ne.flat l'++[Tok.mk 7 [93] 0]:=by simp[Ne.cS,Ne.eO,Ne.iX,Ne.uT]
  rw[ha]
  simp only[go_sem,Nat.reduceLT,reduceCtorEq,Nat.reduceEqDiff,Nat.reduceBEq,Nat.reduceAdd,Nat.reduceLeDiff,Nat.reduceMul,ai ah,am ah,af (len:=1) ag aG ae ⟨rfl,by decide,by decide⟩,bV dU,bf ag,aj aa,aH,hlt,hget,Int.natCast_nonneg,hf,iZ,jU,hlim1,hlim2,hlim3,hown,k7,nq,ld,hw,c1,c2,c3,b1,b5,q1,q2,q3,q4,q5,w1,w2,hd1,hd2]
  rw[az]
  simp only[go_sem,reduceCtorEq,Nat.reduceEqDiff]
 by_cases h4:k=4
 ·subst h4
  have c1:decide ((4:Int)<1)=false:=by decide
  have c2:decide ((5:Int)<4)=false:=by decide
  have c3:decide ((1:Int)<4)=true:=by decide
  have n1:((4:Int)=1)=False:=by decide
  have n5:((4:Int)=5)=False:=by decide
  have b1:((4:Int)==1)=false:=by decide
  have b5:((4:Int)==5)=false:=by decide
  have q1:((0:Int)≤3∧(3:Int)≤((3:Nat):Int))=True:=by simp
  have q2:((0:Int)≤2∧(2:Int)≤((3:Nat):Int))=True:=by simp
  have q3:((0:Int)≤3∧(3:Int)≤((4:Nat):Int))=True:=by simp
  have q4:Int.toNat 3=3:=rfl
  have q5:Int.toNat 2=2:=rfl
  have w1:IntKind.i64.wrap (4 - 2)=2:=by decide
  have w2:IntKind.i64.wrap (4 - 1)=3:=by decide
  have hd1:=fZ [123]
  have hd2:=fZ [125]
  refine ⟨91,.inl rfl,?_⟩
  have hv:Ne.dm (.mk 4 t l')=Ne.iX 4::(Ne.flat l'++[Ne.cS 4]):=by rw[Ne.dm,if_neg (by decide),if_neg (by decide),if_pos (by decide)]
  rw[hv]
  have ha:acc++Ne.iX 4::(Ne.flat l'++[Ne.cS 4])=acc++[Tok.mk 7 [123] 0]++Ne.flat l'++[Tok.mk 7 [125] 0]:=by simp[Ne.cS,Ne.eO,Ne.iX,Ne.uT]
  rw[ha]
  simp only[go_sem,Nat.reduceLT,reduceCtorEq,Nat.reduceEqDiff,Nat.reduceBEq,Nat.reduceAdd,Nat.reduceLeDiff,Nat.reduceMul,ai ah,am ah,af (len:=1) ag aG ae ⟨rfl,by decide,by decide⟩,bV dU,bf ag,aj aa,aH,hlt,hget,Int.natCast_nonneg,hf,iZ,jU,hlim1,hlim2,hlim3,hown,k7,nq,ld,hw,c1,c2,c3,b1,b5,q1,q2,q3,q4,q5,w1,w2,hd1,hd2]
  rw[az]
  simp only[go_sem,reduceCtorEq,Nat.reduceEqDiff]
 have hv:Ne.dm (.mk k t l')=[]:=by rw[Ne.dm,if_neg h1,if_neg h5,if_neg (by omega)]
 rw[hv,List.append_nil]
 refine ⟨e,he,?_⟩
 cases c1:decide (k<1)
 ·have c2:decide (5<k)=true:=decide_eq_true (by have:=of_decide_eq_false c1;omega)
  simp only[go_sem,Nat.reduceLT,reduceCtorEq,Nat.reduceEqDiff,Nat.reduceBEq,Nat.reduceAdd,ai ah,am ah,aH,hlt,hget,Int.natCast_nonneg,hw,c1,c2]
  rw[az]
  simp only[go_sem,reduceCtorEq,Nat.reduceEqDiff]
 ·simp only[go_sem,Nat.reduceLT,reduceCtorEq,Nat.reduceEqDiff,Nat.reduceBEq,Nat.reduceAdd,ai ah,am ah,aH,hlt,hget,Int.natCast_nonneg,hw,c1]
  rw[az]
  simp only[go_sem,reduceCtorEq,Nat.reduceEqDiff]
theorem ro (l:List Val) (hl:Ne.size l≤1000000) (hin : ∀ k t l',Val.mk k t l'∈l→Flat2Den l') : ∀ (rest:List Val) (i e:Nat) (acc:List Tok),l.drop i=rest→i≤l.length→(e=91∨acc=[])→acc.length+(Ne.flat rest).length≤3000000 →
  Ends (exL K 59 flp2 (flat2H l i e acc)) fun o S=>o = .exit 0∧S.nt=67 ∧ ∃ e',S.sl 3 = .c (.own e' ((acc++Ne.flat rest).map Tok.enc))
 | [],i,e,acc,hd,hi,he,hacc=>by
  have hin:i=l.length:=by
   have:=List.drop_eq_nil_iff.1 hd
   omega
  subst hin
  have hv:acc++Ne.flat []=acc:=by rw[Ne.flat,List.append_nil]
  rw[hv]
  unfold flp2
  conv in ap _ _=>whnf
  rw[aw]
  simp only[go_sem,Nat.reduceLT,reduceCtorEq,Nat.reduceEqDiff,Nat.reduceBEq,Nat.reduceAdd,ai ah,aB,aH]
  exact ⟨e,rfl⟩
 | .mk k t l'::rest,i,e,acc,hd,hi,he,hacc=>by
  obtain ⟨g1,g2,g3⟩:=bZ hd
  have hmem:Val.mk k t l'∈l:=List.mem_of_getElem? g1
  have hsz:=ig hmem
  have hfl:=Ne.gH l'
  have hll:l.length≤1000000:=Nat.le_trans (Ne.bW l) hl
  have hsum:(Ne.flat (.mk k t l'::rest)).length=(Ne.dm (.mk k t l')).length+(Ne.flat rest).length:=by rw[Ne.flat,List.length_append]
  rw[hsum] at hacc
  have ha3:acc.length≤3000000:=by omega
  have hs3:(Ne.flat l').length≤3000000:=by omega
  have hs1:Ne.size l'≤1000000:=by omega
  obtain ⟨e',he',hstep⟩:=zp l i e acc he k t l' g1 hll ha3 hs3 (hin k t l' hmem hs1)
  rw[hstep]
  have hlen2:(acc++Ne.dm (.mk k t l')).length+(Ne.flat rest).length≤3000000:=by rw[List.length_append];omega
  have hi2:i+1≤l.length:=by omega
  have ih:=ro l hl hin rest (i+1) e' (acc++Ne.dm (.mk k t l')) g2 hi2 he' hlen2
  rw[List.append_assoc] at ih
  have hv:Ne.flat (.mk k t l'::rest)=Ne.dm (.mk k t l')++Ne.flat rest:=by rw[Ne.flat]
  rw[hv]
  exact ih
theorem Cz (l:List Val):Flat2Den l:=by
 refine Dm (fun l hin hs => ?_) l
 have hfl:=Ne.gH l
 have hacc0:([]:List Tok).length+(Ne.flat l).length≤3000000:=by rw[List.length_nil];omega
 have h:=ro l hs hin l 0 91 [] rfl (Nat.zero_le _) (Or.inl rfl) hacc0
 unfold flp2 at h
 conv at h in ap _ _=>whnf
 obtain ⟨o,S',w,rfl,hn,e',h3⟩:=h
 rw[List.nil_append] at h3
 refine ab rfl rfl Tryz.func59 rfl Tryz.ntmps59 ⟨by simp,by simp[LK]⟩ ?_
 have hr:Tryz.f59.results = #[.tmp 2]:=rfl
 simp only[go_sem,Nat.reduceLT,Nat.reduceEqDiff,Nat.reduceBEq,Nat.reduceAdd,af (len:=0) ag aG ae ⟨rfl,by decide,by decide⟩]
 rw[az]
 simp only[go_sem,reduceCtorEq,Nat.reduceEqDiff]
 erw [w]
 simp only[go_sem,Nat.reduceLT,Nat.reduceEqDiff,Nat.reduceBEq,Nat.reduceAdd,hr,hn,h3]
attribute [local go_sem] cR c5 Fz AY Cl
theorem gJ (k:Int) (t:Tok) (l:List Val):den K 66 [.agg (iT k t l)] []=some (.ret (B (Sl.al (.mk k t l))) []):=by
 refine ab rfl rfl Tryz.func66 rfl Tryz.ntmps66 ⟨by simp,by simp[LK]⟩ ?_
 have hr:Tryz.f66.results = #[.tmp 2]:=rfl
 have hs:Sl.al (.mk k t l)=((k==1)&&(t.kind==8)):=rfl
 rw[hs]
 cases e1:(k==1)
 ·simp only[go_sem,Nat.reduceLT,Nat.reduceEqDiff,Nat.reduceBEq,Nat.reduceAdd,Nat.reduceSub,Nat.reduceLeDiff,hr,e1]
 ·simp only[go_sem,Nat.reduceLT,Nat.reduceEqDiff,Nat.reduceBEq,Nat.reduceAdd,Nat.reduceSub,Nat.reduceLeDiff,hr,e1]
abbrev kM (l:List Val) (i j:Nat):St :=
  { sl:=upd (upd (upd bot 4 (I j)) 3 (I i)) 0 (L (encL l)),bx:=nobox,nt:=38 }
noncomputable def tlp2:Code := .loop (ap Tryz.f34 2)
noncomputable def tlp4:Code := .loop (ap Tryz.f34 4)
theorem AJ (l:List Val) (i:Nat) (hl:l.length≤100000000) (v:Val) (hi:l[i]? = some v) (hb:Sl.al v=true) :
  exL K 34 tlp2 (kM l i l.length)=exL K 34 tlp2 (kM l (i+1) l.length):=by
 obtain ⟨k,t,c⟩:=v
 have hil:i<l.length:=(List.getElem?_eq_some_iff.1 hi).1
 have hlt:decide ((i:Int)<(l.length:Int))=true:=decide_eq_true (by omega)
 have hget:=mz l i k t c hi
 have hw:IntKind.i64.wrap ((i:Int)+1)=((i+1:Nat):Int):=bu i (by omega)
 have hd:=gJ k t c
 rw[hb] at hd
 unfold tlp2
 conv in ap _ _=>whnf
 conv in ap _ _=>whnf
 conv in exL _ _ _ (kM l i l.length)=>rw[aw]
 simp only[go_sem,Nat.reduceLT,reduceCtorEq,Nat.reduceEqDiff,Nat.reduceBEq,Nat.reduceAdd,am ah,hlt,hget,Int.natCast_nonneg,hw,hd]
 rw[az]
 simp only[go_sem,reduceCtorEq,Nat.reduceEqDiff]
theorem EK (l:List Val) (i:Nat) (hl:l.length≤100000000) (v:Val) (hi:l[i]? = some v) (hb:Sl.al v=false) :
  Ends (exL K 34 tlp2 (kM l i l.length)) fun o S=>o = .exit 0∧S.nt=38∧S.sl 0=L (encL l)∧S.sl 3=I i∧S.sl 4=I l.length:=by
 obtain ⟨k,t,c⟩:=v
 have hil:i<l.length:=(List.getElem?_eq_some_iff.1 hi).1
 have hlt:decide ((i:Int)<(l.length:Int))=true:=decide_eq_true (by omega)
 have hget:=mz l i k t c hi
 have hd:=gJ k t c
 rw[hb] at hd
 unfold tlp2
 conv in ap _ _=>whnf
 rw[aw]
 simp only[go_sem,Nat.reduceLT,reduceCtorEq,Nat.reduceEqDiff,Nat.reduceBEq,Nat.reduceAdd,am ah,hlt,hget,Int.natCast_nonneg,hd,aB]
theorem Cy (l:List Val):Ends (exL K 34 tlp2 (kM l l.length l.length)) fun o S=>o = .exit 0∧S.nt=38∧S.sl 0=L (encL l)∧S.sl 3=I l.length∧S.sl 4=I l.length:=by
 unfold tlp2
 conv in ap _ _=>whnf
 rw[aw]
 simp only[go_sem,Nat.reduceLT,reduceCtorEq,Nat.reduceEqDiff,Nat.reduceBEq,Nat.reduceAdd,aB]
theorem qf (l:List Val) (hl:l.length≤100000000) : ∀ (rest:List Val) (i:Nat),l.drop i=rest→i≤l.length →
  Ends (exL K 34 tlp2 (kM l i l.length)) fun o S=>o = .exit 0∧S.nt=38 ∧ ∃ j:Nat,j≤l.length∧l.drop j=rest.dropWhile Sl.al∧S.sl 0=L (encL l)∧S.sl 3=I j∧S.sl 4=I l.length
 | [],i,hd,hi=>by
  have hin:i=l.length:=by
   have:=List.drop_eq_nil_iff.1 hd
   omega
  subst hin
  refine bN (Cy l) fun o S q=>⟨q.1,q.2.1,l.length,Nat.le_refl _,?_,q.2.2⟩
  simp
 | v::rest,i,hd,hi=>by
  obtain ⟨g1,g2,g3⟩:=bZ hd
  cases hb:Sl.al v with
  | true =>
   rw[AJ l i hl v g1 hb,List.dropWhile_cons,if_pos hb]
   exact qf l hl rest (i+1) g2 (by omega)
  | false =>
   refine bN (EK l i hl v g1 hb) fun o S q=>⟨q.1,q.2.1,i,hi,?_,q.2.2⟩
   rw[hd,List.dropWhile_cons,if_neg (by rw[hb];simp)]
theorem AP (l:List Val) (i j:Nat) (hl:l.length≤100000000) (hij:i≤j) (v:Val) (hi:l[j]? = some v) (hb:Sl.al v=true) :
  exL K 34 tlp4 (kM l i (j+1))=exL K 34 tlp4 (kM l i j):=by
 obtain ⟨k,t,c⟩:=v
 have hil:j<l.length:=(List.getElem?_eq_some_iff.1 hi).1
 have hlt:decide ((i:Int)<((j+1:Nat):Int))=true:=decide_eq_true (by omega)
 have hget:=mz l j k t c hi
 have hw:IntKind.i64.wrap (((j+1:Nat):Int) - 1)=(j:Int):=by rw[IntWalk.i64_in _ (by omega)];omega
 have hd:=gJ k t c
 rw[hb] at hd
 unfold tlp4
 conv in ap _ _=>whnf
 conv in ap _ _=>whnf
 conv in exL _ _ _ (kM l i (j+1))=>rw[aw]
 simp only[go_sem,Nat.reduceLT,reduceCtorEq,Nat.reduceEqDiff,Nat.reduceBEq,Nat.reduceAdd,am ah,hlt,hget,Int.natCast_nonneg,hw,hd]
 rw[az]
 simp only[go_sem,reduceCtorEq,Nat.reduceEqDiff]
theorem DW (l:List Val) (i j:Nat) (hl:l.length≤100000000) (hij:i≤j) (v:Val) (hi:l[j]? = some v) (hb:Sl.al v=false) :
  Ends (exL K 34 tlp4 (kM l i (j+1))) fun o S=>o = .exit 2∧S.nt=38∧S.sl 0=L (encL l)∧S.sl 3=I i∧S.sl 4=I ((j+1:Nat):Int):=by
 obtain ⟨k,t,c⟩:=v
 have hil:j<l.length:=(List.getElem?_eq_some_iff.1 hi).1
 have hlt:decide ((i:Int)<((j+1:Nat):Int))=true:=decide_eq_true (by omega)
 have hget:=mz l j k t c hi
 have hw:IntKind.i64.wrap (((j+1:Nat):Int) - 1)=(j:Int):=by rw[IntWalk.i64_in _ (by omega)];omega
 have hd:=gJ k t c
 rw[hb] at hd
 unfold tlp4
 conv in ap _ _=>whnf
 rw[aw]
 simp only[go_sem,Nat.reduceLT,reduceCtorEq,Nat.reduceEqDiff,Nat.reduceBEq,Nat.reduceAdd,am ah,hlt,hget,Int.natCast_nonneg,hw,hd,aB]
theorem BD (l:List Val) (i:Nat):Ends (exL K 34 tlp4 (kM l i i)) fun o S=>o = .exit 2∧S.nt=38∧S.sl 0=L (encL l)∧S.sl 3=I i∧S.sl 4=I i:=by
 unfold tlp4
 conv in ap _ _=>whnf
 rw[aw]
 simp only[go_sem,Nat.reduceLT,reduceCtorEq,Nat.reduceEqDiff,Nat.reduceBEq,Nat.reduceAdd,aB]
theorem qE (l:List Val) (hl:l.length≤100000000) (i:Nat) : ∀ (m j:Nat),j=i+m→j≤l.length →
  Ends (exL K 34 tlp4 (kM l i j)) fun o S=>o = .exit 2∧S.nt=38 ∧ ∃ e:Nat,i≤e∧e≤l.length∧(l.take e).drop i=(((l.take j).drop i).reverse.dropWhile Sl.al).reverse∧S.sl 0=L (encL l)∧S.sl 3=I i∧S.sl 4=I e
 | 0,j,hj,hjl=>by
  obtain rfl:j=i:=by omega
  refine bN (BD l j) fun o S q=>⟨q.1,q.2.1,j,Nat.le_refl _,hjl,?_,q.2.2⟩
  have:(l.take j).drop j=[]:=by rw[List.drop_eq_nil_iff,List.length_take];omega
  rw[this];rfl
 | m+1,j,hj,hjl=>by
  obtain rfl:j=(i+m)+1:=by omega
  have hlt:i+m<l.length:=by omega
  have hg:l[i+m]? = some l[i+m]:=List.getElem?_eq_getElem hlt
  have htk:(l.take (i+m+1)).drop i=(l.take (i+m)).drop i++[l[i+m]]:=by
   rw[List.take_add_one,hg,Option.toList_some,List.drop_append_of_le_length (by rw[List.length_take];omega)]
  generalize hv:l[i+m]=v at hg htk
  cases hb:Sl.al v with
  | true =>
   rw[AP l i (i+m) hl (by omega) v hg hb]
   refine bN (qE l hl i m (i+m) rfl (by omega)) fun o S q => ?_
   obtain ⟨q1,q2,e,q3,q4,q5,q6⟩:=q
   refine ⟨q1,q2,e,q3,q4,?_,q6⟩
   rw[q5,htk,List.reverse_append,List.reverse_singleton,List.singleton_append,List.dropWhile_cons,if_pos hb]
  | false =>
   refine bN (DW l i (i+m) hl (by omega) v hg hb) fun o S q=>⟨q.1,q.2.1,i+m+1,by omega,hjl,?_,q.2.2⟩
   rw[htk,List.reverse_append,List.reverse_singleton,List.singleton_append,List.dropWhile_cons,if_neg (by rw[hb];simp),List.reverse_cons,List.reverse_reverse]
theorem Ej (l:List Val) (a b:Nat):((encL l).take a).drop b=encL ((l.take a).drop b):=by
 rw[encL_map,encL_map,List.map_drop,List.map_take]
theorem Sl.trim_len (l:List Val):(Sl.trim l).length≤l.length:=by
 unfold Sl.trim
 rw[List.length_reverse]
 have h1:=(List.dropWhile_sublist Sl.al (l:=(l.dropWhile Sl.al).reverse)).length_le
 have h2:=(List.dropWhile_sublist Sl.al (l:=l)).length_le
 rw[List.length_reverse] at h1
 omega
theorem Fc (l:List Val) (hl:l.length≤100000000):den K 34 [L (encL l)] []=some (.ret (L (encL (Sl.trim l))) []):=by
 have h2:=qf l hl l 0 rfl (Nat.zero_le _)
 unfold tlp2 at h2
 conv at h2 in ap _ _=>whnf
 obtain ⟨o,S,w,rfl,hn,j,hj,hjd,s0,s3,s4⟩:=h2
 have h4:=qE l hl j (l.length - j) l.length (by omega) (Nat.le_refl _)
 unfold tlp4 at h4
 conv at h4 in ap _ _=>whnf
 obtain ⟨o',S',w',rfl,hn',e,he1,he2,hed,s0',s3',s4'⟩:=h4
 have hres:(l.take e).drop j=Sl.trim l:=by
  rw[hed,List.take_length,hjd];rfl
 have hlen:(Sl.trim l).length<cJ:=by
  have:(Sl.trim l).length≤l.length:=by rw[←hres,List.length_drop,List.length_take];omega
  unfold cJ;omega
 have hlv:=eJ l
 have hlv2:=eJ (Sl.trim l)
 have hb1:((0:Int)≤(e:Int)∧(e:Int)≤(l.length:Int))=True:=by rw[eq_iff_iff];simp;omega
 have hb2:((0:Int)≤(j:Int)∧(j:Int)≤(e:Int))=True:=by rw[eq_iff_iff];simp;omega
 refine ab rfl rfl Tryz.func34 rfl Tryz.ntmps34 ⟨by simp,by simp[LK]⟩ ?_
 have hr:Tryz.f34.results = #[.tmp 2]:=rfl
 simp only[go_sem,Nat.reduceLT,reduceCtorEq,Nat.reduceEqDiff,Nat.reduceBEq,Nat.reduceAdd,ai ah,aH]
 rw[az]
 simp only[go_sem,reduceCtorEq,Nat.reduceEqDiff]
 erw [w]
 simp only[go_sem]
 rw[az]
 simp only[go_sem,hn,s0,s3,s4]
 erw [w']
 simp only[go_sem,Nat.reduceLT,reduceCtorEq,Nat.reduceEqDiff,Nat.reduceBEq,Nat.reduceAdd,af (len:=0) ah aZ ax ⟨rfl,by decide,by decide⟩,dE ah aZ,bV cO,bf ah,hr,hn',s0',s3',s4',aH,hb1,hb2,Int.toNat_natCast,Ej,hres,hlen,hlv,hlv2,wa]
abbrev encP (l:List (List Val)):List (List PV):=l.map fun p=>[.sl (encL p)]
attribute [local go_sem] Dw A1 CE DE
theorem kI (k:Int) (t:Tok) (l:List Val):den K 123 [.agg (iT k t l)] []=some (.ret (B (Sl.al (.mk k t l))) []):=by
 refine ab rfl rfl Tryz.func123 rfl Tryz.ntmps123 ⟨by simp,by simp[LK]⟩ ?_
 have hr:Tryz.f123.results = #[.tmp 2]:=rfl
 have hs:Sl.al (.mk k t l)=((k==1)&&(t.kind==8)):=rfl
 rw[hs]
 cases e1:(k==1)
 ·simp only[go_sem,Nat.reduceLT,Nat.reduceEqDiff,Nat.reduceBEq,Nat.reduceAdd,Nat.reduceSub,Nat.reduceLeDiff,hr,e1]
 ·simp only[go_sem,Nat.reduceLT,Nat.reduceEqDiff,Nat.reduceBEq,Nat.reduceAdd,Nat.reduceSub,Nat.reduceLeDiff,hr,e1]
abbrev trH (l:List Val):St := { sl:=upd bot 0 (L (encL l)),bx:=nobox,nt:=33 }
noncomputable def trlp1:Code := .loop (ap Tryz.f70 1)
noncomputable def trlp3:Code := .loop (ap Tryz.f70 3)
theorem pZ (k:Int) (t:Tok) (c r:List Val):(encL (.mk k t c::r))[(0:Int).toNat]? = some [.int .i64 k,.int .i64 t.kind,.str t.text,.int .i64 t.n,.sl (encL c)]:=rfl
theorem uY (v:Val) (r:List Val) (n:Nat) (h:n=r.length+1):((encL (v::r)).take n).drop (1:Int).toNat=encL r:=by
 subst h
 rw[encL,List.take_of_length_le (by rw[List.length_cons,aH];omega)];rfl
theorem le00:((0:Int)≤0)=True:=by simp
theorem GX (v:Val) (r:List Val) (hl:r.length≤100000000) (hb:Sl.al v=true) :
  exL K 70 trlp1 (trH (v::r))=exL K 70 trlp1 (trH r):=by
 obtain ⟨k,t,c⟩:=v
 have hlt:decide ((0:Int)<(((r.length+1:Nat)):Int))=true:=decide_eq_true (by omega)
 have hget:=pZ k t c r
 have hcut:=uY (.mk k t c) r (r.length+1) rfl
 have hb1:((0:Int)≤1∧(1:Int)≤((r.length+1:Nat):Int))=True:=by rw[eq_iff_iff];simp;omega
 have hlv:=eJ (.mk k t c::r)
 have hd:=kI k t c
 rw[hb] at hd
 unfold trlp1
 conv in ap _ _=>whnf
 conv in ap _ _=>whnf
 conv in exL _ _ _ (trH (.mk k t c::r))=>rw[aw]
 simp only[go_sem,Nat.reduceLT,reduceCtorEq,Nat.reduceEqDiff,Nat.reduceBEq,Nat.reduceAdd,ai ah,am ah,dE ah aZ,aH,List.length_cons,hlt,hget,hd,hb1,hlv,hcut,le00]
 rw[az]
 simp only[go_sem,reduceCtorEq]
theorem H1 (v:Val) (r:List Val) (hl:r.length≤100000000) (hb:Sl.al v=false) :
  Ends (exL K 70 trlp1 (trH (v::r))) fun o S=>o = .exit 0∧S.nt=33∧S.sl 0=L (encL (v::r)):=by
 obtain ⟨k,t,c⟩:=v
 have hlt:decide ((0:Int)<(((r.length+1:Nat)):Int))=true:=decide_eq_true (by omega)
 have hget:=pZ k t c r
 have hd:=kI k t c
 rw[hb] at hd
 unfold trlp1
 conv in ap _ _=>whnf
 rw[aw]
 simp only[go_sem,Nat.reduceLT,reduceCtorEq,Nat.reduceEqDiff,Nat.reduceBEq,Nat.reduceAdd,ai ah,am ah,aH,List.length_cons,hlt,hget,hd,le00,aB]
theorem GR:Ends (exL K 70 trlp1 (trH [])) fun o S=>o = .exit 0∧S.nt=33∧S.sl 0=L (encL []):=by
 have hlt:decide ((0:Int)<((0:Nat):Int))=false:=rfl
 unfold trlp1
 conv in ap _ _=>whnf
 rw[aw]
 simp only[go_sem,Nat.reduceLT,reduceCtorEq,Nat.reduceEqDiff,Nat.reduceBEq,Nat.reduceAdd,ai ah,aH,List.length_nil,hlt,aB]
theorem wz : ∀ (l:List Val),l.length≤100000000→Ends (exL K 70 trlp1 (trH l)) fun o S=>o = .exit 0∧S.nt=33∧S.sl 0=L (encL (l.dropWhile Sl.al))
 | [],_=>GR
 | v::r,hl=>by
  rw[List.length_cons] at hl
  cases hb:Sl.al v with
  | true =>
   rw[GX v r (by omega) hb,List.dropWhile_cons,if_pos hb]
   exact wz r (by omega)
  | false =>
   rw[List.dropWhile_cons,if_neg (by rw[hb];simp)]
   exact H1 v r (by omega) hb
theorem wH (m:List Val) (k:Int) (t:Tok) (c:List Val):(encL (m++[.mk k t c]))[((m.length:Nat):Int).toNat]? = some [.int .i64 k,.int .i64 t.kind,.str t.text,.int .i64 t.n,.sl (encL c)]:=by
 exact qI (m++[.mk k t c]) m.length (.mk k t c) (by simp)
theorem Fq (m:List Val) (v:Val):(encL (m++[v])).take m.length=encL m:=by
 rw[jW,List.take_append_of_le_length (by rw[aH];exact Nat.le_refl _),List.take_of_length_le (by rw[aH];exact Nat.le_refl _)]
theorem FV (m:List Val) (v:Val) (hl:m.length≤100000000) (hb:Sl.al v=true) :
  exL K 70 trlp3 (trH (m++[v]))=exL K 70 trlp3 (trH m):=by
 obtain ⟨k,t,c⟩:=v
 have hn:(encL (m++[.mk k t c])).length=m.length+1:=by rw[aH];simp
 have hlt:decide ((0:Int)<(((m.length+1:Nat)):Int))=true:=decide_eq_true (by omega)
 have hw:IntKind.i64.wrap (((m.length+1:Nat):Int) - 1)=(m.length:Int):=by rw[IntWalk.i64_in _ (by omega)];omega
 have hget:=wH m k t c
 have hcut:=Fq m (.mk k t c)
 have hb1:((m.length:Int)≤((m.length+1:Nat):Int))=True:=by rw[eq_iff_iff];simp;omega
 have hlv:=eJ (m++[.mk k t c])
 have hd:=kI k t c
 rw[hb] at hd
 rw[Int.toNat_natCast] at hget
 unfold trlp3
 conv in ap _ _=>whnf
 conv in ap _ _=>whnf
 conv in exL _ _ _ (trH (m++[.mk k t c]))=>rw[aw]
 simp only[go_sem,Nat.reduceLT,reduceCtorEq,Nat.reduceEqDiff,Nat.reduceBEq,Nat.reduceAdd,ai ah,am ah,dE ah aZ,hn,hlt,hw,Int.natCast_nonneg,Int.toNat_natCast,hget,hd,hb1,hlv,hcut]
 rw[az]
 simp only[go_sem,reduceCtorEq]
theorem HC (m:List Val) (v:Val) (hl:m.length≤100000000) (hb:Sl.al v=false) :
  Ends (exL K 70 trlp3 (trH (m++[v]))) fun o S=>o = .exit 2∧S.nt=33∧S.sl 0=L (encL (m++[v])):=by
 obtain ⟨k,t,c⟩:=v
 have hn:(encL (m++[.mk k t c])).length=m.length+1:=by rw[aH];simp
 have hlt:decide ((0:Int)<(((m.length+1:Nat)):Int))=true:=decide_eq_true (by omega)
 have hw:IntKind.i64.wrap (((m.length+1:Nat):Int) - 1)=(m.length:Int):=by rw[IntWalk.i64_in _ (by omega)];omega
 have hget:=wH m k t c
 have hd:=kI k t c
 rw[hb] at hd
 rw[Int.toNat_natCast] at hget
 unfold trlp3
 conv in ap _ _=>whnf
 rw[aw]
 simp only[go_sem,Nat.reduceLT,reduceCtorEq,Nat.reduceEqDiff,Nat.reduceBEq,Nat.reduceAdd,ai ah,am ah,hn,hlt,hw,Int.natCast_nonneg,Int.toNat_natCast,hget,hd,aB]
theorem GW:Ends (exL K 70 trlp3 (trH [])) fun o S=>o = .exit 2∧S.nt=33∧S.sl 0=L (encL []):=by
 have hlt:decide ((0:Int)<((0:Nat):Int))=false:=rfl
 unfold trlp3
 conv in ap _ _=>whnf
 rw[aw]
 simp only[go_sem,Nat.reduceLT,reduceCtorEq,Nat.reduceEqDiff,Nat.reduceBEq,Nat.reduceAdd,ai ah,aH,List.length_nil,hlt,aB]
theorem wF : ∀ (n:Nat) (l:List Val),l.length=n→l.length≤100000000→Ends (exL K 70 trlp3 (trH l)) fun o S=>o = .exit 2∧S.nt=33∧S.sl 0=L (encL (l.reverse.dropWhile Sl.al).reverse)
 | 0,l,h,_=>by
  obtain rfl:l=[]:=List.eq_nil_of_length_eq_zero h
  exact GW
 | n+1,l,h,hl=>by
  obtain ⟨m,v,rfl⟩ : ∃ m v,l=m++[v]:=⟨l.dropLast,l.getLast (fun e=>by rw[e] at h;simp at h),(List.dropLast_concat_getLast _).symm⟩
  rw[List.length_append,List.length_singleton] at h hl
  rw[List.reverse_append,List.reverse_singleton,List.singleton_append]
  cases hb:Sl.al v with
  | true =>
   rw[FV m v (by omega) hb,List.dropWhile_cons,if_pos hb]
   exact wF n m (by omega) (by omega)
  | false =>
   rw[List.dropWhile_cons,if_neg (by rw[hb];simp),List.reverse_cons,List.reverse_reverse]
   exact HC m v (by omega) hb
theorem BI (l:List Val) (hl:l.length≤1000000000):den K 124 [L (encL l)] []=some (.ret (L (encL l)) []):=by
 refine eE (F:=uo) rfl ?_
 show (if (encL l).length≤1000000000∧(encL l).all (fun el=>el.length==5) then _ else none)=_
 have h2:(encL l).all (fun el=>el.length==5)=true:=eJ l
 rw[if_pos ⟨by rw[aH];exact hl,h2⟩]
theorem iK (l:List Val) (hl:l.length≤100000000):den K 70 [L (encL l)] []=some (.ret (L (encL (Sl.trim l))) []):=by
 have h1:=wz l hl
 have hlen:=(List.dropWhile_sublist Sl.al (l:=l)).length_le
 have h3:=wF _ (l.dropWhile Sl.al) rfl (by omega)
 unfold trlp1 at h1
 conv at h1 in ap _ _=>whnf
 obtain ⟨o,S,w,rfl,hn,s0⟩:=h1
 unfold trlp3 at h3
 conv at h3 in ap _ _=>whnf
 obtain ⟨o',S',w',rfl,hn',s0'⟩:=h3
 have hc:=BI (Sl.trim l) (by have:=Sl.trim_len l;omega)
 have e:(((l.dropWhile Sl.al).reverse).dropWhile Sl.al).reverse=Sl.trim l:=rfl
 rw[e] at s0'
 refine ab rfl rfl Tryz.func70 rfl Tryz.ntmps70 ⟨by simp,by simp[LK]⟩ ?_
 have hr:Tryz.f70.results = #[.tmp 2]:=rfl
 simp only[go_sem,Nat.reduceLT,Nat.reduceBEq]
 rw[az]
 simp only[go_sem,reduceCtorEq]
 erw [w]
 simp only[go_sem]
 rw[az]
 simp only[go_sem,hn,s0]
 erw [w']
 simp only[go_sem,Nat.reduceLT,Nat.reduceEqDiff,Nat.reduceBEq,Nat.reduceAdd,hr,hn',s0',hc]
theorem Bw (s:List UInt8):SR.aJ s=Sl.aJ s:=by funext v;cases v;rfl
theorem xX:SR.al=Sl.al:=by funext v;cases v;rfl
theorem qg (p:Val→Bool) : ∀ l:List Val,cutL p l=Sl.cut p l
 | []=>rfl
 | v::l=>by
  rw[cutL,Sl.cut,qg p l]
  all_goals (cases Sl.cut p l<;>rfl)
theorem um (s:List UInt8) : ∀ l:List Val,Sl.cut (Sl.aJ s) l=Sl.at_ s l
 | []=>rfl
 | v::l=>by
  rw[Sl.cut,Sl.at_,um s l]
  all_goals (cases Sl.at_ s l<;>rfl)
theorem FC (l:List Val) (s:List UInt8) (hl:Ne.size l≤100000000):den K 45 [L (encL l),T s] []=some (.ret (L (encP (Sl.at_ s l))) []):=by
 refine eE (F:=pAt) rfl ?_
 have hlen:=Ne.bW l
 show (match mH (encL l) with|some vs=>if vs.length≤100000000 then some ((.c (.pv (.sl (sX (cutL (SR.aJ s) vs)))):AV),([]:List (List CV))) else none|none=>none)=_
 rw[u0 l (by omega)]
 simp only
 rw[if_pos (by omega),Bw,qg,um]
theorem yR (l:List Val) (hl:Ne.size l≤100000000):den K 206 [L (encL l)] []=some (.ret (L (encP (Sl.words l))) []):=by
 refine eE (F:=uj) rfl ?_
 have hlen:=Ne.bW l
 show (match mH (encL l) with|some vs=>if vs.length≤100000000 then some ((.c (.pv (.sl (sX (full (cutL SR.al vs))))):AV),([]:List (List CV))) else none|none=>none)=_
 rw[u0 l (by omega)]
 simp only
 rw[if_pos (by omega),xX,qg];rfl
end Go.Abs
set_option linter.unusedSimpArgs true
namespace Go.Abs
open Go Go.Proofs
theorem Du (c:UInt8):lowB c=Sl.low1 c:=by
 have e1:(65:UInt8)≤c↔65≤c.toNat:=UInt8.le_iff_toNat_le
 have e2:c≤(90:UInt8)↔c.toNat≤90:=UInt8.le_iff_toNat_le
 unfold lowB Sl.low1
 by_cases h:65≤c.toNat∧c.toNat≤90
 ·rw[if_pos h,if_pos ⟨e1.2 h.1,e2.2 h.2⟩]
 ·rw[if_neg h,if_neg (fun k=>h ⟨e1.1 k.1,e2.1 k.2⟩)]
end Go.Abs
namespace Go.Abs
open Go Go.Proofs
set_option maxRecDepth 10000
attribute [local go_sem] cX bA ce bJ bL cU ci cg aN bD bt bR cz bE opd avOf cvOf St.degAt St.put okPV dQ okAV dc dh dp cG aD if_true Bool.false_eq_true if_false Option.map_some Option.map_none Option.bind_some Option.bind_none dL dG upd List.toList_toArray bX steal bd mvB dx cE co AV.deg CV.deg AV.gv AV.isIter cv cj bK List.length_nil List.length_cons List.filterMap_cons List.filterMap_nil beq_iff_eq List.getElem?_cons_zero List.getElem?_cons_succ Option.getD_some d8 eS Bool.false_and Bool.and_false Bool.and_self K_P fO bO cd bc lend back idx dedup AV.ren CV.ren TV.ren AV.ptrs CV.ptrs cD AV.flat CV.flat bU bH aR cA cQ dV bM aK bS bh bw bI bg ep CV.pv? content bo ownT aV reps pvs chunks bC leave ee cm c9 bF a8 TV.deg TV.av LK CV.plain CV.noBld cK ei bound List.map_cons List.map_nil List.all_cons List.all_nil List.any_cons List.any_nil List.contains_cons List.contains_nil List.elem_cons List.elem_nil List.cons_append List.nil_append List.append_nil List.flatMap_cons List.flatMap_nil List.zip_cons_cons List.zip_nil_left List.zip_nil_right List.take_succ_cons List.take_zero List.take_nil List.drop_succ_cons List.drop_zero List.drop_nil List.isEmpty_nil List.isEmpty_cons Bool.and_true Bool.true_and Bool.or_true Bool.true_or Bool.or_false Bool.false_or Bool.not_true Bool.not_false Nat.add_zero Nat.zero_add Option.isNone_none Option.isNone_some Option.getD_none true_and and_true not_true_eq_false not_false_eq_true decide_true decide_false Nat.le_refl and_self Bool.not_eq_true Nat.sub_self or_true true_or Option.some.injEq List.length_map List.nil_eq and_false false_and AV.live CV.live CV.liveIn dW aO Option.orElse_some Option.orElse_none head a7 aY Int.lt_irrefl List.length_append ite_self dR bQ cF br Key.clash Key.sees Key.writes Nat.lt_irrefl gt_iff_lt cf dD false_or or_false beq_self_eq_true Bool.true_beq Bool.false_beq Em ru x8
abbrev U (c:UInt8):AV := .c (.pv (.int .u8 c.toNat))
theorem Eo (c:UInt8):Tk.digit c=(decide ((48:Int)≤(c.toNat:Int))&&decide ((c.toNat:Int)≤57)):=by
 unfold Tk.digit;rw[←Bool.decide_and];exact decide_eq_decide.2 (by omega)
theorem B3 (c:UInt8):Tk.begins c=((decide ((97:Int)≤(c.toNat:Int))&&decide ((c.toNat:Int)≤122))||(decide ((65:Int)≤(c.toNat:Int))&&decide ((c.toNat:Int)≤90))||((c.toNat:Int)==95)||decide ((128:Int)≤(c.toNat:Int))):=by
 have e:((c.toNat:Int)==95)=decide ((c.toNat:Int)=95):=by
  by_cases h:(c.toNat:Int)=95<;>simp[h]
 rw[e]
 unfold Tk.begins
 rw[←Bool.decide_and,←Bool.decide_and,←Bool.decide_or,←Bool.decide_or,←Bool.decide_or]
 exact decide_eq_decide.2 (by omega)
theorem dJ (c d:UInt8):((c.toNat:Int)==(d.toNat:Int))=(c==d):=by
 by_cases e:c=d
 ·subst e;simp
 ·have:c.toNat≠d.toNat:=fun h2=>e (UInt8.toNat_inj.1 h2)
  rw[beq_eq_false_iff_ne.2 e,beq_eq_false_iff_ne.2 (by omega)]
theorem lM (c:UInt8):den K 185 [U c] []=some (.ret (B (Tk.digit c)) []):=by
 refine ab rfl rfl Tryz.func185 rfl Tryz.ntmps185 ⟨by simp,by simp[LK]⟩ ?_
 have hr:Tryz.f185.results = #[.tmp 2]:=rfl
 rw[Eo]
 cases b1:decide ((48:Int)≤(c.toNat:Int))<;>cases b2:decide ((c.toNat:Int)≤57)<;>simp only[go_sem,Nat.reduceLT,reduceCtorEq,Nat.reduceEqDiff,Nat.reduceBEq,Nat.reduceAdd,hr,b1,b2]
set_option maxHeartbeats 8000000 in
theorem mt (c:UInt8):den K 209 [U c] []=some (.ret (B (Tk.begins c)) []):=by
 refine ab rfl rfl Tryz.func209 rfl Tryz.ntmps209 ⟨by simp,by simp[LK]⟩ ?_
 have hr:Tryz.f209.results = #[.tmp 2]:=rfl
 rw[B3]
 cases b1:decide ((97:Int)≤(c.toNat:Int))<;>cases b2:decide ((c.toNat:Int)≤122)<;>cases b3:decide ((65:Int)≤(c.toNat:Int))<;>cases b4:decide ((c.toNat:Int)≤90)<;>cases b5:((c.toNat:Int)==95)<;>cases b6:decide ((128:Int)≤(c.toNat:Int))<;>simp only[go_sem,Nat.reduceLT,reduceCtorEq,Nat.reduceEqDiff,Nat.reduceBEq,Nat.reduceAdd,hr,b1,b2,b3,b4,b5,b6]
theorem qD (c:UInt8):den K 184 [U c] []=some (.ret (B (Tk.within c)) []):=by
 have d1:=mt c
 have d2:=lM c
 have e45:((c.toNat:Int)==45)=(c==45):=dJ c 45
 refine ab rfl rfl Tryz.func184 rfl Tryz.ntmps184 ⟨by simp,by simp[LK]⟩ ?_
 have hr:Tryz.f184.results = #[.tmp 2]:=rfl
 unfold Tk.within
 cases b1:Tk.begins c<;>cases b2:Tk.digit c<;>cases b3:(c==45)<;>rw[b1] at d1<;>rw[b2] at d2<;>rw[b3] at e45<;>simp only[go_sem,Nat.reduceLT,reduceCtorEq,Nat.reduceEqDiff,Nat.reduceBEq,Nat.reduceAdd,hr,d1,d2,e45]
theorem vv (s:List UInt8) (i:Nat):(s[i]? = none∧Tk.at0 (s.drop i)=0∧s.length≤i)∨(i<s.length∧s[i]? = some (Tk.at0 (s.drop i))):=by
 by_cases h:i<s.length
 ·right
  refine ⟨h,?_⟩
  rw[List.drop_eq_getElem_cons h,Tk.g6,List.getElem?_eq_getElem h]
 ·left
  refine ⟨List.getElem?_eq_none (by omega),?_,by omega⟩
  rw[List.drop_eq_nil_of_le (by omega)];rfl
theorem my (s:List UInt8) (i:Nat) (hs:s.length<1000000000000):den K 175 [T s,I i] []=some (.ret (U (Tk.at0 (s.drop i))) []):=by
 refine ab rfl rfl Tryz.func175 rfl Tryz.ntmps175 ⟨by simp,by simp[LK]⟩ ?_
 have hr:Tryz.f175.results = #[.tmp 4]:=rfl
 rcases vv s i with ⟨h1,h2,h3⟩|⟨h1,h2⟩
 ·have hlt:decide ((i:Int)<(s.length:Int))=false:=decide_eq_false (by omega)
  rw[h2]
  simp only[go_sem,Nat.reduceLT,reduceCtorEq,Nat.reduceEqDiff,Nat.reduceBEq,Nat.reduceAdd,aq ao,aI ao,hr,hlt]
  rfl
 ·have hlt:decide ((i:Int)<(s.length:Int))=true:=decide_eq_true (by omega)
  simp only[go_sem,Nat.reduceLT,reduceCtorEq,Nat.reduceEqDiff,Nat.reduceBEq,Nat.reduceAdd,aq ao,aI ao,hr,hlt,Int.natCast_nonneg,Int.toNat_natCast,h2]
abbrev FN (f:Nat):AV := .c (.fn f [])
abbrev runH (s:List UInt8) (from_:Nat) (f n:Nat):St := { sl:=upd (upd (upd (upd bot 7 (I n)) 2 (FN f)) 1 (I from_)) 0 (T s),bx:=upd nobox 100000 none,nt:=26 }
theorem Fh (s:List UInt8) (hs:s.length<1000000000000) (p:UInt8→Bool) (f:Nat) (hg:K.good f=true) (hown:K.ownRet f=false) (hf : ∀ c,den K f [U c] []=some (.ret (B (p c)) [])) (from_:Nat) : ∀ (rest:List UInt8) (n:Nat),s.drop (from_+n)=rest→from_+n≤s.length →
  Ends (exL K 182 (.loop (ap Tryz.f182 2)) (runH s from_ f n)) fun o S=>o = .exit 0∧S.sl 7=I (n+Tk.run p rest:Nat)∧S.nt=26:=by
 intro rest
 induction rest with
 | nil =>
  intro n hd hn
  have hin:from_+n=s.length:=by
   have:=List.drop_eq_nil_iff.1 hd
   omega
  have w1:IntKind.i64.wrap ((from_:Int)+(n:Int))=((from_+n:Nat):Int):=by rw[IntWalk.i64_in _ (by omega)];rfl
  have hlt:decide (((from_+n:Nat):Int)<(s.length:Int))=false:=decide_eq_false (by omega)
  conv in ap _ _=>whnf
  rw[aw]
  simp only[go_sem,Nat.reduceLT,reduceCtorEq,Nat.reduceEqDiff,Nat.reduceBEq,Nat.reduceAdd,aq ao,aB,w1,hlt,Tk.py]
 | cons c rest ih =>
  intro n hd hn
  obtain ⟨g1,g2,g3⟩:=bZ hd
  have w1:IntKind.i64.wrap ((from_:Int)+(n:Int))=((from_+n:Nat):Int):=by rw[IntWalk.i64_in _ (by omega)];rfl
  have hlt:decide (((from_+n:Nat):Int)<(s.length:Int))=true:=decide_eq_true (by omega)
  have hc:=hf c
  have ih':=ih (n+1) g2 (by omega)
  conv at ih' in ap _ _=>whnf
  conv in ap _ _=>whnf
  rw[aw]
  cases hp:p c
  ·rw[hp] at hc
   have hv:Tk.run p (c::rest)=0:=by rw[Tk.run,if_neg (by simp[hp])]
   simp only[go_sem,Nat.reduceLT,reduceCtorEq,Nat.reduceEqDiff,Nat.reduceBEq,Nat.reduceAdd,aq ao,aI ao,aB,w1,hlt,hg,hown,hc,Int.natCast_nonneg,Int.toNat_natCast,g1,hv]
  ·rw[hp] at hc
   have hv:n+1+Tk.run p rest=n+Tk.run p (c::rest):=by rw[Tk.run,if_pos hp];omega
   rw[hv] at ih'
   simp only[go_sem,Nat.reduceLT,reduceCtorEq,Nat.reduceEqDiff,Nat.reduceBEq,Nat.reduceAdd,aq ao,aI ao,w1,hlt,hg,hown,hc,Int.natCast_nonneg,Int.toNat_natCast,g1,bu n (by omega)]
   rw[az]
   simp only[go_sem,reduceCtorEq,Nat.reduceEqDiff]
   exact ih'
theorem pT (s:List UInt8) (hs:s.length<1000000000000) (p:UInt8→Bool) (f:Nat) (hg:K.good f=true) (hown:K.ownRet f=false) (hf : ∀ c,den K f [U c] []=some (.ret (B (p c)) [])) (from_:Nat) (h:from_≤s.length):den K 182 [T s,I from_,FN f] []=some (.ret (I (Tk.run p (s.drop from_):Nat)) []):=by
 refine ab rfl rfl Tryz.func182 rfl Tryz.ntmps182 ⟨by simp,by simp[LK]⟩ ?_
 have hr:Tryz.f182.results = #[.tmp 6]:=rfl
 have hnext:=Fh s hs p f hg hown hf from_ (s.drop from_) 0 rfl (by omega)
 conv at hnext in ap _ _=>whnf
 obtain ⟨o,S',e,rfl,h7,hn⟩:=hnext
 rw[Nat.zero_add] at h7
 simp only[go_sem,Nat.reduceLT,Nat.reduceBEq]
 rw[az]
 simp only[go_sem,reduceCtorEq,Nat.reduceEqDiff]
 erw [e]
 simp only[go_sem,Nat.reduceLT,Nat.reduceEqDiff,Nat.reduceBEq,Nat.reduceAdd,hr,h7,hn]
attribute [local go_sem] rF qM fe jf gX jo dI c6 vF
theorem qc (s:List UInt8) (hs:s.length<4000000000) (i:Nat) (h:i≤s.length):den K 176 [T s,I i] []=some (.ret (I (Tk.name (s.drop i):Nat)) []):=by
 have d1:=my s i (by omega)
 have d2:=my s (i+1) (by omega)
 have ht:(s.drop i).tail=s.drop (i+1):=List.tail_drop
 have hrun:=pT s (by omega) Tk.within 184 vL rfl qD i h
 unfold Tk.name Tk.cB
 rw[ht]
 generalize Tk.at0 (s.drop i)=c at d1
 generalize Tk.at0 (s.drop (i+1))=d at d2
 have b1:=mt c
 have b2:=mt d
 have e1:((c.toNat:Int)==45)=(c==45):=dJ c 45
 have e2:((d.toNat:Int)==45)=(d==45):=dJ d 45
 refine ab rfl rfl Tryz.func176 rfl Tryz.ntmps176 ⟨by simp,by simp[LK]⟩ ?_
 have hr:Tryz.f176.results = #[.tmp 4]:=rfl
 cases h1:Tk.begins c
 ·rw[h1] at b1
  cases h2:(c==45)
  ·rw[h2] at e1
   simp only[go_sem,Nat.reduceLT,reduceCtorEq,Nat.reduceEqDiff,Nat.reduceBEq,Nat.reduceAdd,hr,d1,d2,b1,e1,bu i (by omega)]
   rfl
  ·rw[h2] at e1
   cases h3:Tk.begins d
   ·rw[h3] at b2
    cases h4:(d==45)
    ·rw[h4] at e2
     simp only[go_sem,Nat.reduceLT,reduceCtorEq,Nat.reduceEqDiff,Nat.reduceBEq,Nat.reduceAdd,hr,d1,d2,b1,b2,e1,e2,bu i (by omega)]
     rfl
    ·rw[h4] at e2
     simp only[go_sem,Nat.reduceLT,reduceCtorEq,Nat.reduceEqDiff,Nat.reduceBEq,Nat.reduceAdd,hr,d1,d2,b1,b2,e1,e2,hrun,bu i (by omega)]
   ·rw[h3] at b2
    simp only[go_sem,Nat.reduceLT,reduceCtorEq,Nat.reduceEqDiff,Nat.reduceBEq,Nat.reduceAdd,hr,d1,d2,b1,b2,e1,hrun,bu i (by omega)]
 ·rw[h1] at b1
  simp only[go_sem,Nat.reduceLT,reduceCtorEq,Nat.reduceEqDiff,Nat.reduceBEq,Nat.reduceAdd,hr,d1,d2,b1,hrun,bu i (by omega)]
inductive TS where
 | nils
 | live
 | wr (l:List Tok)
def TS.toks:TS→List Tok
 | .wr l=>l
 | _=>[]
def TS.cell:TS→CV
 | .nils => .nils
 | .live => .own 0 []
 | .wr l => .own 91 (l.map Tok.enc)
abbrev scan (s:List UInt8) (x:TS):List CV:=[.pv (.str s),x.cell]
theorem wq (a b c:PV):lens 3 [[a,b,c]]=true:=rfl
theorem iJ (l:List Tok):lens 3 (l.map Tok.enc)=true:=by simp[lens,Tok.enc]
theorem rl (s:List UInt8) (x:TS) (n:Nat) (h:n≤s.length):den K 210 [P0,I n] [scan s x]=some (.ret (.tup []) [scan (s.drop n) x]):=by
 refine ab rfl rfl Tryz.func210 rfl Tryz.ntmps210 ⟨by simp,by simp[LK]⟩ ?_
 have hr:Tryz.f210.results = #[]:=rfl
 have hb:((0:Int)≤(n:Int)∧(n:Int)≤(s.length:Int))=True:=eq_true (by omega)
 have hd:(s.take s.length).drop n=s.drop n:=by rw[List.take_length]
 cases x<;>simp only[TS.cell,scan,go_sem,Nat.reduceLT,reduceCtorEq,Nat.reduceEqDiff,Nat.reduceBEq,Nat.reduceAdd,Nat.reduceLeDiff,aj ao,hr,hb,Int.toNat_natCast,hd]
theorem Ae (s:List UInt8) (x:TS) (n:Nat) (kind:Int) (text:List UInt8) (v:Int) (h:n≤s.length) (hx:x.toks.length<4000000000) :
  den K 181 [P0,I n,I kind,T text,I v] [scan s x]=some (.ret (.tup []) [scan (s.drop n) (.wr (x.toks++[⟨kind,text,v⟩]))]):=by
 refine ab rfl rfl Tryz.func181 rfl Tryz.ntmps181 ⟨by simp,by simp[LK]⟩ ?_
 have hr:Tryz.f181.results = #[]:=rfl
 have hsk:=rl s (.wr (x.toks++[⟨kind,text,v⟩])) n h
 have hl:x.toks.length+1<cJ:=by simp[cJ];omega
 cases x<;>simp only[TS.cell,TS.toks,scan,List.map_append,List.map_cons,List.map_nil,Tok.enc,List.nil_append,List.length_nil] at hsk hl ⊢ <;>
  simp only[go_sem,Nat.reduceLT,reduceCtorEq,Nat.reduceEqDiff,Nat.reduceBEq,Nat.reduceAdd,Nat.reduceLeDiff,Nat.reduceMul,ak ae aA,af (len:=1) ag aG ae ⟨rfl,by decide,by decide⟩,bV dU,bf ag,hr,hsk,hl,wa,wq,iJ]
end Go.Abs
set_option linter.unusedSimpArgs true
namespace Go.Abs
open Go
theorem iz {α:Type}:(#[]:Array α).isEmpty=true:=rfl
def encT (l:List (List UInt8)):List (List PV):=l.map fun s=>[.str s]
theorem vh (l:List (List UInt8)):(encT l).length=l.length:=List.length_map ..
theorem HO (l:List (List UInt8)) (i:Nat) (x:List UInt8) (h:l[i]? = some x):(encT l)[(i:Int).toNat]? = some [.str x]:=by
 rw[Int.toNat_natCast,encT,List.getElem?_map,h];rfl
def ixI (o:Option Nat):Int:=match o with|some j=>j|none => -1
theorem HV {α:Type} {p:α→Bool} {l:List α}:decide (0≤ixI (l.findIdx? p))=l.any p:=by
 cases h:l.findIdx? p with
 | none =>
  rw[List.findIdx?_eq_none_iff] at h
  have:l.any p=false:=by
   rw[List.any_eq_false]
   intro x hx
   rw[h x hx];simp
  rw[this];decide
 | some j =>
  obtain ⟨hj,hp,_⟩:=List.findIdx?_eq_some_iff_getElem.1 h
  have:l.any p=true:=by
   rw[List.any_eq_true]
   exact ⟨_,List.getElem_mem hj,hp⟩
  rw[this]
  show decide ((0:Int)≤(j:Int))=true
  exact decide_eq_true (by omega)
end Go.Abs
namespace Go.Abs
namespace Sl
def rB:List UInt8:=[48,49,50,51,52,53,54,55,56,57]
theorem xP (c:UInt8):rB.contains c=Tk.digit c:=by
 have h : ∀ n∈List.range 256,rB.contains (UInt8.ofNat n)=Tk.digit (UInt8.ofNat n):=by decide +kernel
 have:=h c.toNat (List.mem_range.2 c.toNat_lt)
 rwa [UInt8.ofNat_toNat] at this
theorem qh {p:UInt8→Bool} {l:List UInt8}:l.dropWhile p=[]↔l.all p=true:=by
 induction l with
 | nil=>simp
 | cons c l ih =>
  rw[List.dropWhile_cons,List.all_cons]
  split
  ·rename_i h;rw[h,Bool.true_and];exact ih
  ·rename_i h;simp[h]
theorem vl (s:List UInt8):(Lib.trimS s rB==[])=s.all Tk.digit:=by
 have hf:(fun c=>rB.contains c)=Tk.digit:=funext xP
 unfold Lib.trimS Lib.trimLeftS Lib.trimRightS
 rw[hf,Bool.eq_iff_iff,beq_iff_eq,qh,List.all_reverse]
 constructor
 ·intro h
  rw[List.all_eq_true] at h ⊢
  have h2:s.reverse.dropWhile Tk.digit=[]:=by
   cases hd:s.reverse.dropWhile Tk.digit with
   | nil=>rfl
   | cons c r =>
    have hc:=h c (by rw[hd];simp)
    have : ¬ (Tk.digit c=true):=by
     have:=List.head?_dropWhile_not Tk.digit s.reverse
     rw[hd] at this
     simpa using this
    exact absurd hc this
  rw[qh,List.all_reverse,List.all_eq_true] at h2
  exact h2
 ·intro h
  have:s.reverse.dropWhile Tk.digit=[]:=by rw[qh,List.all_reverse];exact h
  rw[this];rfl
theorem kq : ∀ (s:List UInt8) (n:Nat),s.all Tk.digit=true → ∃ m:Nat,Lib.decFrom n s=some m∧(m:Int)=s.foldl (fun n c=>10*n+((c.toNat:Int) - 48)) (n:Int)
 | [],n,_=>⟨n,rfl,rfl⟩
 | c::s,n,h=>by
  rw[List.all_cons,Bool.and_eq_true] at h
  obtain ⟨h1,h2⟩:=h
  have hc:48≤c.toNat∧c.toNat≤57:=of_decide_eq_true h1
  have hd:Lib.digitVal c=some (c.toNat - 48):=if_pos hc
  obtain ⟨m,e1,e2⟩:=kq s (n*10+(c.toNat - 48)) h2
  refine ⟨m,?_,?_⟩
  ·unfold Lib.decFrom;rw[hd];exact e1
  ·rw[e2,List.foldl_cons]
   congr 1
   omega
theorem xo {s:List UInt8} (h:s.all Tk.digit=true) (h1:1≤s.length) (h4:s.length≤4):Lib.atoi s=some (digits s):=by
 obtain ⟨m,e1,e2⟩:=kq s 0 h
 have hd:digits s=(m:Int):=by
  unfold digits
  rw[if_neg (by omega),if_pos h,e2]
  rfl
 rw[hd]
 cases s with
 | nil=>simp at h1
 | cons c r =>
  rw[List.all_cons,Bool.and_eq_true] at h
  have hc:48≤c.toNat∧c.toNat≤57:=of_decide_eq_true h.1
  have n1:(c==45)=false:=by
   rw[beq_eq_false_iff_ne];rintro rfl;exact absurd hc.1 (by decide)
  have n2:(c==43)=false:=by
   rw[beq_eq_false_iff_ne];rintro rfl;exact absurd hc.1 (by decide)
  unfold Lib.atoi
  simp only[n1,n2,Bool.false_eq_true,if_false]
  unfold Lib.decNat
  rw[List.isEmpty_cons,if_neg (by simp),e1]
  rfl
theorem wS {s:List UInt8} (h : ¬ (s.all Tk.digit=true∧1≤s.length∧s.length≤4)):digits s = -1:=by
 unfold digits
 split
 ·rfl
 ·split
  ·rename_i h1 h2
   exact absurd ⟨h2,by omega,by omega⟩ h
  ·rfl
theorem vR {s:List UInt8} (h:s.all Tk.digit=true∧1≤s.length∧s.length≤4):0≤digits s:=by
 obtain ⟨m,e1,e2⟩:=kq s 0 h.1
 have hd:digits s=(m:Int):=by
  unfold digits
  rw[if_neg (by omega),if_pos h.1,e2]
  rfl
 omega
theorem ze {s:List UInt8}:digits s≤9999:=by
 unfold digits
 split
 ·omega
 ·rename_i h0
  split
  ·rename_i h1
   have key : ∀ (r:List UInt8) (n k:Int),r.all Tk.digit=true→n≤k→r.foldl (fun n c=>10*n+((c.toNat:Int) - 48)) n≤k*10 ^ r.length+(10 ^ r.length - 1):=by
    intro r
    induction r with
    | nil=>intro n k _ h;simp;omega
    | cons c r ih =>
     intro n k h hk
     rw[List.all_cons,Bool.and_eq_true] at h
     have hc:48≤c.toNat∧c.toNat≤57:=of_decide_eq_true h.1
     rw[List.foldl_cons]
     refine Int.le_trans (ih _ (10*k+9) h.2 (by omega)) ?_
     rw[List.length_cons,Int.pow_succ]
     have:(10*k+9)*10 ^ r.length=k*(10 ^ r.length*10)+9*10 ^ r.length:=by
      rw[Int.add_mul];congr 1;rw[Int.mul_comm 10 k,Int.mul_assoc,Int.mul_comm 10]
     omega
   have h2:=key s 0 0 h1 (Int.le_refl _)
   have h3:(10:Int) ^ s.length≤10000:=by
    have:s.length≤4:=by omega
    match s.length,this with
    | 0,_=>decide
    | 1,_=>decide
    | 2,_=>decide
    | 3,_=>decide
    | 4,_=>decide
   omega
  ·omega
def s9 (s:List UInt8):List Val→Option Sim
 | [.mk k u _]=>if k=1∧(u.kind=1∨u.kind=6) then some (.mk 6 s u.text 0 0 []) else none
 | _=>none
def EE (m:List Val):Option Sim:=match name m with
 | none=>none
 | some (s,r)=>match sign [61] r with
  | some r2=>s9 s r2
  | none=>if r=[] then some (.mk 5 s [] 0 0 []) else none
theorem zf (l:List Val):attr l=EE (l.filter fun v => !al v):=by
 unfold attr EE
 generalize (l.filter fun v => !al v)=m
 match m with
 | []=>rfl
 | [.mk k t c] =>
  unfold name tokK
  simp only
  by_cases h:k=1∧t.kind=1
  ·rw[if_pos h,if_pos h];rfl
  ·rw[if_neg h,if_neg h];rfl
 | [.mk k t c,e] =>
  unfold name tokK
  simp only
  by_cases h:k=1∧t.kind=1
  ·rw[if_pos h]
   simp only[Option.map_some,List.tail_cons,sign]
   cases aJ [61] e<;>simp[s9]
  ·rw[if_neg h];rfl
 | [.mk k t c,e,.mk k' u c'] =>
  unfold name tokK
  simp only
  by_cases h:k=1∧t.kind=1
  ·rw[if_pos h]
   simp only[Option.map_some,List.tail_cons,sign]
   cases hs:aJ [61] e
   ·simp
   ·simp only[if_true,s9]
    by_cases h2:k'=1∧(u.kind=1∨u.kind=6)
    ·rw[if_pos h2,if_pos ⟨h.1,h.2,(by first|rfl|trivial),h2.1,h2.2⟩]
    ·rw[if_neg h2,if_neg fun x=>h2 ⟨x.2.2.2.1,x.2.2.2.2⟩]
  ·rw[if_neg h,if_neg fun x=>h ⟨x.1,x.2.1⟩];rfl
 | .mk k t c::e::w::z::m =>
  unfold name tokK
  simp only
  by_cases h:k=1∧t.kind=1
  ·rw[if_pos h]
   simp only[Option.map_some,List.tail_cons,sign]
   cases aJ [61] e<;>simp[s9]
  ·rw[if_neg h];rfl
end Sl
end Go.Abs
set_option linter.unusedSimpArgs true
namespace Go.Abs
theorem lW (p:Val→Bool) : ∀ l:List Val, ∀ q∈Sl.cut p l,Ne.size q≤Ne.size l
 | [],q,hq=>by
  rw[Sl.cut,List.mem_singleton] at hq
  subst hq;exact Nat.le_refl _
 | v::l,q,hq=>by
  rw[Ne.size]
  cases h:p v with
  | true =>
   rw[Sl.px h] at hq
   rcases List.mem_cons.1 hq with rfl|hq
   ·rw[Ne.size];omega
   ·have:=lW p l q hq
    omega
  | false =>
   obtain ⟨r,rs,e⟩:=Sl.oG p l
   rw[Sl.qw h e] at hq
   rcases List.mem_cons.1 hq with rfl|hq
   ·have:=lW p l r (by rw[e];simp)
    rw[Ne.size];omega
   ·have:=lW p l q (by rw[e];simp[hq])
    omega
theorem vt : ∀ a b:List Val,Ne.size (a++b)=Ne.size a+Ne.size b
 | [],b=>by rw[List.nil_append,Ne.size];omega
 | v::a,b=>by rw[List.cons_append,Ne.size,Ne.size,vt a b];omega
theorem iW (p:Val→Bool) : ∀ l:List Val,Ne.size (l.dropWhile p)≤Ne.size l
 | []=>Nat.le_refl _
 | v::l=>by
  have:=iW p l
  rw[List.dropWhile_cons]
  split
  ·rw[Ne.size];omega
  ·exact Nat.le_refl _
theorem qi : ∀ l:List Val,Ne.size l.reverse=Ne.size l
 | []=>rfl
 | v::l=>by rw[List.reverse_cons,vt,qi l,Ne.size,Ne.size,Ne.size];omega
theorem tf (l:List Val):Ne.size (Sl.trim l)≤Ne.size l:=by
 unfold Sl.trim
 rw[qi]
 refine Nat.le_trans (iW _ _) ?_
 rw[qi]
 exact iW _ _
end Go.Abs
set_option linter.unusedSimpArgs true
namespace Go.Abs
open Go Go.Proofs
theorem Et (s:List UInt8) (l:List Val) : ∀ q∈Sl.at_ s l,Ne.size q≤Ne.size l:=by
 rw[←um];exact lW _ l
theorem B5 (s:List UInt8) (l:List Val):(Sl.at_ s l).length≤l.length+1:=by
 rw[←um];exact Sl.ml _ l
end Go.Abs
namespace Go.Abs
open Go Go.Proofs Go.ChangeShapes Go.WideShapes Go.ChangeAt Go.RowKit
def TyP (P:Program):Nat→TypeId→List PV→Prop
 | 0,_,_=>False
 | n+1,t,ps =>
  match P.underlying t with
  | some .bool => ∃ b,ps=[.bool b]
  | some (.int k) => ∃ z,ps=[.int k z]∧(Lit.int k z).wf=true
  | some .string => ∃ s,ps=[.str s]∧s.length≤reachBytes
  | some (.slice e) => ∃ c,ps=[.sl c]∧c.length≤reachBytes ∧ ∀ el∈c,TyP P n e el
  | some (.struct fs)=>ps.length=P.cellsOf t ∧ ∀ (i:Nat) (f:Field),fs[i]? = some f→TyP P n f.type ((ps.drop f.offset).take (P.cellsOf f.type))
  | _=>False
def pG (P:Program) (L:List TypeId):Bool:=L.all fun t=>decide (t<P.types.size) &&
 match P.underlying t with
 | some .bool|some (.int _)|some .string=>P.cellsOf t==1
 | some (.slice e)=>L.contains e&&decide (0<P.cellsOf e)&&decide (0<P.bytesOf e)&&P.cellsOf t==1
 | some (.struct fs)=>fs.toList.all fun f=>L.contains f.type
 | _=>false
section
variable {H:Type} {enc:TypeId×Value→H} {P:Program} {w:World}
theorem EM {base n:Nat} {a:Addr} {cs:List Value} (h:w.cells? base a n=some cs):cs.length=n ∧ ∀ (k:Nat) (y:Value),cs[k]? = some y→w.cell? (a.add k)=some y:=by
 unfold World.cells? at h
 split at h
 case isFalse=>cases h
 have hl:cs.length=n:=by simpa using mapM_some_length h
 refine ⟨hl,fun k y hk => ?_⟩
 have hlt:k<n:=by have:=(List.getElem?_eq_some_iff.1 hk).1;omega
 have:=mapM_some_get h k k (by simp[hlt])
 rw[this,hk]
theorem FX (b o m j:Nat):((⟨b,o,none⟩:Addr).add m).add j=⟨b,o+(m+j),none⟩:=by
 simp only[Addr.add]
 split<;>split<;>simp_all [Nat.add_assoc]
theorem BS {a:Addr} {y:Value} (h:w.cell? a=some y):a=⟨a.block,a.off,none⟩:=by
 unfold World.cell? at h
 cases a with
 | mk b o s =>
  cases s with
  | none=>rfl
  | some k=>simp at h;split at h<;>simp at h
theorem vf {I:Nat→Nat→Option Value} {n:Nat} : ∀ (fs:List Field) (k:Nat) (cs:List Value),(∀ (j:Nat) (f:Field),fs[j]? = some f→f.offset=k+((fs.take j).map fun f=>P.cellsOf f.type).sum) →
  (∀ f∈fs, ∃ ps,TyP P n f.type ps∧All2 (RP I) ps ((cs.drop f.offset).take (P.cellsOf f.type))∧ps.length=P.cellsOf f.type)→cs.length=k+(fs.map fun f=>P.cellsOf f.type).sum →
  ∃ ps,ps.length=(fs.map fun f=>P.cellsOf f.type).sum∧All2 (RP I) ps (cs.drop k) ∧ ∀ (j:Nat) (f:Field),fs[j]? = some f→TyP P n f.type ((ps.drop (f.offset - k)).take (P.cellsOf f.type))
 | [],k,cs,_,_,hl=>⟨[],rfl,by rw[List.drop_eq_nil_of_le (by simp at hl;omega)];exact .nil,fun j f h=>by simp at h⟩
 | f::fs,k,cs,ho,hf,hl=>by
  have ho0:=ho 0 f rfl
  simp at ho0
  obtain ⟨p0,h1,h2,h3⟩:=hf f (by simp)
  simp only[List.map_cons,List.sum_cons] at hl
  obtain ⟨ps,h4,h5,h6⟩:=vf fs (k+P.cellsOf f.type) cs (fun j g hg=>by
   have:=ho (j+1) g (by simpa using hg)
   simp only[List.take_succ_cons,List.map_cons,List.sum_cons] at this
   omega) (fun g hg=>hf g (by simp[hg])) (by omega)
  refine ⟨p0++ps,by simp[h3,h4],?_,fun j g hg => ?_⟩
  ·rw[ho0] at h2
   have:cs.drop k=(cs.drop k).take (P.cellsOf f.type)++cs.drop (k+P.cellsOf f.type):=by
    rw[←List.drop_drop,List.take_append_drop]
   rw[this]
   exact h2.append h5
  ·cases j with
   | zero =>
    simp at hg
    subst hg
    rw[ho0,Nat.sub_self,List.drop_zero,List.take_left' h3]
    exact h1
   | succ j =>
    have hg':fs[j]? = some g:=by simpa using hg
    have:=h6 j g hg'
    have hoj:=ho (j+1) g hg
    simp only[List.take_succ_cons,List.map_cons,List.sum_cons] at hoj
    have hle:k+P.cellsOf f.type≤g.offset:=by omega
    rw[List.drop_append,List.drop_eq_nil_of_le (by omega),List.nil_append,h3]
    rw[show g.offset - k - P.cellsOf f.type=g.offset - (k+P.cellsOf f.type) by omega]
    exact this
theorem o1 {e:TypeId} : ∀ {l:List (DataW H)} {d:DataW H},d∈l → ∀ n∈d.weights P e,n∈DataW.weightsAll P e l
 | d'::l,d,h,n,hn=>by
  unfold DataW.weightsAll
  rw[List.mem_append]
  rcases List.mem_cons.1 h with rfl|h
  ·exact .inl hn
  ·exact .inr (o1 h n hn)
theorem uD : ∀ {ts:List TypeId} {ds:List (DataW H)} {j:Nat} {t:TypeId} {d:DataW H},ts[j]? = some t→ds[j]? = some d → ∀ n∈d.weights P t,n∈DataW.weightsEach P ts ds:=DataW.weights_mem_each
theorem He {I:Nat→Nat→Option Value} (hI : ∀ b o y,w.cell? ⟨b,o,none⟩=some y→I b o=some y) (K0:Kids P (· < P.types.size)) {L:List TypeId} (hL:pG P L=true) {base:Nat} {sp:Nat→Bool} {held:Bool} :
  ∀ (n:Nat) (t:TypeId) (cs:List Value) (x:DataW H×List MemPlace),DataW.trod enc P w base sp held n t cs=some x→t∈L→(∀ m∈x.1.weights P t,m≤reachBytes) → ∃ ps,TyP P n t ps∧All2 (RP I) ps cs∧ps.length=P.cellsOf t:=by
 intro n
 induction n with
 | zero=>intro t cs x h;simp[DataW.trod] at h
 | succ n ih =>
  intro t cs x h ht hw
  have hLt:=List.all_eq_true.1 hL t ht
  simp only[Bool.and_eq_true,decide_eq_true_eq] at hLt
  obtain ⟨hlt,hLt⟩:=hLt
  unfold TyP
  split at hLt
  ·rename_i hu
   obtain ⟨b,rfl,rfl⟩:=DataW.trod_bool hu h
   exact ⟨[.bool b],⟨b,rfl⟩,.cons (.bool b) .nil,(by simpa using hLt:P.cellsOf t=1).symm⟩
  ·rename_i k hu
   obtain ⟨z,rfl,rfl,hwf⟩:=DataW.trod_int hu h
   exact ⟨[.int k z],⟨z,rfl,hwf⟩,.cons (.int k z) .nil,(by simpa using hLt:P.cellsOf t=1).symm⟩
  ·rename_i hu
   obtain ⟨s,rfl,rfl,hsz⟩:=DataW.trod_string hu h
   refine ⟨[.str s.data.toList],⟨_,rfl,hw _ (by simp[DataW.weights])⟩,.cons ?_ .nil,(by simpa using hLt:P.cellsOf t=1).symm⟩
   exact .str _
  ·rename_i e hu
   simp only[Bool.and_eq_true,decide_eq_true_eq] at hLt
   obtain ⟨⟨⟨he,hpos⟩,hby⟩,hc1⟩:=hLt
   have hc1:P.cellsOf t=1:=by simpa using hc1
   rcases DataW.trod_slice hu h with ⟨rfl,rfl⟩|⟨a,len,cap,elems,rest,m,hfuel,rfl,rfl,_,hlc,_,hel,hget,_,_⟩
   ·exact ⟨[.sl []],⟨[],rfl,by simp,by simp⟩,.cons (.sl0 none 0) .nil,hc1.symm⟩
   ·have hm:m=n:=by omega
    subst hm
    have hwt : ∀ m∈(elems.length+rest.length)*P.bytesOf e::(DataW.weightsAll P e (elems.map (·.1))++DataW.weightsAll P e (rest.map (·.1))),m≤reachBytes:=by
     have:DataW.weights P t (DataW.slice (elems.map (·.1)) (rest.map (·.1)))=(elems.length+rest.length)*P.bytesOf e::(DataW.weightsAll P e (elems.map (·.1))++DataW.weightsAll P e (rest.map (·.1))):=by
      simp[DataW.weights,hu]
     rw[←this];exact hw
    have hlenb:len≤reachBytes:=by
     have h1:=hwt _ (List.mem_cons_self ..)
     have h2:(elems.length+rest.length)*1≤(elems.length+rest.length)*P.bytesOf e:=Nat.mul_le_mul_left _ hby
     omega
    have hone : ∀ i,i<len → ∃ ps,TyP P m e ps∧ps.length=P.cellsOf e ∧ ∀ (j:Nat) (p:PV),ps[j]? = some p → ∃ y,w.cell? ((a.add (i*P.cellsOf e)).add j)=some y∧RP I p y:=by
     intro i hi
     have hg:=hget i hi
     have hsome : ∃ y,elems[i]? = some y:=⟨elems[i]'(by omega),by simp[hel,hi]⟩
     obtain ⟨y,hy⟩:=hsome
     rw[hy,Option.bind_eq_some_iff] at hg
     obtain ⟨cs',hcs,htr⟩:=hg
     obtain ⟨ps,h1,h2,h3⟩:=ih e cs' y htr (by simpa using he) fun q hq=>hwt q (List.mem_cons_of_mem _ (List.mem_append_left _ (o1 (List.mem_map.2 ⟨y,List.mem_of_getElem? hy,rfl⟩) q hq)))
     obtain ⟨h4,h5⟩:=EM hcs
     refine ⟨ps,h1,h3,fun j p hj => ?_⟩
     obtain ⟨z,hz,hr⟩:=h2.get hj
     exact ⟨z,h5 j z hz,hr⟩
    obtain ⟨g,hg⟩ : ∃ g:Nat→List PV, ∀ i,i<len→TyP P m e (g i)∧(g i).length=P.cellsOf e ∧ ∀ (j:Nat) (p:PV),(g i)[j]? = some p → ∃ y,w.cell? ((a.add (i*P.cellsOf e)).add j)=some y∧RP I p y:=by
     refine ⟨fun i=>if hi:i<len then (hone i hi).choose else [],fun i hi => ?_⟩
     simp only[dif_pos hi]
     exact (hone i hi).choose_spec
    have hcget : ∀ (i:Nat) (el:List PV),((List.range len).map g)[i]? = some el→i<len∧el=g i:=fun i el hi=>by
     have hlt':=(List.getElem?_eq_some_iff.1 hi).1
     simp at hlt'
     rw[List.getElem?_map,List.getElem?_range hlt'] at hi
     simp at hi
     exact ⟨hlt',hi.symm⟩
    refine ⟨[.sl ((List.range len).map g)],⟨_,rfl,by simpa using hlenb,fun el hel' => ?_⟩,.cons ?_ .nil,hc1.symm⟩
    ·obtain ⟨i,hi,rfl⟩:=List.mem_map.1 hel'
     exact (hg i (by simpa using hi)).1
    ·by_cases h0:len=0
     ·subst h0
      exact .sl0 _ _
     ·obtain ⟨p0,hp0⟩ : ∃ p,(g 0)[0]? = some p:=⟨(g 0)[0]'(by rw[(hg 0 (by omega)).2.1];exact hpos),by simp⟩
      obtain ⟨y0,hy0,_⟩:=(hg 0 (by omega)).2.2 0 p0 hp0
      have hadd0:(a.add (0*P.cellsOf e)).add 0=a:=by simp[Addr.add]
      rw[hadd0] at hy0
      have ha:=BS hy0
      have:=RP.of_seg (I:=I) (c:=(List.range len).map g) (b:=a.block) (o:=a.off) (cap:=cap) (sz:=P.cellsOf e) (by simpa using hlc) (fun el hel'=>by
       obtain ⟨i,hi,rfl⟩:=List.mem_map.1 hel'
       exact (hg i (by simpa using hi)).2.1) (fun i el j p hi hj=>by
       obtain ⟨hlt',rfl⟩:=hcget i el hi
       obtain ⟨y,h1,h2⟩:=(hg i hlt').2.2 j p hj
       refine ⟨y,hI _ _ _ ?_,h2⟩
       have hadd:(a.add (i*P.cellsOf e)).add j=⟨a.block,a.off+(i*P.cellsOf e+j),none⟩:=by
        have:=FX a.block a.off (i*P.cellsOf e) j
        rw[←ha] at this;exact this
       rw[hadd] at h1
       exact h1)
      rw[←ha] at this
      simpa using this
  ·rename_i fs hu
   obtain ⟨xs,m,hfuel,rfl,hcl,hxl,hget⟩:=DataW.trod_struct hu h
   have hm:m=n:=by omega
   subst hm
   obtain ⟨hf1,hf2,hf3⟩:=K0.struct hlt hu
   have hwt : ∀ m∈DataW.weightsEach P (fs.toList.map (·.type)) (xs.map (·.1)),m≤reachBytes:=by
    have:DataW.weights P t (DataW.agg (xs.map (·.1)))=DataW.weightsEach P (fs.toList.map (·.type)) (xs.map (·.1)):=by
     rw[DataW.weights,hu]
    rw[←this];exact hw
   obtain ⟨ps,h1,h2,h3⟩:=vf (P:=P) (I:=I) (n:=m) fs.toList 0 cs (fun j f hj=>by rw[hf3 j f hj];omega) (fun f hf=>by
    obtain ⟨i,hi⟩:=List.mem_iff_getElem?.1 hf
    have hi':fs[i]? = some f:=by simpa using hi
    have hg:=hget i f hi'
    have hlt':i<fs.size:=(Array.getElem?_eq_some_iff.1 hi').1
    obtain ⟨y,hy⟩ : ∃ y,xs[i]? = some y:=⟨xs[i]'(by omega),by simp[hxl,hlt']⟩
    rw[hy] at hg
    exact ih f.type _ y hg (by simpa using List.all_eq_true.1 hLt f hf) fun q hq=>hwt q (uD (j:=i) (t:=f.type) (d:=y.1) (by simp[hi']) (by simp[hy]) q hq)) (by rw[hcl,hf2];omega)
   refine ⟨ps,⟨by rw[h1,hf2],fun i f hi => ?_⟩,by simpa using h2,by rw[h1,hf2]⟩
   have:=h3 i f (by simpa using hi)
   simpa using this
  ·cases hLt
def nr (P:Program) (t:TypeId) (ps:List PV):AV :=
 match P.underlying t with
 | some (.struct _) => .agg (ps.map CV.pv)
 | _=>match ps with
  | [p] => .c (.pv p)
  | _ => .c .top
theorem Hz {r:Reach} {base:Nat} {t:TypeId} {v:Value} (h:Value.okWide P w r base t v) (hs:(∀ fs,P.underlying t≠some (.struct fs)) ∧ ∀ n e,P.underlying t≠some (.array n e)):v.cells = #[v]:=by
 unfold Value.okWide at h
 split at h
 ·exact absurd ‹_› (hs.1 _)
 ·exact absurd ‹_› (hs.2 _ _)
 ·cases v<;>first|rfl|(unfold Cell.okWide Cell.ok at h;split at h<;>simp_all)
theorem wY {f:Func} {s:ChangeSpec} {apart fresh handsOn again:Bool} {W W':World} {args:Array Value} {v:Value} {ds gs:List (DataW H)} {before pa pv:List MemPlace}
  (hW:DataW.Whole enc P f.params.toList s.vars apart W args.toList ds gs before)
  (hres : ∀ (b:Nat) (sp:Nat→Bool) (hd:Bool),DataW.TrodAll enc P W' b sp hd f.resultTypes.toList (v.resultList f.resultTypes.size) (s.fn H (ds++gs)).results [])
  (hargs : ∀ sp:Nat→Bool,(∀ p∈before,sp p.block=true)→DataW.TrodAll enc P W' 0 sp true f.params.toList args.toList (s.fn H (ds++gs)).args pa)
  (hvars : ∀ sp:Nat→Bool,(∀ p∈before,sp p.block=true)→DataW.TrodVars enc P W' sp s.vars (s.fn H (ds++gs)).vars pv)
  (hps:before=pa++pv) (hk:W.keptBut W' (· ∈ before)) (hfz : ∀ a:Addr,a.block<W.heap.size→W'.frozen? a=W.frozen? a)
  (hok : ∀ (j:Nat) (t:TypeId) (r:Value),f.resultTypes[j]? = some t→(v.resultList f.resultTypes.size)[j]? = some r→Value.okWide P W' .any 0 t r) :
  s.post enc P f apart fresh handsOn again W args v W':=by
 have hold : ∀ p∈before,(fun b=>decide (b<W.heap.size)) p.block=true:=fun p hp=>by simpa using hW.lt p hp
 have hlt:=fun p hp=>hW.lt p hp
 refine ⟨ds,gs,before,[],pa,pv,hW,hres _ _ _,hargs _ hold,hvars _ hold,World.keptBut_mono (fun p hp=>⟨hp,?_⟩) hk,fun _ => ?_⟩
 ·rw[hps,List.mem_append] at hp
  exact Or.inr hp
 ·obtain ⟨_,_,_,_,_,hz,hn⟩:=hW
  refine ⟨hok,_,_,([]++pa)++pv,⟨[]++pa,pv,trodAll_append (hargs _ (fun _ _=>rfl)) (hres _ _ _),hvars _ (fun _ _=>rfl),rfl,?_,?_⟩,?_⟩
  ·intro b off hp
   have hp':MemPlace.cell b off∈before:=by rw[hps];simpa using hp
   rw[hfz _ (hlt _ hp')]
   exact hz b off hp'
  ·intro ha
   have:=hn ha
   rw[hps] at this
   simpa using this
  ·intro p hp _
   rw[hps]
   simpa using hp
def rJ (w:World):Gh := { I:=fun b o=>w.cell? ⟨b,o,none⟩,bb:=fun _=>none,ow:=fun _=>none }
theorem Il (h:TabOK (rJ w) w):WI (rJ w) w :=
 ⟨fun _ _ _ h=>h,fun b hb=>⟨fun o=>by
  show w.cell? ⟨b,o,none⟩=none
  unfold World.cell?
  have:w.heap[b]? = none:=Array.getElem?_eq_none hb
  simp[this],rfl⟩,fun _ _ h=>(by cases h),fun _ _ h=>(by cases h),h⟩
theorem p6 {W W':World} (hos:W'.os=W.os) (hout:W'.output=W.output) (h : ∀ b,b<W.heap.size→W'.heap[b]? = W.heap[b]?) (may:MemPlace→Prop):W.keptBut W' may:=by
 refine ⟨hos,hout,fun i hi => ?_⟩
 rw[h i hi]
 split
 ·rename_i h1 h2;rw[h1] at h2;cases h2;exact ⟨rfl,rfl,rfl,fun _ _=>rfl⟩
 ·rename_i h1 h2;rw[h1] at h2;cases h2;exact .inr ⟨rfl,rfl⟩
 ·rfl
end
theorem kids:Kids Tryz.prog (· < Tryz.prog.types.size):=kids_rows (by kernel_rfl) (by kernel_rfl)
theorem uS : ∀ t e,t<Tryz.prog.types.size→Tryz.prog.underlying t=some (.slice e)→0<Tryz.prog.cellsOf e:=slices_full_of _ (by kernel_rfl)
theorem xD {w:World} : ∀ {l:List (String×DataW Unit)} {ps:List MemPlace},DataW.LaidVars Tryz.prog w l ps → ∀ {n:String} {d:DataW Unit},(n,d)∈l →
  ∃ g t cs fuel p,Tryz.prog.globalNamed n=some g∧(Tryz.prog.globals[g]?).map (·.type)=some t∧w.var? Tryz.prog n=some cs∧DataW.trod (fun _=>()) Tryz.prog w 0 (fun _=>true) false fuel t cs.toList=some (d,p)
 | [],_,_,n,d,hm=>by simp at hm
 | (m,e)::l,ps,h,n,d,hm=>by
  obtain ⟨g,t,cs,fuel,p,q,h1,h2,h3,h4,h5,_⟩:=h
  rcases List.mem_cons.1 hm with h|h
  ·cases h;exact ⟨g,t,cs,fuel,p,h1,h2,h3,h4⟩
  ·exact xD h5 h
set_option maxRecDepth 100000 in
theorem H4 {W : World} {laid : List (String × DataW Unit)} (hL : laidMet Tryz.prog laid W) (hm : ("internal/strconv.uint64pow10", Go.Proofs.YtlomcifkckgneaaGreatDoor.Rows.laid_internal_strconv_uint64pow10) ∈ laid) (hsh : W.ShapedOpen Tryz.prog) : TabOK (rJ W) W := by
 refine ⟨fun x hx=>⟨rfl,?_⟩,fun b hb=>⟨rfl,?_⟩⟩
 ·simp only[tabs,List.mem_cons,List.not_mem_nil,or_false] at hx
  subst hx
  obtain ⟨ps,hl,_⟩:=hL
  obtain ⟨g,t,cs,fuel,p,h1,h2,h3,h4⟩:=xD hl hm
  have hg : g = 3 := Option.some.inj (h1.symm.trans (show Tryz.prog.globalNamed "internal/strconv.uint64pow10" = some 3 by kernel_rfl))
  subst hg
  have ht:t=230:=Option.some.inj (h2.symm.trans (show (Tryz.prog.globals[3]?).map (·.type)=some 230 by kernel_rfl))
  subst ht
  have hcs:=Lib.cells_of_tab (k := .u64) (zs:=(List.range 20).map fun i=>((10 ^ i:Nat):Int)) (n:=20) (e:=214) (by kernel_rfl) (by kernel_rfl) (by kernel_rfl) (by kernel_rfl) (h:=h4)
  simp only[World.var?,h1,Option.bind_some] at h3
  split at h3
  ·rename_i cs' ty fz hh
   cases h3
   refine ⟨ty,fz,hh.trans ?_⟩
   have:cs=cs.toList.toArray:=by simp
   rw[this,hcs]
   simp
  ·cases h3
 ·simp only[ints,List.mem_cons,List.not_mem_nil,or_false] at hb
  subst hb
  obtain ⟨cs,hh,hs,hr⟩:=hsh.1 2 #[.int .i64 0] 3 (of_decide_eq_true (by kernel_rfl)) (by kernel_rfl)
  obtain ⟨ts,hts,_,hall⟩:=hr (by kernel_rfl)
  have hct:Tryz.prog.cellTypes Tryz.prog.depth 3=some [3]:=by kernel_rfl
  have hts':ts=[3]:=Option.some.inj (hts.symm.trans hct)
  subst hts'
  have h1:0<cs.size:=by rw[hs];simp
  obtain ⟨u,hu',hok⟩:=hall 0 cs[0] (by simp[h1])
  have hu0:u=3:=by simpa using hu'.symm
  subst hu0
  unfold Cell.ok at hok
  rw[show Tryz.prog.underlying 3=some (.int .i64) by kernel_rfl] at hok
  cases hv:cs[0] with
  | int k m =>
   rw[hv] at hok
   obtain ⟨rfl,_⟩:=hok
   exact ⟨m,cs,3,_,hh,by simp[h1,hv]⟩
  | _=>rw[hv] at hok;simp at hok
section
variable {H:Type} {enc:TypeId×Value→H}
set_option maxRecDepth 100000 in
theorem zZ {W:World} {base:Nat} {L:List TypeId} (hL:pG Tryz.prog L=true) : ∀ {ts:List TypeId} {vs:List Value} {ds:List (DataW H)} {ps:List MemPlace},DataW.TrodAll enc Tryz.prog W 0 (fun _=>true) true ts vs ds ps→(∀ t∈ts,t∈L) →
  (∀ (j:Nat) (t:TypeId) (v:Value),ts[j]? = some t→vs[j]? = some v→Value.okWide Tryz.prog W .any base t v)→(∀ m∈DataW.weightsEach Tryz.prog ts ds,m≤reachBytes) →
  ∃ pss:List (List PV),All2 (fun t p => ∃ n,TyP Tryz.prog n t p) ts pss∧All2 (fun v x=>RA (rJ W) W .ret v x) (List.zipWith (nr Tryz.prog) ts pss) vs ∧ ∀ v∈List.zipWith (nr Tryz.prog) ts pss,bX v=false
 | [],[],[],_,_,_,_,_=>⟨[],.nil,.nil,by simp⟩
 | t::ts,v::vs,d::ds,ps,h,hts,hval,hw=>by
  obtain ⟨p,q,⟨n,h1⟩,h2,_⟩:=h
  have hw1 : ∀ m∈d.weights Tryz.prog t,m≤reachBytes:=fun m hm=>hw m (by unfold DataW.weightsEach;exact List.mem_append_left _ hm)
  have hw2 : ∀ m∈DataW.weightsEach Tryz.prog ts ds,m≤reachBytes:=fun m hm=>hw m (by unfold DataW.weightsEach;exact List.mem_append_right _ hm)
  have hv2 : ∀ (j:Nat) (u:TypeId) (x:Value),ts[j]? = some u→vs[j]? = some x→Value.okWide Tryz.prog W .any base u x:=by
   intro j u x hj hx
   refine hval (j+1) u x ?_ ?_
   ·rw[List.getElem?_cons_succ];exact hj
   ·rw[List.getElem?_cons_succ];exact hx
  obtain ⟨pss,h3,h4,h5⟩:=zZ hL h2 (fun u hu=>hts u (List.mem_cons_of_mem _ hu)) hv2 hw2
  obtain ⟨pv,h6,h7,h8⟩:=He (w:=W) (I:=(rJ W).I) (fun _ _ _ h=>h) kids hL n t _ _ h1 (hts t (by simp)) hw1
  have hok:=hval 0 t v rfl rfl
  have key:RA (rJ W) W .ret (nr Tryz.prog t pv) v∧bX (nr Tryz.prog t pv)=false:=by
   unfold nr
   split
   ·rename_i fs hu
    refine ⟨?_,rfl⟩
    unfold Value.okWide at hok
    rw[hu] at hok
    obtain ⟨cs,rfl,_,_⟩:=hok
    exact ⟨cs.toList,by simp,All2.dY (h7.imp fun _ _ _ h=>h)⟩
   ·rename_i hns
    have hnarr : ∀ m e,Tryz.prog.underlying t≠some (.array m e):=fun m e hu=>by
     have:=List.all_eq_true.1 hL t (hts t (by simp))
     rw[hu] at this
     simp at this
    rw[Hz hok ⟨fun fs=>hns fs,hnarr⟩] at h7
    cases h7 with
    | cons ha hb =>
     cases hb
     exact ⟨ha,rfl⟩
  refine ⟨pv::pss,.cons ⟨n,h6⟩ h3,.cons key.1 h4,fun x hx => ?_⟩
  simp only[List.zipWith_cons_cons,List.mem_cons] at hx
  rcases hx with rfl|hx
  ·exact key.2
  ·exact h5 x hx
theorem oJ {W:World} {base:Nat} {sp:Nat→Bool} {held:Bool} : ∀ {ts:List TypeId} {vs:List Value} {ds:List (DataW H)} {ps:List MemPlace},DataW.TrodAll enc Tryz.prog W base sp held ts vs ds ps→ds.length=ts.length
 | [],[],[],_,_=>rfl
 | _::_,_::_,_::_,_,⟨_,_,_,h2,_⟩=>by simp[oJ h2]
theorem mb {W W':World} {base:Nat} {sp:Nat→Bool} {held:Bool} : ∀ {ts:List TypeId} {vs:List Value} {ds:List (DataW H)} {ps:List MemPlace},(∀ p∈ps,W.sameAt W' p)→DataW.TrodAll enc Tryz.prog W base sp held ts vs ds ps→DataW.TrodAll enc Tryz.prog W' base sp held ts vs ds ps
 | [],[],[],_,_,h=>h
 | _::_,_::_,_::_,_,hs,⟨p,q,⟨n,h1⟩,h2,e⟩=>⟨p,q,⟨n,DataW.trod_carry n _ _ _ h1 fun x hx=>hs x (by rw[e];exact List.mem_append_left _ hx)⟩,mb (fun x hx=>hs x (by rw[e];exact List.mem_append_right _ hx)) h2,e⟩
set_option maxRecDepth 100000 in
/-- WHAT A LAW's ROW ASKS, from the interpreter's answer. -/
theorem HK {f:FuncId} {fn:Func} {spec:ChangeSpec} {laid:List (String×DataW Unit)} {L:List TypeId} {W:World} {base:Nat} {args:Array Value} {ds gs:List (DataW H)} {before:List MemPlace}
  (hg:K.good f=true) (hL:pG Tryz.prog L=true) (hts : ∀ t∈fn.params.toList,t∈L) (hres:fn.resultTypes = #[4]) (hvars:spec.vars=[]) (hspec : ∀ ds:List (DataW H),ds.length=fn.params.size→spec.fn H ds = { results:=[.lit (.bool true)],args:=ds })
  (hmem : ("internal/strconv.uint64pow10", Go.Proofs.YtlomcifkckgneaaGreatDoor.Rows.laid_internal_strconv_uint64pow10) ∈ laid) (hnoh : (laid.filter fun x => x.2.handleName?.isSome) = [])
  (hden : ∀ pss:List (List PV),All2 (fun t p => ∃ n,TyP Tryz.prog n t p) fn.params.toList pss→den K f (List.zipWith (nr Tryz.prog) fn.params.toList pss) []=some (.ret (.c (.pv (.bool true))) []))
  (hval : ∀ (j:Nat) t v,fn.params[j]? = some t→args[j]? = some v→Value.okWide Tryz.prog W .any base t v)
  (hW:DataW.Whole enc Tryz.prog fn.params.toList spec.vars false W args.toList ds gs before)
  (hwt:(DataW.weightsEach Tryz.prog fn.params.toList ds).all (· ≤ reachBytes)=true)
  (hLaid:laidMetH Tryz.prog laid W) (hsh:W.ShapedOpen Tryz.prog) :
  Calls Tryz.prog f args W fun e W' => ∃ v,e = .returned v∧spec.post enc Tryz.prog fn false true false false W args v W':=by
 have hW':=hW
 obtain ⟨p,q,hA,hV,rfl,hfz,hnd⟩:=hW
 rw[hvars] at hV
 have hgq:gs=[]∧q=[]:=by
  cases gs with
  | nil=>exact ⟨rfl,hV⟩
  | cons g gs=>exact hV.elim
 obtain ⟨rfl,rfl⟩:=hgq
 have hlen:=oJ hA
 have hv2 : ∀ (j:Nat) (u:TypeId) (x:Value),fn.params.toList[j]? = some u→args.toList[j]? = some x→Value.okWide Tryz.prog W .any base u x:=by
  intro j u x hj hx
  rw[Array.getElem?_toList] at hj hx
  exact hval j u x hj hx
 obtain ⟨pss,h1,h2,h3⟩:=zZ (base:=base) hL hA hts hv2 (fun m hm=>by simpa using List.all_eq_true.1 hwt m hm)
 have hlm:laidMet Tryz.prog laid W:=by
  unfold laidMetH at hLaid
  rw[hnoh] at hLaid
  exact hLaid
 have hwi:=Il (H4 hlm hmem hsh)
 have hc:=p5 HM hg (hden pss h1) (rJ W) W args.toList hwi h2 h3 (fun i l h=>by simp at h) (fun s b h=>by cases h)
 rw[Array.toArray_toList] at hc
 refine hc.mono fun e W' ⟨G',hx,hw',v,he,hv,_⟩ => ?_
 subst he
 have hv':v = .bool true:=RA.boolv hv
 subst hv'
 refine ⟨_,rfl,?_⟩
 have hold : ∀ b,b<W.heap.size→W'.heap[b]? = W.heap[b]? := fun b hb=>(hx.old b hb rfl).2.1
 have hds:spec.fn H (ds++[]) = { results:=[.lit (.bool true)],args:=ds }:=by
  rw[List.append_nil]
  exact hspec ds (by rw[hlen];simp)
 refine wY (pa:=p) (pv:=[]) hW' (fun b sp hd => ?_) (fun sp hsp => ?_) (fun sp hsp => ?_) rfl (p6 hx.os hx.output hold _) (fun a ha => ?_) ?_
 ·rw[hds,hres]
  exact trodAll_cons_mk (shut_bool (by kernel_rfl) _) trodAll_mk0
 ·rw[hds]
  have hT : ∀ t∈fn.params.toList,t<Tryz.prog.types.size:=fun t ht=>by
   have:=List.all_eq_true.1 hL t (hts t ht)
   simp only[Bool.and_eq_true,decide_eq_true_eq] at this
   exact this.1
  have:=DataW.TrodAll.respare (spare':=sp) kids uS hT hA (fun y hy=>hsp y (by simpa using hy))
  refine mb (fun y hy => ?_) this
  have hlt:y.block<W.heap.size:=DataW.TrodAll.lt hA y hy
  cases y with
  | cell b off =>
   show W'.cell? ⟨b,off,none⟩=W.cell? ⟨b,off,none⟩
   unfold World.cell?
   rw[hold b hlt]
  | map b=>exact hold b hlt
 ·rw[hds,hvars]
  rfl
 ·unfold World.frozen?
  rw[hold a.block ha]
 ·rw[hres]
  intro j t r hj hr
  have hj0:j=0:=by
   rcases Nat.eq_zero_or_pos j with h|h
   ·exact h
   ·rw[Array.getElem?_eq_none (by simp;omega)] at hj;cases hj
  subst hj0
  simp at hj
  subst hj
  have hr0:r = .bool true:=by
   have:((Value.bool true).resultList 1)[0]? = some r:=by simpa using hr
   simp[Value.resultList] at this
   exact this.symm
  subst hr0
  exact okWide_bool_mk (by kernel_rfl) _
end
end Go.Abs
namespace Go.Abs
open Go Go.Proofs
section
variable {P:Program} {t e:TypeId} {n:Nat} {ps:List PV}
theorem GQ (h:bT P t=some .str) (hp:TyP P n t ps) : ∃ s,ps=[.str s]∧s.length≤reachBytes:=by
 cases n with
 | zero=>exact hp.elim
 | succ n=>unfold TyP at hp;rw[hU h] at hp;exact hp
end
end Go.Abs
namespace Go.Abs
open Go Go.Proofs
set_option maxRecDepth 100000
theorem A7 (p:PV):nr Tryz.prog 9 [p] = .c (.pv p):=by
 unfold nr;rw[Tryz.underlying9]
theorem args1 {t:TypeId} {pss:List (List PV)} {Q:Prop} (h:All2 (fun t p => ∃ n,TyP Tryz.prog n t p) [t] pss) (hq : ∀ n p,TyP Tryz.prog n t p→pss=[p]→Q):Q:=by
 cases h with
 | cons h1 h =>
 cases h
 obtain ⟨n,h1⟩:=h1
 exact hq n _ h1 rfl
end Go.Abs
namespace Go.Abs
open Go Go.Proofs
set_option maxRecDepth 100000
end Go.Abs
