/-
  FACTS ON THE TYPES OF THIS PROGRAM, each by the kernel (printed by a program).
  (And 16 texts more.)
-/
import Derived.Test.YtlomcifkckgneaaGreatDoorRt4
import Derived.Test.YtlomcifkckgneaaGreatDoorRt5
set_option maxHeartbeats 8000000
open Nat (reduceEqDiff reduceAdd reduceLT reduceLeDiff reduceSub reduceMul)
set_option linter.unusedSimpArgs false
set_option linter.unusedVariables false
namespace Go.Abs
open Go Go.Proofs
theorem Jl:K.good 11=true:=by kernel_rfl
theorem wy:K.good 13=true:=by kernel_rfl
theorem vS:K.good 14=true:=by kernel_rfl
theorem wD:K.good 15=true:=by kernel_rfl
theorem wC:K.good 16=true:=by kernel_rfl
theorem wm:K.good 17=true:=by kernel_rfl
theorem wV:K.good 18=true:=by kernel_rfl
theorem CA:K.good 19=true:=by kernel_rfl
theorem Ck:K.good 20=true:=by kernel_rfl
theorem wY:K.good 21=true:=by kernel_rfl
theorem Cm:K.good 22=true:=by kernel_rfl
theorem CD:K.good 23=true:=by kernel_rfl
theorem CU:K.good 24=true:=by kernel_rfl
theorem Jg:K.good 26=true:=by kernel_rfl
theorem Kj:K.good 27=true:=by kernel_rfl
theorem JG:K.good 32=true:=by kernel_rfl
theorem Js:K.good 33=true:=by kernel_rfl
theorem wt:K.good 34=true:=by kernel_rfl
theorem wa:K.good 37=true:=by kernel_rfl
theorem JO:K.good 39=true:=by kernel_rfl
theorem lQ:K.good 40=true:=by kernel_rfl
theorem C8:K.good 41=true:=by kernel_rfl
theorem J7:K.good 42=true:=by kernel_rfl
theorem I8:K.good 43=true:=by kernel_rfl
theorem Ji:K.good 45=true:=by kernel_rfl
theorem KK:K.good 48=true:=by kernel_rfl
theorem Kq:K.good 49=true:=by kernel_rfl
theorem Km:K.good 50=true:=by kernel_rfl
theorem pt:K.good 51=true:=by kernel_rfl
theorem Kf:K.good 52=true:=by kernel_rfl
theorem JZ:K.good 53=true:=by kernel_rfl
theorem KG:K.good 55=true:=by kernel_rfl
theorem J1:K.good 56=true:=by kernel_rfl
theorem Cu:K.good 57=true:=by kernel_rfl
theorem Cq:K.good 64=true:=by kernel_rfl
theorem JT:K.good 65=true:=by kernel_rfl
theorem CW:K.good 66=true:=by kernel_rfl
theorem JD:K.good 68=true:=by kernel_rfl
theorem JB:K.good 70=true:=by kernel_rfl
theorem rr:K.good 71=true:=by kernel_rfl
theorem JU:K.good 72=true:=by kernel_rfl
theorem rv:K.good 73=true:=by kernel_rfl
theorem wb:K.good 74=true:=by kernel_rfl
theorem KH:K.good 75=true:=by kernel_rfl
theorem Jx:K.good 76=true:=by kernel_rfl
theorem ro:K.good 77=true:=by kernel_rfl
theorem rH:K.good 78=true:=by kernel_rfl
theorem J2:K.good 79=true:=by kernel_rfl
theorem JS:K.good 80=true:=by kernel_rfl
theorem Ks:K.good 91=true:=by kernel_rfl
theorem Jy:K.good 92=true:=by kernel_rfl
theorem KD:K.good 93=true:=by kernel_rfl
theorem Je:K.good 94=true:=by kernel_rfl
theorem Kg:K.good 95=true:=by kernel_rfl
theorem wM:K.good 96=true:=by kernel_rfl
theorem Kb:K.good 97=true:=by kernel_rfl
theorem Jp:K.good 98=true:=by kernel_rfl
theorem CX:K.good 99=true:=by kernel_rfl
theorem se:K.good 100=true:=by kernel_rfl
theorem Hc:K.good 101=true:=by kernel_rfl
theorem py:K.good 102=true:=by kernel_rfl
theorem mo:K.good 103=true:=by kernel_rfl
theorem Hf:K.good 104=true:=by kernel_rfl
theorem Gu:K.good 105=true:=by kernel_rfl
theorem pA:K.good 106=true:=by kernel_rfl
theorem mV:K.good 107=true:=by kernel_rfl
theorem FU:K.good 109=true:=by kernel_rfl
theorem IH:K.good 113=true:=by kernel_rfl
theorem IR:K.good 114=true:=by kernel_rfl
theorem HJ:K.good 115=true:=by kernel_rfl
theorem xV:K.good 116=true:=by kernel_rfl
theorem G8:K.good 117=true:=by kernel_rfl
theorem xP:K.good 118=true:=by kernel_rfl
theorem y8:K.good 119=true:=by kernel_rfl
theorem G4:K.good 120=true:=by kernel_rfl
theorem Ii:K.good 123=true:=by kernel_rfl
theorem GD:K.good 124=true:=by kernel_rfl
theorem HK:K.good 125=true:=by kernel_rfl
theorem Hv:K.good 138=true:=by kernel_rfl
theorem HR:K.good 139=true:=by kernel_rfl
theorem yw:K.good 140=true:=by kernel_rfl
theorem IG:K.good 141=true:=by kernel_rfl
theorem mG:K.good 142=true:=by kernel_rfl
theorem Iz:K.good 143=true:=by kernel_rfl
theorem yK:K.good 144=true:=by kernel_rfl
theorem GU:K.good 145=true:=by kernel_rfl
theorem IL:K.good 146=true:=by kernel_rfl
theorem Hm:K.good 149=true:=by kernel_rfl
theorem yz:K.good 150=true:=by kernel_rfl
theorem HX:K.good 151=true:=by kernel_rfl
theorem oJ:K.good 152=true:=by kernel_rfl
theorem mZ:K.good 153=true:=by kernel_rfl
theorem Gx:K.good 156=true:=by kernel_rfl
theorem Ij:K.good 157=true:=by kernel_rfl
theorem Gp:K.good 160=true:=by kernel_rfl
theorem xx:K.good 170=true:=by kernel_rfl
theorem Ga:K.good 171=true:=by kernel_rfl
theorem Gb:K.good 172=true:=by kernel_rfl
theorem IU:K.good 173=true:=by kernel_rfl
theorem rV:K.good 175=true:=by kernel_rfl
theorem zk:K.good 176=true:=by kernel_rfl
theorem Hs:K.good 177=true:=by kernel_rfl
theorem FT:K.good 178=true:=by kernel_rfl
theorem xY:K.good 179=true:=by kernel_rfl
theorem HY:K.good 180=true:=by kernel_rfl
theorem Aa:K.good 181=true:=by kernel_rfl
theorem rI:K.good 182=true:=by kernel_rfl
theorem F7:K.good 183=true:=by kernel_rfl
theorem zN:K.good 184=true:=by kernel_rfl
theorem tF:K.good 185=true:=by kernel_rfl
theorem HP:K.good 186=true:=by kernel_rfl
theorem Hx:K.good 187=true:=by kernel_rfl
theorem GB:K.good 188=true:=by kernel_rfl
theorem H9:K.good 189=true:=by kernel_rfl
theorem Gg:K.good 190=true:=by kernel_rfl
theorem Ah:K.good 191=true:=by kernel_rfl
theorem Hu:K.good 193=true:=by kernel_rfl
theorem IE:K.good 204=true:=by kernel_rfl
theorem Hd:K.good 205=true:=by kernel_rfl
theorem HH:K.good 206=true:=by kernel_rfl
theorem Gw:K.good 209=true:=by kernel_rfl
theorem yx:K.good 210=true:=by kernel_rfl
theorem H5:K.good 212=true:=by kernel_rfl
theorem Hl:K.good 213=true:=by kernel_rfl
theorem G9:K.good 230=true:=by kernel_rfl
theorem HU:K.good 231=true:=by kernel_rfl
theorem Fw:dT 15 3=([0,1,5,6],[]):=by kernel_rfl
theorem Et:dT 15 7=([0,1,5,6,7],[]):=by kernel_rfl
theorem DX:dT 22 4=([0,1,5],[]):=by kernel_rfl
theorem Ep:dT 22 9=([0,1,5,6],[]):=by kernel_rfl
theorem DR:dT 99 2=([3],[6]):=by kernel_rfl
theorem Ft:dT 33 3=([0,3,4],[]):=by kernel_rfl
theorem ET:dT 43 2=([0,1,2,7],[]):=by kernel_rfl
theorem EL:dT 18 4=([4,5,6],[]):=by kernel_rfl
theorem DE:dT 52 4=([0,1,5],[]):=by kernel_rfl
theorem DS:dT 65 5=([0,4,6],[4]):=by kernel_rfl
theorem B4:dT 231 5=([5,15,16,17],[]):=by kernel_rfl
theorem Fk:dT 34 2=([0,3,4],[]):=by kernel_rfl
theorem Fx:dT 34 4=([0,3,4],[]):=by kernel_rfl
theorem Dt:dT 26 4=([0,1,5,6,7],[]):=by kernel_rfl
theorem vA:dT 48 4=([2,4,5,6],[2,5,10]):=by kernel_rfl
theorem Fb:dT 48 6=([2,4,5,7],[2,5,7,10]):=by kernel_rfl
theorem Br:dT 182 2=([0,1,2,7],[100000]):=by kernel_rfl
theorem Ax:dT 186 6=([0,2,3,4,29],[100000]):=by kernel_rfl
theorem BO:dT 115 2=([0,5],[]):=by kernel_rfl
theorem BZ:dT 117 2=([0,1,5],[]):=by kernel_rfl
theorem Bm:dT 118 1=([0,1],[]):=by kernel_rfl
theorem AD:dT 120 4=([0,1,4,6,7],[4]):=by kernel_rfl
theorem DZ:dT 64 2=([0,2,3,8,9],[8,9]):=by kernel_rfl
theorem AH:dT 145 3=([0,2,4,5],[2,9]):=by kernel_rfl
theorem AJ:dT 146 2=([0,3],[100000]):=by kernel_rfl
theorem A7:dT 101 5=([0,3,4],[]):=by kernel_rfl
theorem Eu:dT 42 4=([0,1,2,7],[]):=by kernel_rfl
theorem EE:dT 70 1=([0],[]):=by kernel_rfl
theorem Em:dT 70 3=([0],[]):=by kernel_rfl
theorem Es:dT 17 3=([4,9,10,11],[4]):=by kernel_rfl
theorem D5:dT 24 2=([0,3],[]):=by kernel_rfl
theorem EY:dT 24 7=([0,3,4,5,6],[4]):=by kernel_rfl
theorem Dp:dT 47 3=([0,2,3,4],[2,3,100000]):=by kernel_rfl
theorem En:dT 55 3=([1,3,11,12,13],[1]):=by kernel_rfl
theorem Fy:dT 56 2=([0,3],[]):=by kernel_rfl
theorem EF:dT 91 2=([0,4],[100000]):=by kernel_rfl
theorem Au:dT 104 2=([0,1,7,8],[100000]):=by kernel_rfl
theorem BI:dT 105 2=([0,1,7,8,9],[]):=by kernel_rfl
theorem A2:dT 141 2=([0,3],[100000]):=by kernel_rfl
theorem BW:dT 151 2=([0,1,7,8],[]):=by kernel_rfl
end Go.Abs
namespace Go.Abs
open Go Go.Proofs
abbrev I (n:Int):AV:=.c (.pv (.int .i64 n))
abbrev T (l:List UInt8):AV:=.c (.pv (.str l))
abbrev B (b:Bool):AV:=.c (.pv (.bool b))
abbrev L (l:List (List PV)):AV:=.c (.pv (.sl l))
abbrev P0:AV:=.c (.loc 100000 0)
theorem ah {f:FuncId} {fn:Func} {x:Code} {nt:Nat} {args:List AV} {bxs:List (List CV)} {r:Res} (hp:prF f=none) (hh:hpF f=none) (hf:Tryz.prog.funcs[f]? = some fn) (hx:fn.body=some x) (hn:fn.ntmps=nt)
  (hl:args.length≤nt∧nt<LK) (h:(exL K f x (cd nt args bxs)).bind (fun r=>leave K f fn bxs.length (some r))=some r):den K f args bxs=some r:=by
 rw[wU (K:=K) hp hh hf hx,hn,if_pos hl];exact h
theorem fq (f:FuncId) (h:(
 f==227 ||
 f==1000000)=false):K.ownRet f=false:=h
theorem d8 (f i:Nat):K.hook f i=eV f i:=rfl
theorem K_P:K.P=Tryz.prog:=rfl
theorem dU (f r:Nat):K.keep f r=dT f r:=rfl
theorem fB {f:FuncId} {F:Prim} {args:List AV} {bxs cs:List (List CV)} {v:AV} (h:prF f=some F) (hF:F args bxs=some (v,cs)):den K f args bxs=some (.ret v cs):=by
 rw[tm (K:=K) h,hF];rfl
set_option maxRecDepth 10000
theorem yh (n:Nat):lens n []=true:=rfl
end Go.Abs
namespace Go.Abs
open Go Go.Proofs
theorem au (f:FuncId) (a:Code) (S:St):exL K f (.loop a) S=exL K f (.loop a) (head (dT f ((bg a).getD 0)) S):=by
 rw[aq,aq (S:=head _ S),dU,pE]
set_option maxRecDepth 10000
attribute [local go_sem] c7 bF cD bW bZ db cJ cE a7 ck ce cF c8 bS opd avOf cvOf St.degAt St.put okPV d6 okAV du dv dt cU aM if_true Bool.false_eq_true if_false Option.map_some Option.map_none Option.bind_some Option.bind_none dY dV upd List.toList_toArray cR steal bz mvB dE cV cT AV.deg CV.deg AV.gv AV.isIter cN cI bU List.length_nil List.length_cons List.filterMap_cons List.filterMap_nil beq_iff_eq List.getElem?_cons_zero List.getElem?_cons_succ Option.getD_some d8 eV Bool.false_and Bool.and_false Bool.and_self K_P fq co cO bw lend back idx dedup AV.ren CV.ren TV.ren AV.ptrs CV.ptrs cX AV.flat CV.flat cz cg bc c9 dk eo cj aY cm bt bH cf br eF CV.pv? content bA ownT bd reps pvs chunks cd leave eB cK dr bT bv TV.deg TV.av LK CV.plain CV.noBld c5 eA bound List.map_cons List.map_nil List.all_cons List.all_nil List.any_cons List.any_nil List.contains_cons List.contains_nil List.elem_cons List.elem_nil List.cons_append List.nil_append List.append_nil List.flatMap_cons List.flatMap_nil List.zip_cons_cons List.zip_nil_left List.zip_nil_right List.take_succ_cons List.take_zero List.take_nil List.drop_succ_cons List.drop_zero List.drop_nil List.isEmpty_nil List.isEmpty_cons Bool.and_true Bool.true_and Bool.or_true Bool.true_or Bool.or_false Bool.false_or Bool.not_true Bool.not_false Nat.add_zero Nat.zero_add Option.isNone_none Option.isNone_some Option.getD_none true_and and_true not_true_eq_false not_false_eq_true decide_true decide_false Nat.le_refl and_self Bool.not_eq_true Nat.sub_self or_true true_or Option.some.injEq List.length_map List.nil_eq and_false false_and AV.live CV.live CV.liveIn dU bg Option.orElse_some Option.orElse_none head bm bh Int.lt_irrefl List.length_append ite_self dZ cA dc bC Key.clash Key.sees Key.writes Nat.lt_irrefl gt_iff_lt cH dH false_or or_false beq_self_eq_true Bool.true_beq Bool.false_beq
theorem F9 (n:Int) (h : -9223372036854775808≤n∧n≤9223372036854775807):den K 68 [I n] []=some (.ret (T (Lib.itoa n)) []) :=
 fB (F:=yL) rfl (by simp[yL,h])
theorem bf (n:Nat) (h:n<9223372036854775807):IntKind.i64.wrap ((n:Int)+1)=((n+1:Nat):Int):=by
 rw[IntWalk.i64_in _ (by omega)];rfl
theorem bE {α:Type} {l rest:List α} {x:α} {i:Nat} (h:l.drop i=x::rest):l[i]? = some x∧l.drop (i+1)=rest∧i<l.length:=by
 have h1:l[i]? = some x:=by
  have:(l.drop i)[0]? = some x:=by rw[h];rfl
  simpa using this
 refine⟨h1,?_,(List.getElem?_eq_some_iff.1 h1).1⟩
 have:(l.drop i).tail=rest:=by rw[h];rfl
 rw[←this,List.tail_drop]
theorem nq {a b:Int} (h:a<b):decide (a<b)=true:=decide_eq_true h
end Go.Abs
namespace Go.Abs
open Go Go.Proofs
set_option maxRecDepth 10000
attribute [local go_sem] c7 bF cD bW bZ db cJ cE a7 ck ce cF c8 bS opd avOf cvOf St.degAt St.put okPV d6 okAV du dv dt cU aM if_true Bool.false_eq_true if_false Option.map_some Option.map_none Option.bind_some Option.bind_none dY dV upd List.toList_toArray cR steal bz mvB dE cV cT AV.deg CV.deg AV.gv AV.isIter cN cI bU List.length_nil List.length_cons List.filterMap_cons List.filterMap_nil beq_iff_eq List.getElem?_cons_zero List.getElem?_cons_succ Option.getD_some d8 eV Bool.false_and Bool.and_false Bool.and_self K_P fq co cO bw lend back idx dedup AV.ren CV.ren TV.ren AV.ptrs CV.ptrs cX AV.flat CV.flat cz cg bc c9 dk eo cj aY cm bt bH cf br eF CV.pv? content bA ownT bd reps pvs chunks cd leave eB cK dr bT bv TV.deg TV.av LK CV.plain CV.noBld c5 eA bound List.map_cons List.map_nil List.all_cons List.all_nil List.any_cons List.any_nil List.contains_cons List.contains_nil List.elem_cons List.elem_nil List.cons_append List.nil_append List.append_nil List.flatMap_cons List.flatMap_nil List.zip_cons_cons List.zip_nil_left List.zip_nil_right List.take_succ_cons List.take_zero List.take_nil List.drop_succ_cons List.drop_zero List.drop_nil List.isEmpty_nil List.isEmpty_cons Bool.and_true Bool.true_and Bool.or_true Bool.true_or Bool.or_false Bool.false_or Bool.not_true Bool.not_false Nat.add_zero Nat.zero_add Option.isNone_none Option.isNone_some Option.getD_none true_and and_true not_true_eq_false not_false_eq_true decide_true decide_false Nat.le_refl and_self Bool.not_eq_true Nat.sub_self or_true true_or Option.some.injEq List.length_map List.nil_eq and_false false_and AV.live CV.live CV.liveIn dU bg Option.orElse_some Option.orElse_none head bm bh Int.lt_irrefl List.length_append ite_self dZ cA dc bC Key.clash Key.sees Key.writes Nat.lt_irrefl gt_iff_lt cH dH false_or or_false beq_self_eq_true Bool.true_beq Bool.false_beq dA cB bG dz aL bX eG JD
theorem oL {n:Int} (h:I64 n):(Lib.itoa n).length≤21:=Lib.itoa_length_le n h.1 h.2
theorem JA (t:Tok) (hn:I64 t.n) (hl:t.text.length<1000000000000):den K 156 [.agg t.cells] []=some (.ret (T (oneS t)) []):=by
 obtain⟨k,s,n⟩:=t;refine ah rfl rfl Tryz.func156 rfl Tryz.ntmps156 ⟨by simp,by simp[LK]⟩ ?_
 have hr:Tryz.f156.results=#[.tmp 2]:=rfl
 have hit:=F9 n hn
 have hi:=oL hn
 simp only at hl hi;have l1:s.length+1<ci:=by simp[ci];omega
 have l1':1+s.length<ci:=by simp[ci];omega
 have l2:(Lib.itoa n).length+s.length<ci:=by simp[ci];omega
 have l3:1+s.length+1<ci:=by simp[ci];omega
 have l4:s.length+2<ci:=by simp[ci];omega
 have l5:s.length+2+1<ci:=by simp[ci];omega
 have l6:s.length+2+1+2<ci:=by simp[ci];omega
 have l7:s.length+1+1<ci:=by simp[ci];omega
 have hk:k=1∨k=2∨k=3∨k=4∨k=5∨k=6∨k=7∨k=8∨(k≠1∧k≠2∧k≠3∧k≠4∧k≠5∧k≠6∧k≠7∧k≠8):=by omega
 rcases hk with rfl|rfl|rfl|rfl|rfl|rfl|rfl|rfl|⟨h1,h2,h3,h4,h5,h6,h7,h8⟩
 ·simp[go_sem,reduceLT,reduceEqDiff,Nat.reduceBEq,reduceAdd,Tok.cells,oneS]
 ·simp[go_sem,reduceLT,reduceEqDiff,Nat.reduceBEq,reduceAdd,Tok.cells,oneS,l1]
 ·simp[go_sem,reduceLT,reduceEqDiff,Nat.reduceBEq,reduceAdd,Tok.cells,oneS,l1']
 ·simp[go_sem,reduceLT,reduceEqDiff,Nat.reduceBEq,reduceAdd,Tok.cells,oneS,l1']
 ·simp[go_sem,reduceLT,reduceCtorEq,reduceEqDiff,Nat.reduceBEq,reduceAdd,Tok.cells,oneS,hit,l2]
 ·by_cases h:n=39<;>simp[go_sem,reduceLT,reduceEqDiff,Nat.reduceBEq,reduceAdd,Tok.cells,oneS,h,l1',l7]
 ·by_cases h:s=[34]
  ·simp[go_sem,reduceLT,reduceEqDiff,Nat.reduceBEq,reduceAdd,Tok.cells,oneS,h,ci]
  ·have e:(s==[34])=false:=by simp[h]
   by_cases h':s=[39]
   ·simp[go_sem,reduceLT,reduceEqDiff,Nat.reduceBEq,reduceAdd,Tok.cells,oneS,h',ci]
   ·have e':(s==[39])=false:=by simp[h']
    simp[go_sem,reduceLT,reduceEqDiff,Nat.reduceBEq,reduceAdd,Tok.cells,oneS,e,e',h,h']
 ·simp[go_sem,reduceLT,reduceEqDiff,Nat.reduceBEq,reduceAdd,Tok.cells,oneS]
 ·simp[go_sem,reduceLT,reduceEqDiff,Nat.reduceBEq,reduceAdd,Tok.cells,oneS,h1,h2,h3,h4,h5,h6,h7,h8]
theorem mH (k k' n n':Int) (t t':List UInt8):dS Tryz.prog 91 [.int .i64 k,.str t,.int .i64 n] [.int .i64 k',.str t',.int .i64 n']=some ((k==k')&&((t==t')&&((n==n')&&true))):=by kernel_rfl
theorem nA (a b:Tok):((a.kind==b.kind)&&((a.text==b.text)&&((a.n==b.n)&&true)))=decide (a=b):=by
 obtain⟨k,t,n⟩:=a;obtain⟨k',t',n'⟩:=b;rw[Bool.eq_iff_iff,decide_eq_true_eq];simp[Tok.mk.injEq]
def xM (n:Nat):Prop:=n<9000000000000000000
theorem G5 (l:List Tok) (i:Nat) (t:Tok) (h:l[i]? = some t):(l.map Tok.enc)[(i:Int).toNat]? = some [.int .i64 t.kind,.str t.text,.int .i64 t.n]:=by
 simp[h,Tok.enc]
theorem fu (l:List Val):lens 5 (encL l)=true:=by
 rw[encL_map];simp only[lens,List.all_map,List.all_eq_true,Function.comp_apply,beq_iff_eq];intro v _;exact wF v
theorem ix (a b c d e:PV):lens 5 [[a,b,c,d,e]]=true:=rfl
theorem fJ (l:List Val) (i:Nat) (k:Int) (t:Tok) (l':List Val) (h:l[i]? = some (.mk k t l')):(encL l)[(i:Int).toNat]? = some [.int .i64 k,.int .i64 t.kind,.str t.text,.int .i64 t.n,.sl (encL l')]:=r5 l i _ h
end Go.Abs
namespace Go.Abs
open Go Go.Proofs
theorem z64:I64 0:=⟨by decide,by decide⟩
theorem e00:(([]:List UInt8)==[])=true:=rfl
theorem i00:((0:Int)==0)=true:=rfl
theorem d00:decide ((0:Int)<((0:Nat):Int))=false:=rfl
theorem s00:0<ci:=by decide
theorem kE (acc:List Sim):((acc.length:Int)==0)=acc.isEmpty:=by
 cases acc with
 | nil=>rfl
 | cons x l=>rw[List.length_cons,List.isEmpty_cons,beq_eq_false_iff_ne];omega
end Go.Abs
namespace Go.Abs
open Go Go.Proofs
set_option maxRecDepth 10000
attribute [local go_sem] c7 bF cD bW bZ db cJ cE a7 ck ce cF c8 bS opd avOf cvOf St.degAt St.put okPV d6 okAV du dv dt cU aM if_true Bool.false_eq_true if_false Option.map_some Option.map_none Option.bind_some Option.bind_none dY dV upd List.toList_toArray cR steal bz mvB dE cV cT AV.deg CV.deg AV.gv AV.isIter cN cI bU List.length_nil List.length_cons List.filterMap_cons List.filterMap_nil beq_iff_eq List.getElem?_cons_zero List.getElem?_cons_succ Option.getD_some d8 eV Bool.false_and Bool.and_false Bool.and_self K_P fq co cO bw lend back idx dedup AV.ren CV.ren TV.ren AV.ptrs CV.ptrs cX AV.flat CV.flat cz cg bc c9 dk eo cj aY cm bt bH cf br eF CV.pv? content bA ownT bd reps pvs chunks cd leave eB cK dr bT bv TV.deg TV.av LK CV.plain CV.noBld c5 eA bound List.map_cons List.map_nil List.all_cons List.all_nil List.any_cons List.any_nil List.contains_cons List.contains_nil List.elem_cons List.elem_nil List.cons_append List.nil_append List.append_nil List.flatMap_cons List.flatMap_nil List.zip_cons_cons List.zip_nil_left List.zip_nil_right List.take_succ_cons List.take_zero List.take_nil List.drop_succ_cons List.drop_zero List.drop_nil List.isEmpty_nil List.isEmpty_cons Bool.and_true Bool.true_and Bool.or_true Bool.true_or Bool.or_false Bool.false_or Bool.not_true Bool.not_false Nat.add_zero Nat.zero_add Option.isNone_none Option.isNone_some Option.getD_none true_and and_true not_true_eq_false not_false_eq_true decide_true decide_false Nat.le_refl and_self Bool.not_eq_true Nat.sub_self or_true true_or Option.some.injEq List.length_map List.nil_eq and_false false_and AV.live CV.live CV.liveIn dU bg Option.orElse_some Option.orElse_none head bm bh Int.lt_irrefl List.length_append ite_self dZ cA dc bC Key.clash Key.sees Key.writes Nat.lt_irrefl gt_iff_lt cH dH false_or or_false beq_self_eq_true Bool.true_beq Bool.false_beq
abbrev jl (k:Int) (t:Tok) (l:List Val):List CV:=[.pv (.int .i64 k),.pv (.int .i64 t.kind),.pv (.str t.text),.pv (.int .i64 t.n),.pv (.sl (encL l))]
attribute [local go_sem] dp cB bG cu aZ dA dz aL bX eG bq dJ CW Fk Fx Cu Dt
theorem gV (k:Int) (t:Tok) (l:List Val):den K 66 [.agg (jl k t l)] []=some (.ret (B (Sl.ay (.mk k t l))) []):=by
 refine ah rfl rfl Tryz.func66 rfl Tryz.ntmps66 ⟨by simp,by simp[LK]⟩ ?_
 have hr:Tryz.f66.results=#[.tmp 2]:=rfl
 have hs:Sl.ay (.mk k t l)=((k==1)&&(t.kind==8)):=rfl
 rw[hs];cases e1:(k==1)
 ·simp only[go_sem,reduceLT,reduceEqDiff,Nat.reduceBEq,reduceAdd,reduceSub,reduceLeDiff,hr,e1]
 ·simp only[go_sem,reduceLT,reduceEqDiff,Nat.reduceBEq,reduceAdd,reduceSub,reduceLeDiff,hr,e1]
theorem gQ (k:Int) (t:Tok) (l:List Val) (s:List UInt8):den K 57 [.agg (jl k t l),T s] []=some (.ret (B (Sl.aW s (.mk k t l))) []):=by
 refine ah rfl rfl Tryz.func57 rfl Tryz.ntmps57 ⟨by simp,by simp[LK]⟩ ?_
 have hr:Tryz.f57.results=#[.tmp 4]:=rfl
 have hv:decide (t=⟨7,s,0⟩)=((t.kind==7)&&((t.text==s)&&((t.n==0)&&true))):=(nA t ⟨7,s,0⟩).symm
 have hs:Sl.aW s (.mk k t l)=((k==1)&&((t.kind==7)&&((t.text==s)&&((t.n==0)&&true)))):=by rw[←hv];rfl
 rw[hs];cases e1:(k==1)
 ·simp only[go_sem,reduceLT,reduceEqDiff,Nat.reduceBEq,reduceAdd,reduceSub,reduceLeDiff,hr,e1]
 ·cases e2:(t.kind==7)
  ·simp only[go_sem,reduceLT,reduceEqDiff,Nat.reduceBEq,reduceAdd,reduceSub,reduceLeDiff,hr,e1,e2]
  ·cases e3:(t.text==s)
   ·simp only[go_sem,reduceLT,reduceEqDiff,Nat.reduceBEq,reduceAdd,reduceSub,reduceLeDiff,hr,e1,e2,e3]
   ·simp only[go_sem,reduceLT,reduceEqDiff,Nat.reduceBEq,reduceAdd,reduceSub,reduceLeDiff,hr,e1,e2,e3]
abbrev mc (l:List Val) (i j:Nat):St :=
  { sl:=upd (upd (upd bot 4 (I j)) 3 (I i)) 0 (L (encL l)),bx:=nobox,nt:=38 }
noncomputable def tlp2:Code:=.loop (ap Tryz.f34 2)
noncomputable def tlp4:Code:=.loop (ap Tryz.f34 4)
theorem E1 (l:List Val) (i:Nat) (hl:l.length≤100000000) (v:Val) (hi:l[i]? = some v) (hb:Sl.ay v=true) :
  exL K 34 tlp2 (mc l i l.length)=exL K 34 tlp2 (mc l (i+1) l.length):=by
 obtain⟨k,t,c⟩:=v;have hil:i<l.length:=(List.getElem?_eq_some_iff.1 hi).1
 have hlt:decide ((i:Int)<(l.length:Int))=true:=decide_eq_true (by omega)
 have hget:=fJ l i k t c hi
 have hw:IntKind.i64.wrap ((i:Int)+1)=((i+1:Nat):Int):=bf i (by omega)
 have hd:=gV k t c
 rw[hb] at hd;unfold tlp2
 conv in ap _ _=>whnf
 conv in ap _ _=>whnf
 conv in exL _ _ _ (mc l i l.length)=>rw[aq]
 simp only[go_sem,reduceLT,reduceCtorEq,reduceEqDiff,Nat.reduceBEq,reduceAdd,ag ak,hlt,hget,Int.natCast_nonneg,hw,hd];rw[au];simp only[go_sem,reduceCtorEq,reduceEqDiff]
theorem H8 (l:List Val) (i:Nat) (hl:l.length≤100000000) (v:Val) (hi:l[i]? = some v) (hb:Sl.ay v=false) :
  Ends (exL K 34 tlp2 (mc l i l.length)) fun o S=>o=.exit 0∧S.nt=38∧S.sl 0=L (encL l)∧S.sl 3=I i∧S.sl 4=I l.length:=by
 obtain⟨k,t,c⟩:=v;have hil:i<l.length:=(List.getElem?_eq_some_iff.1 hi).1
 have hlt:decide ((i:Int)<(l.length:Int))=true:=decide_eq_true (by omega)
 have hget:=fJ l i k t c hi
 have hd:=gV k t c
 rw[hb] at hd;unfold tlp2
 conv in ap _ _=>whnf
 rw[aq];simp only[go_sem,reduceLT,reduceCtorEq,reduceEqDiff,Nat.reduceBEq,reduceAdd,ag ak,hlt,hget,Int.natCast_nonneg,hd,ar]
theorem Df (l:List Val):Ends (exL K 34 tlp2 (mc l l.length l.length)) fun o S=>o=.exit 0∧S.nt=38∧S.sl 0=L (encL l)∧S.sl 3=I l.length∧S.sl 4=I l.length:=by
 unfold tlp2
 conv in ap _ _=>whnf
 rw[aq];simp only[go_sem,reduceLT,reduceCtorEq,reduceEqDiff,Nat.reduceBEq,reduceAdd,ar]
theorem tK (l:List Val) (hl:l.length≤100000000):∀ (rest:List Val) (i:Nat),l.drop i=rest→i≤l.length →
  Ends (exL K 34 tlp2 (mc l i l.length)) fun o S=>o=.exit 0∧S.nt=38∧∃ j:Nat,j≤l.length∧l.drop j=rest.dropWhile Sl.ay∧S.sl 0=L (encL l)∧S.sl 3=I j∧S.sl 4=I l.length
 | [],i,hd,hi=>by
  have hin:i=l.length:=by
   have:=List.drop_eq_nil_iff.1 hd
   omega
  subst hin;refine bu (Df l) fun o S q=>⟨q.1,q.2.1,l.length,Nat.le_refl _,?_,q.2.2⟩
  simp
 | v::rest,i,hd,hi=>by
  obtain⟨g1,g2,g3⟩:=bE hd;cases hb:Sl.ay v with
  | true =>
   rw[E1 l i hl v g1 hb,List.dropWhile_cons,if_pos hb];exact tK l hl rest (i+1) g2 (by omega)
  | false =>
   refine bu (H8 l i hl v g1 hb) fun o S q=>⟨q.1,q.2.1,i,hi,?_,q.2.2⟩
   rw[hd,List.dropWhile_cons,if_neg (by rw[hb];simp)]
theorem Eg (l:List Val) (i j:Nat) (hl:l.length≤100000000) (hij:i≤j) (v:Val) (hi:l[j]? = some v) (hb:Sl.ay v=true) :
  exL K 34 tlp4 (mc l i (j+1))=exL K 34 tlp4 (mc l i j):=by
 obtain⟨k,t,c⟩:=v;have hil:j<l.length:=(List.getElem?_eq_some_iff.1 hi).1
 have hlt:decide ((i:Int)<((j+1:Nat):Int))=true:=decide_eq_true (by omega)
 have hget:=fJ l j k t c hi
 have hw:IntKind.i64.wrap (((j+1:Nat):Int) - 1)=(j:Int):=by rw[IntWalk.i64_in _ (by omega)];omega
 have hd:=gV k t c
 rw[hb] at hd;unfold tlp4
 conv in ap _ _=>whnf
 conv in ap _ _=>whnf
 conv in exL _ _ _ (mc l i (j+1))=>rw[aq]
 simp only[go_sem,reduceLT,reduceCtorEq,reduceEqDiff,Nat.reduceBEq,reduceAdd,ag ak,hlt,hget,Int.natCast_nonneg,hw,hd];rw[au];simp only[go_sem,reduceCtorEq,reduceEqDiff]
theorem Gf (l:List Val) (i j:Nat) (hl:l.length≤100000000) (hij:i≤j) (v:Val) (hi:l[j]? = some v) (hb:Sl.ay v=false) :
  Ends (exL K 34 tlp4 (mc l i (j+1))) fun o S=>o=.exit 2∧S.nt=38∧S.sl 0=L (encL l)∧S.sl 3=I i∧S.sl 4=I ((j+1:Nat):Int):=by
 obtain⟨k,t,c⟩:=v;have hil:j<l.length:=(List.getElem?_eq_some_iff.1 hi).1
 have hlt:decide ((i:Int)<((j+1:Nat):Int))=true:=decide_eq_true (by omega)
 have hget:=fJ l j k t c hi
 have hw:IntKind.i64.wrap (((j+1:Nat):Int) - 1)=(j:Int):=by rw[IntWalk.i64_in _ (by omega)];omega
 have hd:=gV k t c
 rw[hb] at hd;unfold tlp4
 conv in ap _ _=>whnf
 rw[aq];simp only[go_sem,reduceLT,reduceCtorEq,reduceEqDiff,Nat.reduceBEq,reduceAdd,ag ak,hlt,hget,Int.natCast_nonneg,hw,hd,ar]
theorem Er (l:List Val) (i:Nat):Ends (exL K 34 tlp4 (mc l i i)) fun o S=>o=.exit 2∧S.nt=38∧S.sl 0=L (encL l)∧S.sl 3=I i∧S.sl 4=I i:=by
 unfold tlp4
 conv in ap _ _=>whnf
 rw[aq];simp only[go_sem,reduceLT,reduceCtorEq,reduceEqDiff,Nat.reduceBEq,reduceAdd,ar]
theorem rQ (l:List Val) (hl:l.length≤100000000) (i:Nat):∀ (m j:Nat),j=i+m→j≤l.length →
  Ends (exL K 34 tlp4 (mc l i j)) fun o S=>o=.exit 2∧S.nt=38∧∃ e:Nat,i≤e∧e≤l.length∧(l.take e).drop i=(((l.take j).drop i).reverse.dropWhile Sl.ay).reverse∧S.sl 0=L (encL l)∧S.sl 3=I i∧S.sl 4=I e
 | 0,j,hj,hjl=>by
  obtain rfl:j=i:=by omega
  refine bu (Er l j) fun o S q=>⟨q.1,q.2.1,j,Nat.le_refl _,hjl,?_,q.2.2⟩
  have:(l.take j).drop j=[]:=by rw[List.drop_eq_nil_iff,List.length_take];omega
  rw[this];rfl
 | m+1,j,hj,hjl=>by
  obtain rfl:j=(i+m)+1:=by omega
  have hlt:i+m<l.length:=by omega
  have hg:l[i+m]? = some l[i+m]:=List.getElem?_eq_getElem hlt
  have htk:(l.take (i+m+1)).drop i=(l.take (i+m)).drop i++[l[i+m]]:=by
   rw[List.take_add_one,hg,Option.toList_some,List.drop_append_of_le_length (by rw[List.length_take];omega)]
  generalize hv:l[i+m]=v at hg htk;cases hb:Sl.ay v with
  | true =>
   rw[Eg l i (i+m) hl (by omega) v hg hb]
   refine bu (rQ l hl i m (i+m) rfl (by omega)) fun o S q => ?_
   obtain⟨q1,q2,e,q3,q4,q5,q6⟩:=q;refine⟨q1,q2,e,q3,q4,?_,q6⟩
   rw[q5,htk,List.reverse_append,List.reverse_singleton,List.singleton_append,List.dropWhile_cons,if_pos hb]
  | false =>
   refine bu (Gf l i (i+m) hl (by omega) v hg hb) fun o S q=>⟨q.1,q.2.1,i+m+1,by omega,hjl,?_,q.2.2⟩
   rw[htk,List.reverse_append,List.reverse_singleton,List.singleton_append,List.dropWhile_cons,if_neg (by rw[hb];simp),List.reverse_cons,List.reverse_reverse]
theorem H4 (l:List Val) (a b:Nat):((encL l).take a).drop b=encL ((l.take a).drop b):=by
 rw[encL_map,encL_map,List.map_drop,List.map_take]
theorem Sl.trim_len (l:List Val):(Sl.trim l).length≤l.length:=by
 unfold Sl.trim;rw[List.length_reverse];have h1:=(List.dropWhile_sublist Sl.ay (l:=(l.dropWhile Sl.ay).reverse)).length_le
 have h2:=(List.dropWhile_sublist Sl.ay (l:=l)).length_le
 rw[List.length_reverse] at h1;omega
theorem mL (l:List Val) (hl:l.length≤100000000):den K 34 [L (encL l)] []=some (.ret (L (encL (Sl.trim l))) []):=by
 have h2:=tK l hl l 0 rfl (Nat.zero_le _)
 unfold tlp2 at h2
 conv at h2 in ap _ _=>whnf
 obtain⟨o,S,w,rfl,hn,j,hj,hjd,s0,s3,s4⟩:=h2;have h4:=rQ l hl j (l.length - j) l.length (by omega) (Nat.le_refl _)
 unfold tlp4 at h4
 conv at h4 in ap _ _=>whnf
 obtain⟨o',S',w',rfl,hn',e,he1,he2,hed,s0',s3',s4'⟩:=h4;have hres:(l.take e).drop j=Sl.trim l:=by
  rw[hed,List.take_length,hjd];rfl
 have hlen:(Sl.trim l).length<cw:=by
  have:(Sl.trim l).length≤l.length:=by rw[←hres,List.length_drop,List.length_take];omega
  unfold cw;omega
 have hlv:=fu l
 have hlv2:=fu (Sl.trim l)
 have hb1:((0:Int)≤(e:Int)∧(e:Int)≤(l.length:Int))=True:=by rw[eq_iff_iff];simp;omega
 have hb2:((0:Int)≤(j:Int)∧(j:Int)≤(e:Int))=True:=by rw[eq_iff_iff];simp;omega
 refine ah rfl rfl Tryz.func34 rfl Tryz.ntmps34 ⟨by simp,by simp[LK]⟩ ?_
 have hr:Tryz.f34.results=#[.tmp 2]:=rfl
 simp only[go_sem,reduceLT,reduceCtorEq,reduceEqDiff,Nat.reduceBEq,reduceAdd,af ak,az];rw[au];simp only[go_sem,reduceCtorEq,reduceEqDiff];erw [w];simp only[go_sem];rw[au];simp only[go_sem,hn,s0,s3,s4];erw [w'];simp only[go_sem,reduceLT,reduceCtorEq,reduceEqDiff,Nat.reduceBEq,reduceAdd,ao (len:=0) ak bq aF ⟨rfl,by decide,by decide⟩,eU ak bq,bB de,aX ak,hr,hn',s0',s3',s4',az,hb1,hb2,Int.toNat_natCast,H4,hres,hlen,hlv,hlv2,yh]
abbrev encP (l:List (List Val)):List (List PV):=l.map fun p=>[.sl (encL p)]
theorem sP (l:List (List Val)):lens 1 (encP l)=true:=by simp[lens]
theorem vB (x:PV):lens 1 [[x]]=true:=rfl
theorem uE (out:List (List Val)) (p:List Val):encP out++[[.sl (encL p)]]=encP (out++[p]):=by simp[encP]
theorem FP (acc:List Val) (k:Int) (t:Tok) (vs:List Val):encL acc++[[.int .i64 k,.int .i64 t.kind,.str t.text,.int .i64 t.n,.sl (encL vs)]]=encL (acc++[.mk k t vs]):=by
 rw[ke];rfl
abbrev atH (s:List UInt8) (l:List Val) (i e e':Nat) (out:List (List Val)) (part:List Val):St :=
  { sl:=upd (upd (upd (upd (upd bot 7 (I i)) 6 (.c (.own e' (encL part)))) 5 (.c (.own e (encP out)))) 1 (T s)) 0 (L (encL l)),bx:=nobox,nt:=38 }
noncomputable def atlp:Code:=.loop (ap Tryz.f26 4)
theorem Mg (s:List UInt8) (l:List Val) (i e e':Nat) (out:List (List Val)) (part:List Val) (hl:l.length≤100000000) (ho:out.length≤100000000) (he:e=23∨out=[]) (v:Val) (hi:l[i]? = some v) (hb:Sl.aW s v=true) :
  exL K 26 atlp (atH s l i e e' out part)=exL K 26 atlp (atH s l (i+1) 23 93 (out++[part]) []):=by
 obtain⟨k,t,c⟩:=v;have hil:i<l.length:=(List.getElem?_eq_some_iff.1 hi).1
 have hlt:decide ((i:Int)<(l.length:Int))=true:=decide_eq_true (by omega)
 have hget:=fJ l i k t c hi
 have hw:IntKind.i64.wrap ((i:Int)+1)=((i+1:Nat):Int):=bf i (by omega)
 have hd:=gQ k t c s
 rw[hb] at hd;have hown:e=23∨(encP out).isEmpty=true:=by
  rcases he with rfl|rfl
  ·exact .inl rfl
  ·exact .inr rfl
 have hlim:out.length+1<cw:=by unfold cw;omega
 have hlv:=sP out
 have e0:encL []=[]:=rfl
 unfold atlp
 conv in ap _ _=>whnf
 conv in ap _ _=>whnf
 conv in exL _ _ _ (atH s l i e e' out part)=>rw[aq]
 simp only[go_sem,reduceLT,reduceCtorEq,reduceEqDiff,Nat.reduceBEq,reduceAdd,reduceMul,ao (len:=0) ak bq aF ⟨rfl,by decide,by decide⟩,af ak,ag ak,ao (len:=1) cM dP ip ⟨rfl,by decide,by decide⟩,bB kR,aX cM,ao (len:=1) ak bq aF ⟨rfl,by decide,by decide⟩,bB de,aX ak,az,hlt,hget,Int.natCast_nonneg,hw,hd,hown,hlim,hlv,vB,uE]
 rw[au];simp only[go_sem,reduceCtorEq,reduceEqDiff];rfl
theorem MC (s:List UInt8) (l:List Val) (i e e':Nat) (out:List (List Val)) (part:List Val) (hl:l.length≤100000000) (ho:part.length≤100000000) (he:e'=93∨part=[]) (v:Val) (hi:l[i]? = some v) (hb:Sl.aW s v=false) :
  exL K 26 atlp (atH s l i e e' out part)=exL K 26 atlp (atH s l (i+1) e 93 out (part++[v])):=by
 obtain⟨k,t,c⟩:=v;have hil:i<l.length:=(List.getElem?_eq_some_iff.1 hi).1
 have hlt:decide ((i:Int)<(l.length:Int))=true:=decide_eq_true (by omega)
 have hget:=fJ l i k t c hi
 have hw:IntKind.i64.wrap ((i:Int)+1)=((i+1:Nat):Int):=bf i (by omega)
 have hd:=gQ k t c s
 rw[hb] at hd;have hown:e'=93∨(encL part).isEmpty=true:=by
  rcases he with rfl|rfl
  ·exact .inl rfl
  ·exact .inr rfl
 have hlim:part.length+1<cw:=by unfold cw;omega
 have hlv:=fu part
 unfold atlp
 conv in ap _ _=>whnf
 conv in ap _ _=>whnf
 conv in exL _ _ _ (atH s l i e e' out part)=>rw[aq]
 simp only[go_sem,reduceLT,reduceCtorEq,reduceEqDiff,Nat.reduceBEq,reduceAdd,reduceMul,af ak,ag ak,ao (len:=1) cM dP ip ⟨rfl,by decide,by decide⟩,bB kR,aX cM,ao (len:=1) ak bq aF ⟨rfl,by decide,by decide⟩,bB de,aX ak,az,hlt,hget,Int.natCast_nonneg,hw,hd,hown,hlim,hlv,ix,FP]
 rw[au];simp only[go_sem,reduceCtorEq,reduceEqDiff]
theorem Ll (s:List UInt8) (l:List Val) (e e':Nat) (out:List (List Val)) (part:List Val) :
  Ends (exL K 26 atlp (atH s l l.length e e' out part)) fun o S=>o=.exit 0∧S.nt=38∧S.sl 5=.c (.own e (encP out))∧S.sl 6=.c (.own e' (encL part)):=by
 unfold atlp
 conv in ap _ _=>whnf
 rw[aq];simp only[go_sem,reduceLT,reduceCtorEq,reduceEqDiff,Nat.reduceBEq,reduceAdd,af ak,az,ar]
def atF (s:List UInt8) (part:List Val):List Val→List (List Val)
 | []=>[part]
 | v::l=>if Sl.aW s v then part::atF s [] l else atF s (part++[v]) l
theorem BS (s:List UInt8):∀ (l part:List Val), ∃ p ps,Sl.at_ s l=p::ps∧atF s part l=(part++p)::ps
 | [],part=>⟨[],[],rfl,by simp[atF]⟩
 | v::l,part=>by
  rw[Sl.at_,atF];split
  ·obtain⟨p,ps,h1,h2⟩:=BS s l [];exact⟨[],Sl.at_ s l,rfl,by rw[h1,h2];simp⟩
  ·obtain⟨p,ps,h1,h2⟩:=BS s l (part++[v]);rw[h1];exact⟨v::p,ps,rfl,by rw[h2];simp⟩
theorem K2 (s:List UInt8) (l:List Val):atF s [] l=Sl.at_ s l:=by
 obtain⟨p,ps,h1,h2⟩:=BS s l [];rw[h1,h2,List.nil_append]
theorem wQ (s:List UInt8) (l:List Val) (hl:l.length≤100000000):∀ (rest:List Val) (i e e':Nat) (out:List (List Val)) (part:List Val),l.drop i=rest→i≤l.length→out.length≤i→part.length≤i→(e=23∨out=[])→(e'=93∨part=[]) →
  Ends (exL K 26 atlp (atH s l i e e' out part)) fun o S=>o=.exit 0∧S.nt=38∧∃ (f f':Nat) (out':List (List Val)) (part':List Val),S.sl 5=.c (.own f (encP out'))∧S.sl 6=.c (.own f' (encL part'))∧out'++[part']=out++atF s part rest∧out'.length≤l.length∧(f=23∨out'=[])
 | [],i,e,e',out,part,hd,hi,h1,h2,h3,h4=>by
  have hin:i=l.length:=by
   have:=List.drop_eq_nil_iff.1 hd
   omega
  subst hin;refine bu (Ll s l e e' out part) fun o S q=>⟨q.1,q.2.1,e,e',out,part,q.2.2.1,q.2.2.2,rfl,h1,h3⟩
 | v::rest,i,e,e',out,part,hd,hi,h1,h2,h3,h4=>by
  obtain⟨g1,g2,g3⟩:=bE hd;cases hb:Sl.aW s v with
  | true =>
   rw[Mg s l i e e' out part hl (by omega) h3 v g1 hb]
   have:=wQ s l hl rest (i+1) 23 93 (out++[part]) [] g2 (by omega) (by rw[List.length_append,List.length_singleton];omega) (Nat.zero_le _) (.inl rfl) (.inl rfl)
   rw[List.append_assoc,List.singleton_append] at this
   rw[atF,hb,if_pos rfl];exact this
  | false =>
   rw[MC s l i e e' out part hl (by omega) h4 v g1 hb]
   have:=wQ s l hl rest (i+1) e 93 out (part++[v]) g2 (by omega) (by omega) (by rw[List.length_append,List.length_singleton];omega) h3 (.inl rfl)
   rw[atF,hb,if_neg (by simp)]
   exact this
theorem Lf (l:List Val) (s:List UInt8) (hl:l.length≤100000000):den K 26 [L (encL l),T s] []=some (.ret (L (encP (Sl.at_ s l))) []):=by
 have h:=wQ s l hl l 0 23 93 [] [] rfl (Nat.zero_le _) (Nat.le_refl _) (Nat.le_refl _) (.inl rfl) (.inl rfl)
 unfold atlp at h
 conv at h in ap _ _=>whnf
 obtain⟨o,S,w,rfl,hn,f,f',out,part,s5,s6,hp,hlen,hf⟩:=h;rw[List.nil_append,K2] at hp;rw[←hp,←uE];have hown:f=23∨(encP out).isEmpty=true:=by
  rcases hf with rfl|rfl
  ·exact .inl rfl
  ·exact .inr rfl
 have hlim:out.length+1<cw:=by unfold cw;omega
 have hlv:=sP out
 have e0:encL []=[]:=rfl
 refine ah rfl rfl Tryz.func26 rfl Tryz.ntmps26 ⟨by simp,by simp[LK]⟩ ?_
 have hr:Tryz.f26.results=#[.tmp 4]:=rfl
 simp only[go_sem,reduceLT,reduceEqDiff,Nat.reduceBEq,reduceAdd,ao (len:=0) cM dP ip ⟨rfl,by decide,by decide⟩,ao (len:=0) ak bq aF ⟨rfl,by decide,by decide⟩]
 rw[au];simp only[go_sem,reduceCtorEq,reduceEqDiff];erw [w];simp only[go_sem,reduceLT,reduceCtorEq,reduceEqDiff,Nat.reduceBEq,reduceAdd,reduceMul,ao (len:=1) cM dP ip ⟨rfl,by decide,by decide⟩,bB kR,aX cM,hr,hn,s5,s6,hown,hlim,hlv,vB]
attribute [local go_sem] Ii EE Em GD
theorem lq (k:Int) (t:Tok) (l:List Val):den K 123 [.agg (jl k t l)] []=some (.ret (B (Sl.ay (.mk k t l))) []):=by
 refine ah rfl rfl Tryz.func123 rfl Tryz.ntmps123 ⟨by simp,by simp[LK]⟩ ?_
 have hr:Tryz.f123.results=#[.tmp 2]:=rfl
 have hs:Sl.ay (.mk k t l)=((k==1)&&(t.kind==8)):=rfl
 rw[hs];cases e1:(k==1)
 ·simp only[go_sem,reduceLT,reduceEqDiff,Nat.reduceBEq,reduceAdd,reduceSub,reduceLeDiff,hr,e1]
 ·simp only[go_sem,reduceLT,reduceEqDiff,Nat.reduceBEq,reduceAdd,reduceSub,reduceLeDiff,hr,e1]
abbrev trH (l:List Val):St := { sl:=upd bot 0 (L (encL l)),bx:=nobox,nt:=33 }
noncomputable def trlp1:Code:=.loop (ap Tryz.f70 1)
noncomputable def trlp3:Code:=.loop (ap Tryz.f70 3)
theorem tf (k:Int) (t:Tok) (c r:List Val):(encL (.mk k t c::r))[(0:Int).toNat]? = some [.int .i64 k,.int .i64 t.kind,.str t.text,.int .i64 t.n,.sl (encL c)]:=rfl
theorem xh (v:Val) (r:List Val) (n:Nat) (h:n=r.length+1):((encL (v::r)).take n).drop (1:Int).toNat=encL r:=by
 subst h;rw[encL,List.take_of_length_le (by rw[List.length_cons,az];omega)];rfl
theorem le00:((0:Int)≤0)=True:=by simp
theorem Jf (v:Val) (r:List Val) (hl:r.length≤100000000) (hb:Sl.ay v=true) :
  exL K 70 trlp1 (trH (v::r))=exL K 70 trlp1 (trH r):=by
 obtain⟨k,t,c⟩:=v;have hlt:decide ((0:Int)<(((r.length+1:Nat)):Int))=true:=decide_eq_true (by omega)
 have hget:=tf k t c r
 have hcut:=xh (.mk k t c) r (r.length+1) rfl
 have hb1:((0:Int)≤1∧(1:Int)≤((r.length+1:Nat):Int))=True:=by rw[eq_iff_iff];simp;omega
 have hlv:=fu (.mk k t c::r)
 have hd:=lq k t c
 rw[hb] at hd;unfold trlp1
 conv in ap _ _=>whnf
 conv in ap _ _=>whnf
 conv in exL _ _ _ (trH (.mk k t c::r))=>rw[aq]
 simp only[go_sem,reduceLT,reduceCtorEq,reduceEqDiff,Nat.reduceBEq,reduceAdd,af ak,ag ak,eU ak bq,az,List.length_cons,hlt,hget,hd,hb1,hlv,hcut,le00];rw[au];simp only[go_sem,reduceCtorEq]
theorem LR (v:Val) (r:List Val) (hl:r.length≤100000000) (hb:Sl.ay v=false) :
  Ends (exL K 70 trlp1 (trH (v::r))) fun o S=>o=.exit 0∧S.nt=33∧S.sl 0=L (encL (v::r)):=by
 obtain⟨k,t,c⟩:=v;have hlt:decide ((0:Int)<(((r.length+1:Nat)):Int))=true:=decide_eq_true (by omega)
 have hget:=tf k t c r
 have hd:=lq k t c
 rw[hb] at hd;unfold trlp1
 conv in ap _ _=>whnf
 rw[aq];simp only[go_sem,reduceLT,reduceCtorEq,reduceEqDiff,Nat.reduceBEq,reduceAdd,af ak,ag ak,az,List.length_cons,hlt,hget,hd,le00,ar]
theorem Kl:Ends (exL K 70 trlp1 (trH [])) fun o S=>o=.exit 0∧S.nt=33∧S.sl 0=L (encL []):=by
 have hlt:decide ((0:Int)<((0:Nat):Int))=false:=rfl
 unfold trlp1
 conv in ap _ _=>whnf
 rw[aq];simp only[go_sem,reduceLT,reduceCtorEq,reduceEqDiff,Nat.reduceBEq,reduceAdd,af ak,az,List.length_nil,hlt,ar]
theorem zq:∀ (l:List Val),l.length≤100000000→Ends (exL K 70 trlp1 (trH l)) fun o S=>o=.exit 0∧S.nt=33∧S.sl 0=L (encL (l.dropWhile Sl.ay))
 | [],_=>Kl
 | v::r,hl=>by
  rw[List.length_cons] at hl;cases hb:Sl.ay v with
  | true =>
   rw[Jf v r (by omega) hb,List.dropWhile_cons,if_pos hb]
   exact zq r (by omega)
  | false =>
   rw[List.dropWhile_cons,if_neg (by rw[hb];simp)]
   exact LR v r (by omega) hb
theorem yW (m:List Val) (k:Int) (t:Tok) (c:List Val):(encL (m++[.mk k t c]))[((m.length:Nat):Int).toNat]? = some [.int .i64 k,.int .i64 t.kind,.str t.text,.int .i64 t.n,.sl (encL c)]:=by
 exact r5 (m++[.mk k t c]) m.length (.mk k t c) (by simp)
theorem HW (m:List Val) (v:Val):(encL (m++[v])).take m.length=encL m:=by
 rw[ke,List.take_append_of_le_length (by rw[az];exact Nat.le_refl _),List.take_of_length_le (by rw[az];exact Nat.le_refl _)]
theorem Kn (m:List Val) (v:Val) (hl:m.length≤100000000) (hb:Sl.ay v=true) :
  exL K 70 trlp3 (trH (m++[v]))=exL K 70 trlp3 (trH m):=by
 obtain⟨k,t,c⟩:=v;have hn:(encL (m++[.mk k t c])).length=m.length+1:=by rw[az];simp
 have hlt:decide ((0:Int)<(((m.length+1:Nat)):Int))=true:=decide_eq_true (by omega)
 have hw:IntKind.i64.wrap (((m.length+1:Nat):Int) - 1)=(m.length:Int):=by rw[IntWalk.i64_in _ (by omega)];omega
 have hget:=yW m k t c
 have hcut:=HW m (.mk k t c)
 have hb1:((m.length:Int)≤((m.length+1:Nat):Int))=True:=by rw[eq_iff_iff];simp;omega
 have hlv:=fu (m++[.mk k t c])
 have hd:=lq k t c
 rw[hb] at hd;rw[Int.toNat_natCast] at hget;unfold trlp3
 conv in ap _ _=>whnf
 conv in ap _ _=>whnf
 conv in exL _ _ _ (trH (m++[.mk k t c]))=>rw[aq]
 simp only[go_sem,reduceLT,reduceCtorEq,reduceEqDiff,Nat.reduceBEq,reduceAdd,af ak,ag ak,eU ak bq,hn,hlt,hw,Int.natCast_nonneg,Int.toNat_natCast,hget,hd,hb1,hlv,hcut];rw[au];simp only[go_sem,reduceCtorEq]
theorem LM (m:List Val) (v:Val) (hl:m.length≤100000000) (hb:Sl.ay v=false) :
  Ends (exL K 70 trlp3 (trH (m++[v]))) fun o S=>o=.exit 2∧S.nt=33∧S.sl 0=L (encL (m++[v])):=by
 obtain⟨k,t,c⟩:=v;have hn:(encL (m++[.mk k t c])).length=m.length+1:=by rw[az];simp
 have hlt:decide ((0:Int)<(((m.length+1:Nat)):Int))=true:=decide_eq_true (by omega)
 have hw:IntKind.i64.wrap (((m.length+1:Nat):Int) - 1)=(m.length:Int):=by rw[IntWalk.i64_in _ (by omega)];omega
 have hget:=yW m k t c
 have hd:=lq k t c
 rw[hb] at hd;rw[Int.toNat_natCast] at hget;unfold trlp3
 conv in ap _ _=>whnf
 rw[aq];simp only[go_sem,reduceLT,reduceCtorEq,reduceEqDiff,Nat.reduceBEq,reduceAdd,af ak,ag ak,hn,hlt,hw,Int.natCast_nonneg,Int.toNat_natCast,hget,hd,ar]
theorem I6:Ends (exL K 70 trlp3 (trH [])) fun o S=>o=.exit 2∧S.nt=33∧S.sl 0=L (encL []):=by
 have hlt:decide ((0:Int)<((0:Nat):Int))=false:=rfl
 unfold trlp3
 conv in ap _ _=>whnf
 rw[aq];simp only[go_sem,reduceLT,reduceCtorEq,reduceEqDiff,Nat.reduceBEq,reduceAdd,af ak,az,List.length_nil,hlt,ar]
theorem x9:∀ (n:Nat) (l:List Val),l.length=n→l.length≤100000000→Ends (exL K 70 trlp3 (trH l)) fun o S=>o=.exit 2∧S.nt=33∧S.sl 0=L (encL (l.reverse.dropWhile Sl.ay).reverse)
 | 0,l,h,_=>by
  obtain rfl:l=[]:=List.eq_nil_of_length_eq_zero h;exact I6
 | n+1,l,h,hl=>by
  obtain⟨m,v,rfl⟩:∃ m v,l=m++[v]:=⟨l.dropLast,l.getLast (fun e=>by rw[e] at h;simp at h),(List.dropLast_concat_getLast _).symm⟩
  rw[List.length_append,List.length_singleton] at h hl;rw[List.reverse_append,List.reverse_singleton,List.singleton_append];cases hb:Sl.ay v with
  | true =>
   rw[Kn m v (by omega) hb,List.dropWhile_cons,if_pos hb]
   exact x9 n m (by omega) (by omega)
  | false =>
   rw[List.dropWhile_cons,if_neg (by rw[hb];simp),List.reverse_cons,List.reverse_reverse]
   exact LM m v (by omega) hb
theorem DB (l:List Val) (hl:l.length≤1000000000):den K 124 [L (encL l)] []=some (.ret (L (encL l)) []):=by
 refine fB (F:=xe) rfl ?_
 show (if (encL l).length≤1000000000∧(encL l).all (fun el=>el.length==5) then _ else none)=_
 have h2:(encL l).all (fun el=>el.length==5)=true:=fu l
 rw[if_pos ⟨by rw[az];exact hl,h2⟩]
theorem jN (l:List Val) (hl:l.length≤100000000):den K 70 [L (encL l)] []=some (.ret (L (encL (Sl.trim l))) []):=by
 have h1:=zq l hl
 have hlen:=(List.dropWhile_sublist Sl.ay (l:=l)).length_le
 have h3:=x9 _ (l.dropWhile Sl.ay) rfl (by omega)
 unfold trlp1 at h1
 conv at h1 in ap _ _=>whnf
 obtain⟨o,S,w,rfl,hn,s0⟩:=h1;unfold trlp3 at h3
 conv at h3 in ap _ _=>whnf
 obtain⟨o',S',w',rfl,hn',s0'⟩:=h3;have hc:=DB (Sl.trim l) (by have:=Sl.trim_len l;omega)
 have e:(((l.dropWhile Sl.ay).reverse).dropWhile Sl.ay).reverse=Sl.trim l:=rfl
 rw[e] at s0'
 refine ah rfl rfl Tryz.func70 rfl Tryz.ntmps70 ⟨by simp,by simp[LK]⟩ ?_
 have hr:Tryz.f70.results=#[.tmp 2]:=rfl
 simp only[go_sem,reduceLT,Nat.reduceBEq];rw[au];simp only[go_sem,reduceCtorEq];erw [w];simp only[go_sem];rw[au];simp only[go_sem,hn,s0];erw [w'];simp only[go_sem,reduceLT,reduceEqDiff,Nat.reduceBEq,reduceAdd,hr,hn',s0',hc]
theorem EP (s:List UInt8):SR.aW s=Sl.aW s:=by funext v;cases v;rfl
theorem Bu:SR.ay=Sl.ay:=by funext v;cases v;rfl
theorem sh (p:Val→Bool):∀ l:List Val,cutL p l=Sl.cut p l
 | []=>rfl
 | v::l=>by
  rw[cutL,Sl.cut,sh p l]
  all_goals (cases Sl.cut p l<;>rfl)
theorem vQ (s:List UInt8):∀ l:List Val,Sl.cut (Sl.aW s) l=Sl.at_ s l
 | []=>rfl
 | v::l=>by
  rw[Sl.cut,Sl.at_,vQ s l]
  all_goals (cases Sl.at_ s l<;>rfl)
theorem Ku (l:List Val) (s:List UInt8) (hl:Ne.size l≤100000000):den K 45 [L (encL l),T s] []=some (.ret (L (encP (Sl.at_ s l))) []):=by
 refine fB (F:=pAt) rfl ?_
 have hlen:=Ne.bM l
 show (match oP (encL l) with|some vs=>if vs.length≤100000000 then some ((.c (.pv (.sl (uZ (cutL (SR.aW s) vs)))):AV),([]:List (List CV))) else none|none=>none)=_
 rw[yb l (by omega)]
 simp only;rw[if_pos (by omega),EP,sh,vQ]
theorem BN (l:List Val) (hl:Ne.size l≤100000000):den K 206 [L (encL l)] []=some (.ret (L (encP (Sl.words l))) []):=by
 refine fB (F:=wB) rfl ?_
 have hlen:=Ne.bM l
 show (match oP (encL l) with|some vs=>if vs.length≤100000000 then some ((.c (.pv (.sl (uZ (full (cutL SR.ay vs))))):AV),([]:List (List CV))) else none|none=>none)=_
 rw[yb l (by omega)]
 simp only;rw[if_pos (by omega),Bu,sh];rfl
end Go.Abs
namespace Go.Abs
open Go Go.Proofs
theorem x7 (c:UInt8):lowB c=Sl.low1 c:=by
 have e1:(65:UInt8)≤c↔65≤c.toNat:=UInt8.le_iff_toNat_le
 have e2:c≤(90:UInt8)↔c.toNat≤90:=UInt8.le_iff_toNat_le
 unfold lowB Sl.low1;by_cases h:65≤c.toNat∧c.toNat≤90
 ·rw[if_pos h,if_pos ⟨e1.2 h.1,e2.2 h.2⟩]
 ·rw[if_neg h,if_neg (fun k=>h ⟨e1.1 k.1,e2.1 k.2⟩)]
theorem Co (s:List UInt8) (h:s.length<1000000000):den K 142 [T s] []=some (.ret (T (Sl.low s)) []):=by
 have e:Sl.low s=s.map lowB:=by unfold Sl.low;exact List.map_congr_left fun c _=>(x7 c).symm
 rw[e];exact fB (F:=pLow) rfl (by unfold pLow;simp only;rw[if_pos (by unfold ci;omega)])
end Go.Abs
namespace Go.Abs
open Go Go.Proofs
set_option maxRecDepth 10000
attribute [local go_sem] c7 bF cD bW bZ db cJ cE a7 ck ce cF c8 bS opd avOf cvOf St.degAt St.put okPV d6 okAV du dv dt cU aM if_true Bool.false_eq_true if_false Option.map_some Option.map_none Option.bind_some Option.bind_none dY dV upd List.toList_toArray cR steal bz mvB dE cV cT AV.deg CV.deg AV.gv AV.isIter cN cI bU List.length_nil List.length_cons List.filterMap_cons List.filterMap_nil beq_iff_eq List.getElem?_cons_zero List.getElem?_cons_succ Option.getD_some d8 eV Bool.false_and Bool.and_false Bool.and_self K_P fq co cO bw lend back idx dedup AV.ren CV.ren TV.ren AV.ptrs CV.ptrs cX AV.flat CV.flat cz cg bc c9 dk eo cj aY cm bt bH cf br eF CV.pv? content bA ownT bd reps pvs chunks cd leave eB cK dr bT bv TV.deg TV.av LK CV.plain CV.noBld c5 eA bound List.map_cons List.map_nil List.all_cons List.all_nil List.any_cons List.any_nil List.contains_cons List.contains_nil List.elem_cons List.elem_nil List.cons_append List.nil_append List.append_nil List.flatMap_cons List.flatMap_nil List.zip_cons_cons List.zip_nil_left List.zip_nil_right List.take_succ_cons List.take_zero List.take_nil List.drop_succ_cons List.drop_zero List.drop_nil List.isEmpty_nil List.isEmpty_cons Bool.and_true Bool.true_and Bool.or_true Bool.true_or Bool.or_false Bool.false_or Bool.not_true Bool.not_false Nat.add_zero Nat.zero_add Option.isNone_none Option.isNone_some Option.getD_none true_and and_true not_true_eq_false not_false_eq_true decide_true decide_false Nat.le_refl and_self Bool.not_eq_true Nat.sub_self or_true true_or Option.some.injEq List.length_map List.nil_eq and_false false_and AV.live CV.live CV.liveIn dU bg Option.orElse_some Option.orElse_none head bm bh Int.lt_irrefl List.length_append ite_self dZ cA dc bC Key.clash Key.sees Key.writes Nat.lt_irrefl gt_iff_lt cH dH false_or or_false beq_self_eq_true Bool.true_beq Bool.false_beq Gw tF Br
abbrev U (c:UInt8):AV:=.c (.pv (.int .u8 c.toNat))
theorem HL (c:UInt8):Tk.digit c=(decide ((48:Int)≤(c.toNat:Int))&&decide ((c.toNat:Int)≤57)):=by
 unfold Tk.digit;rw[←Bool.decide_and];exact decide_eq_decide.2 (by omega)
theorem Dr (c:UInt8):Tk.begins c=((decide ((97:Int)≤(c.toNat:Int))&&decide ((c.toNat:Int)≤122))||(decide ((65:Int)≤(c.toNat:Int))&&decide ((c.toNat:Int)≤90))||((c.toNat:Int)==95)||decide ((128:Int)≤(c.toNat:Int))):=by
 have e:((c.toNat:Int)==95)=decide ((c.toNat:Int)=95):=by
  by_cases h:(c.toNat:Int)=95<;>simp[h]
 rw[e];unfold Tk.begins;rw[←Bool.decide_and,←Bool.decide_and,←Bool.decide_or,←Bool.decide_or,←Bool.decide_or];exact decide_eq_decide.2 (by omega)
theorem eY (c d:UInt8):((c.toNat:Int)==(d.toNat:Int))=(c==d):=by
 by_cases e:c=d
 ·subst e;simp
 ·have:c.toNat≠d.toNat:=fun h2=>e (UInt8.toNat_inj.1 h2)
  rw[beq_eq_false_iff_ne.2 e,beq_eq_false_iff_ne.2 (by omega)]
theorem nh (c:UInt8):den K 185 [U c] []=some (.ret (B (Tk.digit c)) []):=by
 refine ah rfl rfl Tryz.func185 rfl Tryz.ntmps185 ⟨by simp,by simp[LK]⟩ ?_
 have hr:Tryz.f185.results=#[.tmp 2]:=rfl
 rw[HL];cases b1:decide ((48:Int)≤(c.toNat:Int))<;>cases b2:decide ((c.toNat:Int)≤57)<;>simp only[go_sem,reduceLT,reduceCtorEq,reduceEqDiff,Nat.reduceBEq,reduceAdd,hr,b1,b2]
theorem od (c:UInt8):den K 209 [U c] []=some (.ret (B (Tk.begins c)) []):=by
 refine ah rfl rfl Tryz.func209 rfl Tryz.ntmps209 ⟨by simp,by simp[LK]⟩ ?_
 have hr:Tryz.f209.results=#[.tmp 2]:=rfl
 rw[Dr];cases b1:decide ((97:Int)≤(c.toNat:Int))<;>cases b2:decide ((c.toNat:Int)≤122)<;>cases b3:decide ((65:Int)≤(c.toNat:Int))<;>cases b4:decide ((c.toNat:Int)≤90)<;>cases b5:((c.toNat:Int)==95)<;>cases b6:decide ((128:Int)≤(c.toNat:Int))<;>simp only[go_sem,reduceLT,reduceCtorEq,reduceEqDiff,Nat.reduceBEq,reduceAdd,hr,b1,b2,b3,b4,b5,b6]
theorem sG (c:UInt8):den K 184 [U c] []=some (.ret (B (Tk.within c)) []):=by
 have d1:=od c
 have d2:=nh c
 have e45:((c.toNat:Int)==45)=(c==45):=eY c 45
 refine ah rfl rfl Tryz.func184 rfl Tryz.ntmps184 ⟨by simp,by simp[LK]⟩ ?_
 have hr:Tryz.f184.results=#[.tmp 2]:=rfl
 unfold Tk.within;cases b1:Tk.begins c<;>cases b2:Tk.digit c<;>cases b3:(c==45)<;>rw[b1] at d1<;>rw[b2] at d2<;>rw[b3] at e45<;>simp only[go_sem,reduceLT,reduceCtorEq,reduceEqDiff,Nat.reduceBEq,reduceAdd,hr,d1,d2,e45]
theorem yN (s:List UInt8) (i:Nat):(s[i]? = none∧Tk.at0 (s.drop i)=0∧s.length≤i)∨(i<s.length∧s[i]? = some (Tk.at0 (s.drop i))):=by
 by_cases h:i<s.length
 ·right
  refine⟨h,?_⟩
  rw[List.drop_eq_getElem_cons h,Tk.mA,List.getElem?_eq_getElem h]
 ·left
  refine⟨List.getElem?_eq_none (by omega),?_,by omega⟩
  rw[List.drop_eq_nil_of_le (by omega)];rfl
theorem oa (s:List UInt8) (i:Nat) (hs:s.length<1000000000000):den K 175 [T s,I i] []=some (.ret (U (Tk.at0 (s.drop i))) []):=by
 refine ah rfl rfl Tryz.func175 rfl Tryz.ntmps175 ⟨by simp,by simp[LK]⟩ ?_
 have hr:Tryz.f175.results=#[.tmp 4]:=rfl
 rcases yN s i with⟨h1,h2,h3⟩|⟨h1,h2⟩
 ·have hlt:decide ((i:Int)<(s.length:Int))=false:=decide_eq_false (by omega)
  rw[h2];simp only[go_sem,reduceLT,reduceCtorEq,reduceEqDiff,Nat.reduceBEq,reduceAdd,aA aD,a8 aD,hr,hlt];rfl
 ·have hlt:decide ((i:Int)<(s.length:Int))=true:=decide_eq_true (by omega)
  simp only[go_sem,reduceLT,reduceCtorEq,reduceEqDiff,Nat.reduceBEq,reduceAdd,aA aD,a8 aD,hr,hlt,Int.natCast_nonneg,Int.toNat_natCast,h2]
abbrev FN (f:Nat):AV:=.c (.fn f [])
abbrev runH (s:List UInt8) (from_:Nat) (f n:Nat):St := { sl:=upd (upd (upd (upd bot 7 (I n)) 2 (FN f)) 1 (I from_)) 0 (T s),bx:=upd nobox 100000 none,nt:=26 }
theorem F1 (s:List UInt8) (hs:s.length<1000000000000) (p:UInt8→Bool) (f:Nat) (hg:K.good f=true) (hown:K.ownRet f=false) (hf:∀ c,den K f [U c] []=some (.ret (B (p c)) [])) (from_:Nat):∀ (rest:List UInt8) (n:Nat),s.drop (from_+n)=rest→from_+n≤s.length →
  Ends (exL K 182 (.loop (ap Tryz.f182 2)) (runH s from_ f n)) fun o S=>o=.exit 0∧S.sl 7=I (n+Tk.run p rest:Nat)∧S.nt=26:=by
 intro rest
 induction rest with
 | nil =>
  intro n hd hn;have hin:from_+n=s.length:=by
   have:=List.drop_eq_nil_iff.1 hd
   omega
  have w1:IntKind.i64.wrap ((from_:Int)+(n:Int))=((from_+n:Nat):Int):=by rw[IntWalk.i64_in _ (by omega)];rfl
  have hlt:decide (((from_+n:Nat):Int)<(s.length:Int))=false:=decide_eq_false (by omega)
  conv in ap _ _=>whnf
  rw[aq];simp only[go_sem,reduceLT,reduceCtorEq,reduceEqDiff,Nat.reduceBEq,reduceAdd,aA aD,ar,w1,hlt,Tk.rj]
 | cons c rest ih =>
  intro n hd hn;obtain⟨g1,g2,g3⟩:=bE hd;have w1:IntKind.i64.wrap ((from_:Int)+(n:Int))=((from_+n:Nat):Int):=by rw[IntWalk.i64_in _ (by omega)];rfl
  have hlt:decide (((from_+n:Nat):Int)<(s.length:Int))=true:=decide_eq_true (by omega)
  have hc:=hf c
  have ih':=ih (n+1) g2 (by omega)
  conv at ih' in ap _ _=>whnf
  conv in ap _ _=>whnf
  rw[aq];cases hp:p c
  ·rw[hp] at hc;have hv:Tk.run p (c::rest)=0:=by rw[Tk.run,if_neg (by simp[hp])]
   simp only[go_sem,reduceLT,reduceCtorEq,reduceEqDiff,Nat.reduceBEq,reduceAdd,aA aD,a8 aD,ar,w1,hlt,hg,hown,hc,Int.natCast_nonneg,Int.toNat_natCast,g1,hv]
  ·rw[hp] at hc;have hv:n+1+Tk.run p rest=n+Tk.run p (c::rest):=by rw[Tk.run,if_pos hp];omega
   rw[hv] at ih';simp only[go_sem,reduceLT,reduceCtorEq,reduceEqDiff,Nat.reduceBEq,reduceAdd,aA aD,a8 aD,w1,hlt,hg,hown,hc,Int.natCast_nonneg,Int.toNat_natCast,g1,bf n (by omega)]
   rw[au];simp only[go_sem,reduceCtorEq,reduceEqDiff];exact ih'
theorem rz (s:List UInt8) (hs:s.length<1000000000000) (p:UInt8→Bool) (f:Nat) (hg:K.good f=true) (hown:K.ownRet f=false) (hf:∀ c,den K f [U c] []=some (.ret (B (p c)) [])) (from_:Nat) (h:from_≤s.length):den K 182 [T s,I from_,FN f] []=some (.ret (I (Tk.run p (s.drop from_):Nat)) []):=by
 refine ah rfl rfl Tryz.func182 rfl Tryz.ntmps182 ⟨by simp,by simp[LK]⟩ ?_
 have hr:Tryz.f182.results=#[.tmp 6]:=rfl
 have hnext:=F1 s hs p f hg hown hf from_ (s.drop from_) 0 rfl (by omega)
 conv at hnext in ap _ _=>whnf
 obtain⟨o,S',e,rfl,h7,hn⟩:=hnext;rw[Nat.zero_add] at h7;simp only[go_sem,reduceLT,Nat.reduceBEq];rw[au];simp only[go_sem,reduceCtorEq,reduceEqDiff];erw [e];simp only[go_sem,reduceLT,reduceEqDiff,Nat.reduceBEq,reduceAdd,hr,h7,hn]
attribute [local go_sem] rV rI fy jj ib kL eZ dX yx
theorem rX (s:List UInt8) (hs:s.length<4000000000) (i:Nat) (h:i≤s.length):den K 176 [T s,I i] []=some (.ret (I (Tk.name (s.drop i):Nat)) []):=by
 have d1:=oa s i (by omega)
 have d2:=oa s (i+1) (by omega)
 have ht:(s.drop i).tail=s.drop (i+1):=List.tail_drop
 have hrun:=rz s (by omega) Tk.within 184 zN rfl sG i h
 unfold Tk.name Tk.gy;rw[ht];generalize Tk.at0 (s.drop i)=c at d1
 generalize Tk.at0 (s.drop (i+1))=d at d2
 have b1:=od c
 have b2:=od d
 have e1:((c.toNat:Int)==45)=(c==45):=eY c 45
 have e2:((d.toNat:Int)==45)=(d==45):=eY d 45
 refine ah rfl rfl Tryz.func176 rfl Tryz.ntmps176 ⟨by simp,by simp[LK]⟩ ?_
 have hr:Tryz.f176.results=#[.tmp 4]:=rfl
 cases h1:Tk.begins c
 ·rw[h1] at b1
  cases h2:(c==45)
  ·rw[h2] at e1
   simp only[go_sem,reduceLT,reduceCtorEq,reduceEqDiff,Nat.reduceBEq,reduceAdd,hr,d1,d2,b1,e1,bf i (by omega)]
   rfl
  ·rw[h2] at e1
   cases h3:Tk.begins d
   ·rw[h3] at b2
    cases h4:(d==45)
    ·rw[h4] at e2
     simp only[go_sem,reduceLT,reduceCtorEq,reduceEqDiff,Nat.reduceBEq,reduceAdd,hr,d1,d2,b1,b2,e1,e2,bf i (by omega)]
     rfl
    ·rw[h4] at e2
     simp only[go_sem,reduceLT,reduceCtorEq,reduceEqDiff,Nat.reduceBEq,reduceAdd,hr,d1,d2,b1,b2,e1,e2,hrun,bf i (by omega)]
   ·rw[h3] at b2
    simp only[go_sem,reduceLT,reduceCtorEq,reduceEqDiff,Nat.reduceBEq,reduceAdd,hr,d1,d2,b1,b2,e1,hrun,bf i (by omega)]
 ·rw[h1] at b1
  simp only[go_sem,reduceLT,reduceCtorEq,reduceEqDiff,Nat.reduceBEq,reduceAdd,hr,d1,d2,b1,hrun,bf i (by omega)]
inductive TS where
 | nils
 | live
 | wr (l:List Tok)
def TS.toks:TS→List Tok
 | .wr l=>l
 | _=>[]
def TS.cell:TS→CV
 | .nils=>.nils
 | .live=>.own 0 []
 | .wr l=>.own 91 (l.map Tok.enc)
abbrev scan (s:List UInt8) (x:TS):List CV:=[.pv (.str s),x.cell]
theorem xC (a b c:PV):lens 3 [[a,b,c]]=true:=rfl
theorem jS (l:List Tok):lens 3 (l.map Tok.enc)=true:=by simp[lens,Tok.enc]
theorem rR (s:List UInt8) (x:TS) (n:Nat) (h:n≤s.length):den K 210 [P0,I n] [scan s x]=some (.ret (.tup []) [scan (s.drop n) x]):=by
 refine ah rfl rfl Tryz.func210 rfl Tryz.ntmps210 ⟨by simp,by simp[LK]⟩ ?_
 have hr:Tryz.f210.results=#[]:=rfl
 have hb:((0:Int)≤(n:Int)∧(n:Int)≤(s.length:Int))=True:=eq_true (by omega)
 have hd:(s.take s.length).drop n=s.drop n:=by rw[List.take_length]
 cases x<;>simp only[TS.cell,scan,go_sem,reduceLT,reduceCtorEq,reduceEqDiff,Nat.reduceBEq,reduceAdd,reduceLeDiff,ax aD,hr,hb,Int.toNat_natCast,hd]
theorem Cn (s:List UInt8) (x:TS) (n:Nat) (kind:Int) (text:List UInt8) (v:Int) (h:n≤s.length) (hx:x.toks.length<4000000000) :
  den K 181 [P0,I n,I kind,T text,I v] [scan s x]=some (.ret (.tup []) [scan (s.drop n) (.wr (x.toks++[⟨kind,text,v⟩]))]):=by
 refine ah rfl rfl Tryz.func181 rfl Tryz.ntmps181 ⟨by simp,by simp[LK]⟩ ?_
 have hr:Tryz.f181.results=#[]:=rfl
 have hsk:=rR s (.wr (x.toks++[⟨kind,text,v⟩])) n h
 have hl:x.toks.length+1<cw:=by simp[cw];omega
 cases x<;>simp only[TS.cell,TS.toks,scan,List.map_append,List.map_cons,List.map_nil,Tok.enc,List.nil_append,List.length_nil] at hsk hl ⊢ <;>
  simp only[go_sem,reduceLT,reduceCtorEq,reduceEqDiff,Nat.reduceBEq,reduceAdd,reduceLeDiff,reduceMul,ab ai am,ao (len:=1) aE aZ ai ⟨rfl,by decide,by decide⟩,bB kS,aX aE,hr,hsk,hl,yh,xC,jS]
end Go.Abs
namespace Go.Abs
open Go
inductive Clo (g:Nat):CV→List AV→Option (List CV)→List (List CV)→Prop
 | no:Clo g (.fn g []) [] none []
 | one (cs:List PV):Clo g (.fn g [(100000,0)]) [P0] (some (cs.map CV.pv)) [cs.map CV.pv]
theorem jK {α:Type}:(#[]:Array α).isEmpty=true:=rfl
theorem oT (f:Nat→Option Nat) (cs:List PV):(cs.map CV.pv).map (CV.ren f)=cs.map CV.pv:=by
 rw[List.map_map];exact List.map_congr_left fun _ _=>rfl
theorem lm (bs:List Nat) (cs:List PV):(cs.map CV.pv).map (CV.live bs)=cs.map CV.pv:=by
 rw[List.map_map];exact List.map_congr_left fun _ _=>rfl
def encT (l:List (List UInt8)):List (List PV):=l.map fun s=>[.str s]
theorem xj (l:List (List UInt8)):(encT l).length=l.length:=List.length_map ..
theorem Md (l:List (List UInt8)) (i:Nat) (x:List UInt8) (h:l[i]? = some x):(encT l)[(i:Int).toNat]? = some [.str x]:=by
 rw[Int.toNat_natCast,encT,List.getElem?_map,h];rfl
def ixI (o:Option Nat):Int:=match o with|some j=>j|none => -1
theorem H7 {α:Type} {p:α→Bool} {l:List α}:decide (0≤ixI (l.findIdx? p))=l.any p:=by
 cases h:l.findIdx? p with
 | none =>
  rw[List.findIdx?_eq_none_iff] at h
  have:l.any p=false:=by
   rw[List.any_eq_false];intro x hx;rw[h x hx];simp
  rw[this];decide
 | some j =>
  obtain⟨hj,hp,_⟩:=List.findIdx?_eq_some_iff_getElem.1 h
  have:l.any p=true:=by
   rw[List.any_eq_true];exact⟨_,List.getElem_mem hj,hp⟩
  rw[this]
  show decide ((0:Int)≤(j:Int))=true
  exact decide_eq_true (by omega)
end Go.Abs
namespace Go.Abs
open Go Go.Proofs
set_option maxRecDepth 10000
attribute [local go_sem] c7 bF cD bW bZ db cJ cE a7 ck ce cF c8 bS opd avOf cvOf St.degAt St.put okPV d6 okAV du dv dt cU aM if_true Bool.false_eq_true if_false Option.map_some Option.map_none Option.bind_some Option.bind_none dY dV upd List.toList_toArray cR steal bz mvB dE cV cT AV.deg CV.deg AV.gv AV.isIter cN cI bU List.length_nil List.length_cons List.filterMap_cons List.filterMap_nil beq_iff_eq List.getElem?_cons_zero List.getElem?_cons_succ Option.getD_some d8 eV Bool.false_and Bool.and_false Bool.and_self K_P fq co cO bw lend back idx dedup AV.ren CV.ren TV.ren AV.ptrs CV.ptrs cX AV.flat CV.flat cz cg bc c9 dk eo cj aY cm bt bH cf br eF CV.pv? content bA ownT bd reps pvs chunks cd leave eB cK dr bT bv TV.deg TV.av LK CV.plain CV.noBld c5 eA bound List.map_cons List.map_nil List.all_cons List.all_nil List.any_cons List.any_nil List.contains_cons List.contains_nil List.elem_cons List.elem_nil List.cons_append List.nil_append List.append_nil List.flatMap_cons List.flatMap_nil List.zip_cons_cons List.zip_nil_left List.zip_nil_right List.take_succ_cons List.take_zero List.take_nil List.drop_succ_cons List.drop_zero List.drop_nil List.isEmpty_nil List.isEmpty_cons Bool.and_true Bool.true_and Bool.or_true Bool.true_or Bool.or_false Bool.false_or Bool.not_true Bool.not_false Nat.add_zero Nat.zero_add Option.isNone_none Option.isNone_some Option.getD_none true_and and_true not_true_eq_false not_false_eq_true decide_true decide_false Nat.le_refl and_self Bool.not_eq_true Nat.sub_self or_true true_or Option.some.injEq List.length_map List.nil_eq and_false false_and AV.live CV.live CV.liveIn dU bg Option.orElse_some Option.orElse_none head bm bh Int.lt_irrefl List.length_append ite_self dZ cA dc bC Key.clash Key.sees Key.writes Nat.lt_irrefl gt_iff_lt cH dH false_or or_false beq_self_eq_true Bool.true_beq Bool.false_beq
mutual
def Sim.enc:Sim→List PV
 | .mk k n v a b l=>[.int .i64 k,.str n,.str v,.int .i64 a,.int .i64 b,.sl (Sim.encL l)]
def Sim.encL:List Sim→List (List PV)
 | []=>[]
 | x::l=>x.enc::Sim.encL l
end
theorem Sim.encL_map (l:List Sim):Sim.encL l=l.map Sim.enc:=by
 induction l with
 | nil=>rfl
 | cons x l ih=>simp only[Sim.encL,List.map_cons,ih]
theorem Sim.enc_mk (k:Int) (n v:List UInt8) (a b:Int) (l:List Sim):(Sim.mk k n v a b l).enc=[.int .i64 k,.str n,.str v,.int .i64 a,.int .i64 b,.sl (l.map Sim.enc)]:=by
 rw[Sim.enc,Sim.encL_map]
inductive Sim.Ok:Sim→Prop
 | mk {k:Int} {n v:List UInt8} {a b:Int} {l:List Sim} (ha:I64 a) (hb:I64 b) (hn:n.length≤reachBytes) (hv:v.length≤reachBytes) (hll:l.length≤reachBytes) (hl:∀ x∈l,x.Ok):(Sim.mk k n v a b l).Ok
end Go.Abs
namespace Go.Abs
open Go Go.Proofs
theorem H1 (s:List UInt8) (l:List Val):∀ q∈Sl.at_ s l,Ne.size q≤Ne.size l:=by
 rw[←vQ];exact nk _ l
theorem EJ (s:List UInt8) (l:List Val):(Sl.at_ s l).length≤l.length+1:=by
 rw[←vQ];exact Sl.n9 _ l
end Go.Abs
namespace Go.Abs
open Go Go.Proofs
def kq (P:Program) (t:TypeId):Option (List (TypeId×Nat×Nat)) :=
 match P.underlying t with
 | some (.struct fs)=>some (fs.toList.map fun f=>(f.type,f.offset,P.cellsOf f.type))
 | _=>none
section
variable {P:Program} {t e:TypeId} {n:Nat} {ps:List PV}
theorem lZ {k:IntKind} (h:cZ P t=some (.int k)) (hp:TyP P n t ps):∃ z,ps=[.int k z]∧(Lit.int k z).wf=true:=by
 cases n with
 | zero=>exact hp.elim
 | succ n=>unfold TyP at hp;rw[ou h] at hp;exact hp
theorem oM (h:cZ P t=some .str) (hp:TyP P n t ps):∃ s,ps=[.str s]∧s.length≤reachBytes:=by
 cases n with
 | zero=>exact hp.elim
 | succ n=>unfold TyP at hp;rw[jr h] at hp;exact hp
theorem qi {b:Bool} (h:cZ P t=some (.sl e b)) (hp:TyP P n t ps):∃ m c,n=m+1∧ps=[.sl c]∧c.length≤reachBytes∧∀ el∈c,TyP P m e el:=by
 cases n with
 | zero=>exact hp.elim
 | succ n =>
  unfold TyP at hp;rw[(jD h).1] at hp;obtain⟨c,h1,h2,h3⟩:=hp;exact⟨n,c,rfl,h1,h2,h3⟩
theorem jU {l:List (TypeId×Nat×Nat)} {sz:Nat} (h:kq P t=some l) (hs:P.cellsOf t=sz) (hp:TyP P n t ps):∃ m,n=m+1∧ps.length=sz∧∀ (i:Nat) (x:TypeId×Nat×Nat),l[i]? = some x→TyP P m x.1 ((ps.drop x.2.1).take x.2.2):=by
 cases n with
 | zero=>exact hp.elim
 | succ n =>
  unfold kq at h;split at h
  case h_2=>cases h
  rename_i fs hu;cases h;unfold TyP at hp;rw[hu] at hp;obtain⟨h1,h2⟩:=hp;refine⟨n,rfl,by rw[h1,hs],fun i x hx => ?_⟩
  rw[List.getElem?_map,Option.map_eq_some_iff] at hx
  obtain⟨f,hf,rfl⟩:=hx;exact h2 i f (by simpa using hf)
theorem lr {α:Type} {f:α→List PV} {Q:α→Prop}:∀ {c:List (List PV)},(∀ el∈c, ∃ x,el=f x∧Q x)→∃ l:List α,c=l.map f∧∀ x∈l,Q x
 | [],_=>⟨[],rfl,by simp⟩
 | el::c,h=>by
  obtain⟨x,rfl,hx⟩:=h el (by simp)
  obtain⟨l,rfl,hl⟩:=lr (c:=c) fun y hy=>h y (by simp[hy])
  exact⟨x::l,rfl,fun y hy=>by
   rcases List.mem_cons.1 hy with rfl|hy
   ·exact hx
   ·exact hl y hy⟩
theorem xf {z:Int} (h:(Lit.int .i64 z).wf=true):I64 z:=by
 simp only[Lit.wf,Bool.and_eq_true,decide_eq_true_eq] at h;exact h
end
theorem len2 {α:Type} {l:List α} (h:l.length=2):∃ a b,l=[a,b]:=by
 match l,h with
 | [a,b],_=>exact⟨a,b,rfl⟩
theorem len3p {α:Type} {l:List α} (h:l.length=3):∃ a b c,l=[a,b,c]:=by
 match l,h with
 | [a,b,c],_=>exact⟨a,b,c,rfl⟩
theorem len6 {α:Type} {l:List α} (h:l.length=6):∃ a b c d e f,l=[a,b,c,d,e,f]:=by
 match l,h with
 | [a,b,c,d,e,f],_=>exact⟨a,b,c,d,e,f,rfl⟩
end Go.Abs
namespace Go.Abs
open Go Go.Proofs
set_option maxRecDepth 100000
theorem L6:kq Tryz.prog 91=some [(3,0,1),(9,1,1),(3,2,1)]:=by kernel_rfl
def Tok.Ok (t:Tok):Prop:=I64 t.kind∧I64 t.n∧t.text.length≤reachBytes
theorem Lj {n:Nat} {ps:List PV} (hp:TyP Tryz.prog n 91 ps):∃ x:Tok,ps=x.enc∧x.Ok:=by
 obtain⟨m,rfl,hl,hf⟩:=jU (sz:=3) L6 (by kernel_rfl) hp
 obtain⟨p0,p1,p2,rfl⟩:=len3p hl;obtain⟨k,hk,hkw⟩:=lZ cQ (hf 0 _ rfl);obtain⟨s,hs,hsl⟩:=oM al (hf 1 _ rfl);obtain⟨a,ha,haw⟩:=lZ cQ (hf 2 _ rfl);simp at hk hs ha;subst hk;subst hs;subst ha;exact⟨⟨k,s,a⟩,rfl,xf hkw,xf haw,hsl⟩
theorem Ds (p:PV):lg Tryz.prog 9 [p]=.c (.pv p):=by
 unfold lg;rw[Tryz.underlying9]
theorem args3 {t u v:TypeId} {pss:List (List PV)} {Q:Prop} (h:All2 (fun t p=>∃ n,TyP Tryz.prog n t p) [t,u,v] pss) (hq:∀ n m k p q r,TyP Tryz.prog n t p→TyP Tryz.prog m u q→TyP Tryz.prog k v r→pss=[p,q,r]→Q):Q:=by
 cases h with
 | cons h1 h =>
 cases h with
 | cons h2 h =>
 cases h with
 | cons h3 h =>
 cases h
 obtain⟨n,h1⟩:=h1;obtain⟨m,h2⟩:=h2;obtain⟨k,h3⟩:=h3;exact hq n m k _ _ _ h1 h2 h3 rfl
end Go.Abs
namespace Go.Abs
open Go Go.Proofs
set_option maxRecDepth 100000
theorem len5 {α:Type} {l:List α} (h:l.length=5):∃ a b c d e,l=[a,b,c,d,e]:=by
 match l,h with
 | [a,b,c,d,e],_=>exact⟨a,b,c,d,e,rfl⟩
theorem K9:kq Tryz.prog 93=some [(3,0,1),(91,1,3),(23,4,1)]:=by kernel_rfl
theorem w8 {p:Tok→Prop}:∀ {l:List Val},(∀ v∈l,Ne.allV p v)→Ne.allT p l
 | [],_=>by rw[Ne.allT];trivial
 | v::l,h=>by
  rw[Ne.allT];exact⟨h v (by simp),w8 fun x hx=>h x (by simp[hx])⟩
theorem K7:∀ (n:Nat) (ps:List PV),TyP Tryz.prog n 93 ps→∃ x:Val,ps=x.enc∧Ne.allV (fun t=>I64 t.n) x:=by
 intro n
 induction n using Nat.strongRecOn with
 | _ n ih =>
  intro ps hp;obtain⟨m,rfl,hl,hf⟩:=jU (sz:=5) K9 (by kernel_rfl) hp
  obtain⟨p0,p1,p2,p3,p4,rfl⟩:=len5 hl;obtain⟨k,hk,hkw⟩:=lZ cQ (hf 0 _ rfl);obtain⟨t,ht,hto⟩:=Lj (hf 1 _ rfl);obtain⟨j,c,rfl,hc,hcl,hce⟩:=qi ak (hf 2 _ rfl);obtain⟨l,rfl,hlo⟩:=lr (f:=Val.enc) (Q:=Ne.allV (fun t=>I64 t.n)) fun el hel=>ih j (by omega) el (hce el hel)
  simp[Tok.enc] at hk ht hc;subst hk;subst hc;obtain⟨rfl,rfl,rfl⟩:=ht;refine⟨.mk k t l,?_,?_⟩
  ·rw[Val.enc,encL_map]
  ·rw[Ne.allV];exact⟨hto.2.1,w8 hlo⟩
theorem J3 {n:Nat} {ps:List PV} (hp:TyP Tryz.prog n 23 ps):∃ l:List Val,ps=[.sl (encL l)]∧Ne.allT (fun t=>I64 t.n) l:=by
 obtain⟨j,c,rfl,rfl,hcl,hce⟩:=qi ak hp;obtain⟨l,rfl,hlo⟩:=lr (f:=Val.enc) (Q:=Ne.allV (fun t=>I64 t.n)) fun el hel=>K7 j el (hce el hel)
 exact⟨l,by rw[encL_map],w8 hlo⟩
theorem Ap (p:PV):lg Tryz.prog 23 [p]=.c (.pv p):=by
 unfold lg;rw[Tryz.underlying23]
end Go.Abs
