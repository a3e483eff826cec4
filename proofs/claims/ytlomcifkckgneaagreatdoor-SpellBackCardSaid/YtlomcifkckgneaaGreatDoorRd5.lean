/-
  WHAT THE FUNCTIONS COMPUTE: the smallest; the builder of texts.
  (And 3 texts more.)
-/
import Derived.Test.YtlomcifkckgneaaGreatDoorRd4
set_option maxHeartbeats 4000000
open Nat (reduceEqDiff reduceAdd reduceLT reduceLeDiff)
set_option linter.unusedSimpArgs false
set_option linter.unusedVariables false
namespace Go.Abs
open Go Go.Proofs
abbrev I (n:Int):AV:=.c (.pv (.int .i64 n))
abbrev T (l:List UInt8):AV:=.c (.pv (.str l))
abbrev B (b:Bool):AV:=.c (.pv (.bool b))
abbrev L (l:List (List PV)):AV:=.c (.pv (.sl l))
abbrev P0:AV:=.c (.loc 100000 0)
theorem ai {f:FuncId}{fn:Func}{x:Code}{nt:Nat}{args:List AV}{bxs:List (List CV)}{r:Res}(hp:prF f=none)(hh:hpF f=none)(hf:Tryz.prog.funcs[f]? = some fn)(hx:fn.body=some x)(hn:fn.ntmps=nt)
  (hl:args.length≤nt∧nt<LK) (h:(exL K f x (co nt args bxs)).bind (fun r=>leave K f fn bxs.length (some r))=some r):den K f args bxs=some r:=by
 rw[Bp (K:=K) hp hh hf hx,hn,if_pos hl];exact h
theorem iJ (f:FuncId)(h:(
 f==227 ||
 f==1000000)=false):K.ownRet f=false:=h
theorem fM (f i:Nat):K.hook f i=gJ f i:=rfl
theorem K_P:K.P=Tryz.prog:=rfl
theorem gk (f r:Nat):K.keep f r=eC f r:=rfl
theorem eX {f:FuncId}{F:Prim}{args:List AV}{bxs cs:List (List CV)}{v:AV}(h:prF f=some F)(hF:F args bxs=some (v,cs)):den K f args bxs=some (.ret v cs):=by
 rw[wF (K:=K) h,hF];rfl
set_option maxRecDepth 10000
theorem Qk (n:Int):den K 62 [I n] []=some (.ret (T (lZ n)) []):=by
 refine ai rfl rfl Tryz.func62 rfl Tryz.ntmps62 ⟨by simp,by simp[LK]⟩ ?_
 have hr:Tryz.f62.results=#[.tmp 2]:=rfl
 simp only[dP,bZ,de,cB,dL,dh,bo,ck,ce,cE,dr,ci,opd,avOf,cvOf,St.degAt,St.put,okPV,eL,eP,aP,if_true,Bool.false_eq_true,if_false,Option.map_some,Option.bind_some,fo,upd,List.toList_toArray,cM,steal,bI,mvB,db,AV.deg,CV.deg,AV.isIter,reduceLT,reduceCtorEq,reduceEqDiff,List.length_nil,List.length_cons,List.filterMap_cons,List.filterMap_nil,beq_iff_eq,List.getElem?_cons_zero,List.getElem?_cons_succ,Option.getD_some,fM,gJ,Nat.reduceBEq,Bool.and_self,K_P,iJ,AV.ren,CV.ren,co,leave,gj,cZ,eD,cm,bB,TV.deg,TV.av,LK,List.all_nil,List.any_nil,List.contains_nil,Bool.and_true,Bool.or_true,Bool.or_false,Bool.not_false,reduceAdd,Nat.zero_add,List.toList_toArray,Option.some.injEq,ite_self,fx,cF,dC,Key.clash,Key.sees,Key.writes,beq_self_eq_true,hr]
 unfold lZ
 repeat' split
 all_goals (simp_all [dP,bZ,dL,bo,ck,ce,cE,dr,ci,opd,avOf,cvOf,St.degAt,St.put,aP,Bool.false_eq_true,Option.map_some,Option.bind_some,fo,fw,upd,cM,AV.isIter,reduceLT,List.length_nil,fM,gJ,Nat.reduceBEq,Bool.and_self,not_false_eq_true,ite_self])
def kG (s:List UInt8):List (List PV):=s.map fun b=>[.int .u8 b.toNat]
inductive BS where
 | fresh
 | live
 | wr (s:List UInt8)
def BS.text:BS→List UInt8
 | .wr s=>s
 | _=>[]
theorem ML:BS.live.text=[]:=rfl
theorem sk (s:List UInt8):(BS.wr s).text=s:=rfl
def BS.cells (k:Nat):BS→List CV
 | .fresh=>[.bld,.nils]
 | .live=>[.bld,.own 0 []]
 | .wr s=>[.loc k 0,.own 5 (kG s)]
def eK:Nat:=4294967296
theorem yu (s t:List UInt8):kG s++kG t=kG (s++t):=by simp[kG]
theorem yg (s:List UInt8):(kG s).length=s.length:=by simp[kG]
theorem Hp (s:List UInt8):lens 1 (kG s)=true:=by simp[lens,kG]
theorem wl (n:Nat):lens n []=true:=rfl
theorem Hw (s:List UInt8):(s.map fun b=>[PV.int .u8 b.toNat])=kG s:=rfl
theorem yk (b:BS):den K 121 [P0] [b.cells 100000]=some (.ret (.tup []) [match b.cells 100000 with|[_,v]=>[.loc 100000 0,v]|_=>[]]):=by
 refine eX (F:=od) rfl ?_
 cases b<;>rfl
theorem uT (b:BS)(t:List UInt8)(h:(b.text++t).length<eK) :
  den K 67 [P0,T t] [b.cells 100000]=some (.ret (.tup [.c (.pv (.int .i64 t.length)),.c (.pv .nilifc)]) [BS.cells 100000 (.wr (b.text++t))]):=by
 refine ai rfl rfl Tryz.func67 rfl Tryz.ntmps67 ⟨by simp,by simp[LK]⟩ ?_
 have hr:Tryz.f67.results=#[.tmp 4,.tmp 5]:=rfl
 have hcc:=yk b
 have hl:b.text.length+t.length<bS:=by simpa[bS,eK] using h
 cases b
 all_goals (simp only[BS.cells,BS.text,List.length_nil,Nat.zero_add] at hcc hl ⊢;simp only[dP,bZ,dL,bo,ck,ce,cE,dr,ci,opd,avOf,cvOf,St.degAt,St.put,okPV,fE,okAV,aP,if_true,Bool.false_eq_true,if_false,Option.map_some,Option.map_none,Option.bind_some,fo,upd,List.toList_toArray,cM,steal,bI,mvB,db,AV.deg,CV.deg,AV.gv,AV.isIter,reduceLT,reduceCtorEq,reduceEqDiff,List.length_nil,List.length_cons,List.filterMap_cons,List.filterMap_nil,List.getElem?_cons_zero,List.getElem?_cons_succ,Option.getD_some,fM,gJ,Nat.reduceBEq,Bool.and_false,Bool.and_self,K_P,iJ,cI,dc,bL,lend,back,idx,dedup,AV.ren,CV.ren,TV.ren,AV.ptrs,CV.ptrs,dE,AV.flat,CV.flat,cQ,cz,br,dD,bf,bT,ownT,co,leave,gj,cZ,eD,cm,bB,TV.deg,TV.av,LK,CV.plain,List.map_cons,List.map_nil,List.all_cons,List.all_nil,List.any_cons,List.any_nil,List.contains_cons,List.contains_nil,List.cons_append,List.nil_append,List.append_nil,List.flatMap_cons,List.flatMap_nil,List.zip_cons_cons,List.zip_nil_right,List.take_succ_cons,List.take_zero,List.drop_succ_cons,List.drop_nil,List.isEmpty_nil,Bool.and_true,Bool.true_and,Bool.or_true,Bool.true_or,Bool.or_false,Bool.false_or,Bool.not_true,Bool.not_false,reduceAdd,Nat.add_zero,Nat.zero_add,decide_true,decide_false,List.toList_toArray,Nat.le_refl,and_self,Nat.sub_self,or_true,true_or,Option.some.injEq,ite_self,fx,cF,dC,cf,Key.clash,Key.sees,Key.writes,Nat.lt_irrefl,beq_self_eq_true,Ql,tz,GL,AJ,bq yp,yz (e:=5) am (h8:=JG),aE am,hr,hcc,hl,wl,Hp,Hw,yg,yu])
end Go.Abs
namespace Go.Abs
open Go Go.Proofs
theorem au (f:FuncId)(a:Code)(S:St):exL K f (.loop a) S=exL K f (.loop a) (head (eC f ((bu a).getD 0)) S):=by
 rw[aq,aq (S:=head _ S),gk,tW]
set_option maxRecDepth 10000
attribute [local go_sem] dP bZ de cB cK dL dh du bo ck ce cE dr ci opd avOf cvOf St.degAt St.put okPV fE okAV eL eP eV dM aP if_true Bool.false_eq_true if_false Option.map_some Option.map_none Option.bind_some Option.bind_none fo fw upd List.toList_toArray cM steal bI mvB fj dK db AV.deg CV.deg AV.gv AV.isIter dG dw cJ List.length_nil List.length_cons List.filterMap_cons List.filterMap_nil beq_iff_eq List.getElem?_cons_zero List.getElem?_cons_succ Option.getD_some fM gJ Bool.false_and Bool.and_false Bool.and_self K_P iJ cI dc bL lend back idx dedup AV.ren CV.ren TV.ren AV.ptrs CV.ptrs dE AV.flat CV.flat cQ cz br dD dY gi cL bf cS bV cu cH bU gS CV.pv? content bT ownT bv reps pvs chunks co leave gj cZ eD cm bB TV.deg TV.av LK CV.plain CV.noBld dR gD bound List.map_cons List.map_nil List.all_cons List.all_nil List.any_cons List.any_nil List.contains_cons List.contains_nil List.elem_cons List.elem_nil List.cons_append List.nil_append List.append_nil List.flatMap_cons List.flatMap_nil List.zip_cons_cons List.zip_nil_left List.zip_nil_right List.take_succ_cons List.take_zero List.take_nil List.drop_succ_cons List.drop_zero List.drop_nil List.isEmpty_nil List.isEmpty_cons Bool.and_true Bool.true_and Bool.or_true Bool.true_or Bool.or_false Bool.false_or Bool.not_true Bool.not_false Nat.add_zero Nat.zero_add Option.isNone_none Option.isNone_some Option.getD_none true_and and_true not_true_eq_false not_false_eq_true decide_true decide_false Nat.le_refl and_self Bool.not_eq_true Nat.sub_self or_true true_or Option.some.injEq List.length_map List.nil_eq and_false false_and AV.live CV.live CV.liveIn gk bu Option.orElse_some Option.orElse_none head bJ bG Int.lt_irrefl List.length_append ite_self fx cF dC cf Key.clash Key.sees Key.writes Nat.lt_irrefl gt_iff_lt dt fB false_or or_false beq_self_eq_true Bool.true_beq Bool.false_beq
inductive Wd where
 | s (t:List UInt8)
 | n (k:Int)
def Wd.enc:Wd→List PV
 | .s t=>[.ifc 9 (.str t)]
 | .n k=>[.ifc 3 (.int .i64 k)]
def Wd.ok:Wd→Prop
 | .s _=>True
 | .n k => -9223372036854775808≤k∧k≤9223372036854775807
def Wd.text:Wd→List UInt8
 | .s t=>t
 | .n k=>Lib.itoa k
def dp (l:List Wd):List UInt8:=l.flatMap Wd.text
theorem Fi (n:Int)(h : -9223372036854775808≤n∧n≤9223372036854775807):den K 68 [I n] []=some (.ret (T (Lib.itoa n)) []) :=
 eX (F:=Dc) rfl (by simp[Dc,h])
def BS.live':BS→BS
 | .fresh=>.live
 | b=>b
theorem BS.live_text (b:BS):b.live'.text=b.text:=by cases b<;>rfl
def fW (b:BS):List Wd→BS
 | []=>b.live'
 | l=>.wr (b.text++dp l)
theorem aX (n:Nat)(h:n<9223372036854775807):IntKind.i64.wrap ((n:Int)+1)=((n+1:Nat):Int):=by
 rw[IntWalk.i64_in _ (by omega)];rfl
theorem fe (b:BS)(k:Nat)(l:List Nat)(h:l.contains k=true):(b.cells k).map (CV.live l)=b.live'.cells k:=by
 cases b with
 | wr s=>simp only[BS.cells,List.map_cons,List.map_nil,CV.live,BS.live',h,if_true]
 | _=>rfl
theorem dQ (b:BS)(k:Nat)(l:List Nat):(b.cells k).map (CV.ren (lend (k::l)))=b.cells 100000:=by
 cases b with
 | wr s=>simp[BS.cells,CV.ren,lend,idx,LK]
 | _=>rfl
theorem dX (b:BS)(k:Nat)(l:List Nat):(b.cells 100000).map (CV.ren (back (k::l)))=b.cells k:=by
 cases b with
 | wr s=>simp[BS.cells,CV.ren,back,LK]
 | _=>rfl
theorem eN (b:BS):(b.cells 100000).map (CV.ren bB)=b.cells 100000:=by
 cases b<;>rfl
theorem bH {α:Type}{l rest:List α}{x:α}{i:Nat}(h:l.drop i=x::rest):l[i]? = some x∧l.drop (i+1)=rest∧i<l.length:=by
 have h1:l[i]? = some x:=by
  have:(l.drop i)[0]? = some x:=by rw[h];rfl
  simpa using this
 refine⟨h1,?_,(List.getElem?_eq_some_iff.1 h1).1⟩
 have:(l.drop i).tail=rest:=by rw[h];rfl
 rw[←this,List.tail_drop]
theorem kQ {a b:Int}(h:a<b):decide (a<b)=true:=decide_eq_true h
abbrev Vv (b:BS)(l:List Wd)(i:Nat):St :=
  { sl:=upd (upd (upd (upd bot 10 (I i)) 9 (I l.length)) 8 (L (l.map Wd.enc))) 0 P0,bx:=upd nobox 100000 (some (b.cells 100000)),nt:=33 }
theorem Fx (b:BS)(x:Wd)(rest:List Wd):fW (.wr (b.text++x.text)) rest=fW b (x::rest):=by
 cases rest with
 | nil=>simp[fW,BS.live',dp]
 | cons y r=>simp[fW,BS.text,dp]
theorem vP (all:List Wd):∀ (rest:List Wd) (i:Nat) (b:BS),all.drop i=rest→(∀ x∈rest,x.ok)→(b.text++dp rest).length<eK→b.live'=b→i≤all.length→all.length<1000000 →
  exL K 35 (.loop (ap Tryz.f35 1)) (Vv b all i) =
   some (.exit 0, { sl:=upd (upd (upd (upd (upd bot 10 (I all.length)) 9 (I all.length)) 8 (L (all.map Wd.enc))) 0 P0) 11 (B false),bx:=upd nobox 100000 (some ((fW b rest).cells 100000)),nt:=33 })
 | [],i,b,hd,hok,hlen,hb,hi,hal=>by
  have hin:i=all.length:=by
   have:=List.drop_eq_nil_iff.1 hd
   omega
  subst hin
  conv in ap _ _=>whnf
  rw[aq];simp only[go_sem,reduceLT,reduceCtorEq,reduceEqDiff,Nat.reduceBEq,lJ,fe,hb,fW]
 | x::rest,i,b,hd,hok,hlen,hb,hi,hal=>by
  obtain⟨h1,h2,h3⟩:=bH hd;have hx:=hok x (by simp)
  have ih:=fun b=>vP all rest (i+1) b h2 (fun y hy=>hok y (by simp[hy]))
  conv in ap _ _=>whnf
  rw[aq];have hl1:(b.text++x.text).length<eK:=by simp[dp] at hlen ⊢;omega
  have hws:=uT b x.text hl1
  have hget:(all.map Wd.enc)[(i:Int).toNat]? = some x.enc:=by simp[h1]
  have hlt:decide ((i:Int)<(all.length:Int))=true:=kQ (by omega)
  have hnext:=ih (.wr (b.text++x.text)) (by simpa[BS.text,dp] using hlen) rfl (by omega) hal
  rw[←Fx b x rest]
  conv at hnext in ap _ _=>whnf
  cases x with
  | s t =>
   simp only[Wd.text] at hws hnext ⊢;simp only[go_sem,reduceLT,reduceCtorEq,reduceEqDiff,Nat.reduceBEq,reduceAdd,aj bO,cW,se,iR,uw,ja,nR,Iz,lY,uK,AG,lJ,fe,dQ,dX,hb,hlt,hget,Int.natCast_nonneg,Wd.enc,hws,aX i (by omega)]
   rw[au];simp only[go_sem,reduceCtorEq,reduceEqDiff,lJ,fe];exact hnext
  | n k =>
   have hit:=Fi k hx
   simp only[Wd.text] at hws hnext ⊢;simp only[go_sem,reduceLT,reduceCtorEq,reduceEqDiff,Nat.reduceBEq,reduceAdd,aj bO,cW,se,iR,uw,ja,nR,Iz,lY,uK,AG,lJ,fe,dQ,dX,hb,hlt,hget,Int.natCast_nonneg,Wd.enc,hws,hit,aX i (by omega)]
   rw[au];simp only[go_sem,reduceCtorEq,reduceEqDiff,lJ,fe];exact hnext
theorem er (l:List Wd)(b:BS)(hok:∀ x∈l,x.ok)(hlen:(b.text++dp l).length<eK)(hl:l.length<1000000) :
  den K 35 [P0,L (l.map Wd.enc)] [b.cells 100000]=some (.ret (.tup []) [(fW b l).cells 100000]):=by
 refine ai rfl rfl Tryz.func35 rfl Tryz.ntmps35 ⟨by simp,by simp[LK]⟩ ?_
 have hr:Tryz.f35.results=#[]:=rfl
 have hnext:=vP l l 0 b.live' rfl hok (by rw[BS.live_text];exact hlen) (by cases b<;>rfl) (by omega) hl
 conv at hnext in ap _ _=>whnf
 have hB:fW b.live' l=fW b l:=by cases b<;>cases l<;>rfl
 rw[hB] at hnext;simp only[go_sem,reduceLT,Nat.reduceBEq,reduceAdd,af bO];rw[au];simp only[go_sem,reduceCtorEq,reduceEqDiff,lJ,fe];erw [hnext];simp only[go_sem,eN,hr]
end Go.Abs
namespace Go.Abs
open Go Go.Proofs
set_option maxRecDepth 10000
attribute [local go_sem] dP bZ de cB cK dL dh du bo ck ce cE dr ci opd avOf cvOf St.degAt St.put okPV fE okAV eL eP eV dM aP if_true Bool.false_eq_true if_false Option.map_some Option.map_none Option.bind_some Option.bind_none fo fw upd List.toList_toArray cM steal bI mvB fj dK db AV.deg CV.deg AV.gv AV.isIter dG dw cJ List.length_nil List.length_cons List.filterMap_cons List.filterMap_nil beq_iff_eq List.getElem?_cons_zero List.getElem?_cons_succ Option.getD_some fM gJ Bool.false_and Bool.and_false Bool.and_self K_P iJ cI dc bL lend back idx dedup AV.ren CV.ren TV.ren AV.ptrs CV.ptrs dE AV.flat CV.flat cQ cz br dD dY gi cL bf cS bV cu cH bU gS CV.pv? content bT ownT bv reps pvs chunks co leave gj cZ eD cm bB TV.deg TV.av LK CV.plain CV.noBld dR gD bound List.map_cons List.map_nil List.all_cons List.all_nil List.any_cons List.any_nil List.contains_cons List.contains_nil List.elem_cons List.elem_nil List.cons_append List.nil_append List.append_nil List.flatMap_cons List.flatMap_nil List.zip_cons_cons List.zip_nil_left List.zip_nil_right List.take_succ_cons List.take_zero List.take_nil List.drop_succ_cons List.drop_zero List.drop_nil List.isEmpty_nil List.isEmpty_cons Bool.and_true Bool.true_and Bool.or_true Bool.true_or Bool.or_false Bool.false_or Bool.not_true Bool.not_false Nat.add_zero Nat.zero_add Option.isNone_none Option.isNone_some Option.getD_none true_and and_true not_true_eq_false not_false_eq_true decide_true decide_false Nat.le_refl and_self Bool.not_eq_true Nat.sub_self or_true true_or Option.some.injEq List.length_map List.nil_eq and_false false_and AV.live CV.live CV.liveIn gk bu Option.orElse_some Option.orElse_none head bJ bG Int.lt_irrefl List.length_append ite_self fx cF dC cf Key.clash Key.sees Key.writes Nat.lt_irrefl gt_iff_lt dt fB false_or or_false beq_self_eq_true Bool.true_beq Bool.false_beq cV cy bK dW aN cj fR AG ag bc Og bg QB oG lY Be ja nR Ik iR
theorem kV {n:Int}(h:I64 n):(Lib.itoa n).length≤21:=Lib.itoa_length_le n h.1 h.2
theorem Jv (t:Tok)(hn:I64 t.n)(hl:t.text.length<1000000000000):den K 156 [.agg t.cells] []=some (.ret (T (oneS t)) []):=by
 obtain⟨k,s,n⟩:=t;refine ai rfl rfl Tryz.func156 rfl Tryz.ntmps156 ⟨by simp,by simp[LK]⟩ ?_
 have hr:Tryz.f156.results=#[.tmp 2]:=rfl
 have hit:=Fi n hn
 have hi:=kV hn
 simp only at hl hi;have l1:s.length+1<bN:=by simp[bN];omega
 have l1':1+s.length<bN:=by simp[bN];omega
 have l2:(Lib.itoa n).length+s.length<bN:=by simp[bN];omega
 have l3:1+s.length+1<bN:=by simp[bN];omega
 have l4:s.length+2<bN:=by simp[bN];omega
 have l5:s.length+2+1<bN:=by simp[bN];omega
 have l6:s.length+2+1+2<bN:=by simp[bN];omega
 have l7:s.length+1+1<bN:=by simp[bN];omega
 have hk:k=1∨k=2∨k=3∨k=4∨k=5∨k=6∨k=7∨k=8∨(k≠1∧k≠2∧k≠3∧k≠4∧k≠5∧k≠6∧k≠7∧k≠8):=by omega
 rcases hk with rfl|rfl|rfl|rfl|rfl|rfl|rfl|rfl|⟨h1,h2,h3,h4,h5,h6,h7,h8⟩
 ·simp[go_sem,reduceLT,reduceEqDiff,Nat.reduceBEq,reduceAdd,Tok.cells,oneS]
 ·simp[go_sem,reduceLT,reduceEqDiff,Nat.reduceBEq,reduceAdd,Tok.cells,oneS,l1]
 ·simp[go_sem,reduceLT,reduceEqDiff,Nat.reduceBEq,reduceAdd,Tok.cells,oneS,l1']
 ·simp[go_sem,reduceLT,reduceEqDiff,Nat.reduceBEq,reduceAdd,Tok.cells,oneS,l1']
 ·simp[go_sem,reduceLT,reduceCtorEq,reduceEqDiff,Nat.reduceBEq,reduceAdd,Tok.cells,oneS,hit,l2]
 ·by_cases h:n=39<;>simp[go_sem,reduceLT,reduceEqDiff,Nat.reduceBEq,reduceAdd,Tok.cells,oneS,h,l1',l7]
 ·by_cases h:s=[34]
  ·simp[go_sem,reduceLT,reduceEqDiff,Nat.reduceBEq,reduceAdd,Tok.cells,oneS,h,bN]
  ·have e:(s==[34])=false:=by simp[h]
   by_cases h':s=[39]
   ·simp[go_sem,reduceLT,reduceEqDiff,Nat.reduceBEq,reduceAdd,Tok.cells,oneS,h',bN]
   ·have e':(s==[39])=false:=by simp[h']
    simp[go_sem,reduceLT,reduceEqDiff,Nat.reduceBEq,reduceAdd,Tok.cells,oneS,e,e',h,h']
 ·simp[go_sem,reduceLT,reduceEqDiff,Nat.reduceBEq,reduceAdd,Tok.cells,oneS]
 ·simp[go_sem,reduceLT,reduceEqDiff,Nat.reduceBEq,reduceAdd,Tok.cells,oneS,h1,h2,h3,h4,h5,h6,h7,h8]
theorem Ka (s:List UInt8)(hl:s.length<1000000000000):den K 112 [T s] []=some (.ret (T (ma s)) []):=by
 refine ai rfl rfl Tryz.func112 rfl Tryz.ntmps112 ⟨by simp,by simp[LK]⟩ ?_
 have hr:Tryz.f112.results=#[.tmp 2]:=rfl
 have hc:den K 155 [T s,T [34]] []=some (.ret (B (decide (0≤Lib.indexByte s 34))) []):=eX (F:=pM) rfl rfl
 have h1:=Jv ⟨6,s,34⟩ (by simp[I64]) hl
 have h2:=Jv ⟨6,s,39⟩ (by simp[I64]) hl
 simp only[Tok.cells] at h1 h2;have e1:oneS ⟨6,s,34⟩=34::s++[34]:=by simp[oneS]
 have e2:oneS ⟨6,s,39⟩=39::s++[39]:=by simp[oneS]
 rw[e1] at h1;rw[e2] at h2;unfold ma;by_cases h:0≤Lib.indexByte s 34
 ·simp[go_sem,reduceLT,reduceCtorEq,reduceEqDiff,Nat.reduceBEq,reduceAdd,reduceLeDiff,aa ag al,hc,h2,h]
 ·simp[go_sem,reduceLT,reduceCtorEq,reduceEqDiff,Nat.reduceBEq,reduceAdd,reduceLeDiff,aa ag al,hc,h1,h]
theorem mm (b:BS)(h:b.text.length<eK):den K 36 [P0] [b.cells 100000]=some (.ret (T b.text) [match b with|.wr s=>[.loc 100000 0,.pv (.sl (kG s))]|.live=>[.bld,.pv (.sl [])]|.fresh=>[.bld,.nils]]):=by
 refine eX (F:=qm) rfl ?_
 have hb:∀ s:List UInt8,ly (kG s)=some s:=fun s=>by
  induction s with
  | nil=>rfl
  | cons x s ih =>
   show ly ([PV.int .u8 x.toNat]::kG s)=_
   have hx:(0:Int)≤(x.toNat:Int)∧(x.toNat:Int)<256:=⟨by omega,by have:=x.toNat_lt;omega⟩
   unfold ly;rw[if_pos hx,ih];simp
 cases b with
 | wr s =>
  have hs:s.length<bN:=by simp[BS.text,eK] at h;simp[bN];omega
  simp[BS.cells,BS.text,qm,LK,hb,hs]
 | live=>simp[BS.cells,BS.text,qm,LK,ly,bN]
 | fresh=>rfl
theorem Tu (a b:Int)(ha:I64 a)(hb:I64 b):den K 12 [I a,I b] []=some (.ret (T (nthS a b)) []):=by
 have la:=kV ha
 have lb:=kV hb
 refine ai rfl rfl Tryz.func12 rfl Tryz.ntmps12 ⟨by simp,by simp[LK]⟩ ?_
 have hr:Tryz.f12.results=#[.tmp 4]:=rfl
 have w1:=er [.n a,.s [110]] .fresh (by simp[Wd.ok];exact ha) (by simp[dp,Wd.text,BS.text,eK];omega) (by simp)
 have w2:=er [.n b] .fresh (by simp[Wd.ok];exact hb) (by simp[dp,Wd.text,BS.text,eK];omega) (by simp)
 have w3:=er [.n b] (.wr (Lib.itoa a++[110])) (by simp[Wd.ok];exact hb) (by simp[dp,Wd.text,BS.text,eK];omega) (by simp)
 have w4:=er [.s [43],.n b] (.wr (Lib.itoa a++[110])) (by simp[Wd.ok];exact hb) (by simp[dp,Wd.text,BS.text,eK];omega) (by simp)
 have s1:=mm (.wr (Lib.itoa b)) (by simp[BS.text,eK];omega)
 have s2:=mm (.wr (Lib.itoa a++110::Lib.itoa b)) (by simp[BS.text,eK];omega)
 have s3:=mm (.wr (Lib.itoa a++110::43::Lib.itoa b)) (by simp[BS.text,eK];omega)
 have s4:=mm (.wr (Lib.itoa a++[110])) (by simp[BS.text,eK];omega)
 simp only[Wd.enc,fW,dp,List.map_cons,List.map_nil,List.flatMap_cons,List.flatMap_nil,Wd.text,List.append_nil,BS.text,List.nil_append,BS.cells,List.append_assoc,List.cons_append] at w1 w2 w3 w4 s1 s2 s3 s4
 unfold nthS;by_cases h0:a=0
 ·subst h0;simp[go_sem,reduceLT,reduceCtorEq,reduceEqDiff,Nat.reduceBEq,reduceAdd,ao (len:=1) bO cW bM ⟨rfl,by decide,by decide⟩,w2,s1]
 ·have e0:(a != 0)=true:=by simp[h0]
  have e1:(a==0)=false:=by simp[h0]
  by_cases h1:b<0
  ·simp[go_sem,reduceLT,reduceCtorEq,reduceEqDiff,Nat.reduceBEq,reduceAdd,reduceLeDiff,ao (len:=2) bO cW bM ⟨rfl,by decide,by decide⟩,ao (len:=1) bO cW bM ⟨rfl,by decide,by decide⟩,w1,w3,s2,h0,e0,e1,h1]
  ·by_cases h2:0<b
   ·simp[go_sem,reduceLT,reduceCtorEq,reduceEqDiff,Nat.reduceBEq,reduceAdd,reduceLeDiff,ao (len:=2) bO cW bM ⟨rfl,by decide,by decide⟩,w1,w4,s3,h0,e0,e1,h1,h2]
   ·simp[go_sem,reduceLT,reduceCtorEq,reduceEqDiff,Nat.reduceBEq,reduceAdd,reduceLeDiff,ao (len:=2) bO cW bM ⟨rfl,by decide,by decide⟩,w1,s4,h0,e0,e1,h1,h2]
end Go.Abs
namespace Go.Abs.Tk
open Go
inductive Good:Tok→Prop
 | ident (x:List UInt8):cT x→Good ⟨1,x,0⟩
 | func (x:List UInt8):cT x→Good ⟨2,x,0⟩
 | word (x:List UInt8):cT x→Good ⟨3,x,0⟩
 | hash (x:List UInt8):x≠[]→(∀ b∈x,within b=true)→Good ⟨4,x,0⟩
 | num (x:List UInt8) (n:Int) : -999999999≤n→n≤999999999→(x=[]∨x=[37]∨cT x)→Good ⟨5,x,n⟩
 | str (x:List UInt8) (q:UInt8):q=34∨q=39→(∀ b∈x,b≠q∧ending b=false)→Good ⟨6,x,q.toNat⟩
 | delim (c:UInt8):begins c=false→digit c=false→blank c=false→Good ⟨7,[c],0⟩
 | white:Good ⟨8,[10],0⟩
theorem Lc (l:List UInt8):l.take (unit l)=[]∨l.take (unit l)=[37]∨cT (l.take (unit l)):=by
 unfold unit;split
 ·rename_i h;cases l with
  | nil=>exact absurd h (by decide)
  | cons c r=>right;left;rw[at0] at h;rw[h];rfl
 ·by_cases h:0<name l
  ·exact .inr (.inr (pT h))
  ·left;rw[show name l=0 by omega];rfl
theorem Bu (l:List UInt8):unit l≤l.length:=by
 unfold unit;split
 ·rename_i h;cases l with
  | nil=>exact absurd h (by decide)
  | cons c r=>simp
 ·exact qk l
theorem up (neg:Bool)(l:List UInt8):Good (number neg l).1:=by
 have hb:=pS (l:=l) (n:=0) (by omega) (by omega)
 unfold number;refine .num _ _ ?_ ?_ (Lc _)
 ·cases neg<;>simp<;>omega
 ·cases neg<;>simp<;>omega
theorem Av (neg:Bool)(l:List UInt8):(number neg l).2≤l.length:=by
 unfold number;have h1:=run_le (p:=digit) l
 have h2:=Bu (l.drop (run digit l))
 simp only[List.length_drop] at h2;simp only;omega
theorem He (neg:Bool)(l:List UInt8)(h:digit (at0 l)=true):1≤(number neg l).2:=by
 unfold number;have:=(pp (y:=l) xd).2 h
 simp only;omega
theorem zK {c:UInt8}{r:List UInt8}{t:Tok}(h:(step c r).1=some t):Good t:=by
 unfold step at h;split at h
 ·cases h
 split at h
 ·cases h;exact .white
 split at h
 ·rename_i hq;cases h;obtain⟨n,hn⟩:=Option.isSome_iff_exists.1 hq.2;rw[hn];exact .str _ c hq.1 (xe hn)
 split at h
 ·rename_i hq;cases h;exact .hash _ (fun e=>by
   have h1:=congrArg List.length e
   rw[List.length_take,List.length_nil] at h1;have h2:=run_le (p:=within) r
   have h3:=hq.2
   omega) (rF r)
 split at h
 ·rename_i hq;cases h;exact .word _ (pT hq.2)
 split at h
 ·cases h;exact up _ _
 split at h
 ·cases h;exact up _ _
 split at h
 ·rename_i hn;split at h
  ·cases h;exact .func _ (pT hn)
  ·cases h;exact .ident _ (pT hn)
 ·rename_i h1 h2 h3 h4 h5 h6 h7 h8;cases h;refine .delim c ?_ (by simpa using h6) (by simpa using h2)
  cases hb:begins c
  ·rfl
  ·exact absurd (iW.2 (show eS (c::r)=true by simp[eS,at0,hb])) h8
theorem mY (c:UInt8)(r:List UInt8):1≤(step c r).2:=by
 unfold step;split
 ·have:=EJ r.tail;simp only;omega
 split
 ·rename_i h;exact RQ h
 split
 ·rename_i h;obtain⟨n,hn⟩:=Option.isSome_iff_exists.1 h.2;simp only;omega
 split
 ·simp only;omega
 split
 ·simp only;omega
 split
 ·rename_i h;exact He false (c::r) h
 split
 ·simp only;omega
 split
 ·split<;>simp only<;>omega
 ·exact Nat.le_refl _
theorem HC {r:List UInt8}:comment r≤r.length+2:=by
 unfold comment;split
 ·rename_i n h;have:=vg h;omega
 ·omega
theorem BT (c:UInt8)(r:List UInt8):(step c r).2≤(c::r).length:=by
 unfold step;split
 ·rename_i h;have:=HC (r:=r.tail)
  cases r with
  | nil=>exact absurd h.2 (by decide)
  | cons d r=>simp only[List.tail_cons,List.length_cons] at *;omega
 split
 ·exact run_le _
 split
 ·rename_i h;obtain⟨n,hn⟩:=Option.isSome_iff_exists.1 h.2;have:=sH hn
  rw[hn];simp;omega
 split
 ·have:=run_le (p:=within) r;simp;omega
 split
 ·have:=qk r;simp;omega
 split
 ·exact Av false _
 split
 ·have:=Av true r;simp;omega
 split
 ·rename_i h;split
  ·rename_i h40;have h1:=qk (c::r)
   have:name (c::r)≠(c::r).length:=fun e=>by
    rw[e,List.drop_length] at h40;exact absurd h40 (by decide)
   simp only;omega
  ·exact qk _
 ·simp
theorem RF:∀ (k j:Nat) (l:List UInt8),l.length≤k→l.length≤j→allN k l=allN j l:=by
 intro k
 induction k with
 | zero =>
  intro j l h _;obtain rfl:l=[]:=List.length_eq_zero_iff.1 (by omega)
  cases j<;>rfl
 | succ k ih =>
  intro j l hk hj;cases l with
  | nil=>cases j<;>rfl
  | cons c r =>
   cases j with
   | zero=>simp at hj
   | succ j =>
    have hp:=mY c r
    have hd:((c::r).drop (step c r).2).length≤r.length:=by rw[List.length_drop];simp;omega
    simp only[List.length_cons] at hk hj;rw[allN,allN,ih j _ (by omega) (by omega)]
theorem all_nil:all []=[]:=rfl
theorem all_cons (c:UInt8)(r:List UInt8):all (c::r)=(step c r).1.toList++all ((c::r).drop (step c r).2):=by
 have hp:=mY c r
 have hd:((c::r).drop (step c r).2).length≤r.length:=by rw[List.length_drop];simp;omega
 rw[all,List.length_cons,allN];rw[RF r.length _ _ hd (Nat.le_refl _),←all]
theorem rM {Q:List UInt8→Prop}(h0:Q [])(h1:∀ c r,Q ((c::r).drop (step c r).2)→Q (c::r)):∀ l,Q l:=by
 have:∀ (k:Nat) (l:List UInt8),l.length≤k→Q l:=by
  intro k
  induction k with
  | zero=>intro l h;obtain rfl:l=[]:=List.length_eq_zero_iff.1 (by omega);exact h0
  | succ k ih =>
   intro l h;cases l with
   | nil=>exact h0
   | cons c r =>
    have hp:=mY c r
    exact h1 c r (ih _ (by rw[List.length_drop];simp at *;omega))
 exact fun l=>this l.length l (Nat.le_refl _)
theorem Qz (l:List UInt8):∀ t∈all l,Good t:=by
 refine rM (Q:=fun l=>∀ t∈all l,Good t) (fun t h=>by simp[all_nil] at h) (fun c r ih t ht => ?_) l
 rw[all_cons] at ht;rcases List.mem_append.1 ht with ht|ht
 ·exact zK (by simpa[Option.mem_toList] using ht)
 ·exact ih t ht
theorem kW (c:UInt8)(r:List UInt8):at0 (c::r)=c:=rfl
def sep (t:Tok)(y:List UInt8):Prop :=
 (t.kind=1→within (at0 y)=false∧at0 y≠40) ∧
 (t.kind=3∨t.kind=4→within (at0 y)=false) ∧
 (t.kind=5→(t.text=[]→digit (at0 y)=false∧at0 y≠37∧eS y=false)∧(cT t.text→within (at0 y)=false)) ∧
 (t.kind=8→blank (at0 y)=false) ∧
 (t.kind=7→(t.text=[47]→at0 y≠42)∧(t.text=[35]→within (at0 y)=false)∧(t.text=[64]→eS y=false)∧(t.text=[45]→digit (at0 y)=false∧eS (45::y)=false))
theorem oz {c:UInt8}{y:List UInt8}(h:at0 y=c)(hc:within c=false):eS y=false:=by
 cases hn:eS y
 ·rfl
 ·have:=ji hn;rw[h,hc] at this;cases this
theorem xp {y:List UInt8}(h:begins (at0 y)=false)(h2:at0 y≠45):eS (45::y)=false:=by
 have e:eS (45::y)=(begins 45||((45:UInt8)==45&&(begins (at0 y)||at0 y==45))):=rfl
 rw[e,h,beq_eq_false_iff_ne.2 h2];decide
theorem EU {y:List UInt8}{c:UInt8}(h:at0 y=c)(t:Tok)(h1:within c=false)(h2:blank c=false)(h3:c≠40)(h4:c≠37)(h5:c≠42):sep t y:=by
 have hb:begins c=false:=by simp only[within,Bool.or_eq_false_iff] at h1;exact h1.1.1
 have hd:digit c=false:=by simp only[within,Bool.or_eq_false_iff] at h1;exact h1.1.2
 have h45:c≠45:=fun e=>by rw[e] at h1;revert h1;decide
 have hn:=oz h h1
 unfold sep;rw[h];exact⟨fun _=>⟨h1,h3⟩,fun _=>h1,fun _=>⟨fun _=>⟨hd,h4,hn⟩,fun _=>h1⟩,fun _=>h2,fun _=>⟨fun _=>h5,fun _=>h1,fun _=>hn,fun _=>⟨hd,xp (by rw[h];exact hb) (by rw[h];exact h45)⟩⟩⟩
theorem Jd (t:Tok):sep t []:=EU (c:=0) rfl t (by decide) (by decide) (by decide) (by decide) (by decide)
theorem mw {c:UInt8}{r:List UInt8}(h:eS (c::r)=true):begins c=true∨c=45∧(begins (at0 r)=true∨at0 r=45):=by
 simpa[eS,at0] using h
theorem yT {c:UInt8}{r:List UInt8}(h:eS (c::r)=true):step c r =
  if at0 ((c::r).drop (name (c::r)))=40 then(some ⟨2,(c::r).take (name (c::r)),0⟩,name (c::r)+1)
  else(some ⟨1,(c::r).take (name (c::r)),0⟩,name (c::r)):=by
 have hw:within c=true:=ji h
 have hne:∀ d,within d=false→c≠d:=fun d hd=>zS hw hd
 have hdig:digit c=false:=by
  rcases mw h with hb|⟨rfl,_⟩
  ·exact nU hb
  ·decide
 have h45:¬ (c=45∧digit (at0 r)=true):=by
  rintro ⟨rfl,hd⟩
  rcases mw h with hb|⟨_,hb|hb⟩
  ·exact absurd hb (by decide)
  ·rw[nU hb] at hd;cases hd
  ·rw[hb] at hd;revert hd;decide
 unfold step;rw[if_neg (fun e=>hne 47 (by decide) e.1),if_neg (by simp[sF hw]),if_neg (fun e=>by
  rcases e.1 with e|e
  ·exact hne 34 (by decide) e
  ·exact hne 39 (by decide) e),if_neg (fun e=>hne 35 (by decide) e.1),if_neg (fun e=>hne 64 (by decide) e.1),if_neg (by simp[hdig]),if_neg h45,if_pos (iW.2 h)]
theorem oP {c:UInt8}{r:List UInt8}(h:digit c=true):step c r=(some (number false (c::r)).1,(number false (c::r)).2):=by
 have hne:∀ d,digit d=false→c≠d:=fun d hd=>wW h hd
 unfold step;rw[if_neg (fun e=>hne 47 (by decide) e.1),if_neg (by simp[Cr h]),if_neg (fun e=>by
  rcases e.1 with e|e
  ·exact hne 34 (by decide) e
  ·exact hne 39 (by decide) e),if_neg (fun e=>hne 35 (by decide) e.1),if_neg (fun e=>hne 64 (by decide) e.1),if_pos h]
theorem qX {r:List UInt8}(h:digit (at0 r)=true):step 45 r=(some (number true r).1,(number true r).2+1):=by
 unfold step;rw[if_neg (fun e=>absurd e.1 (by decide)),if_neg (by decide),if_neg (by simp),if_neg (by simp),if_neg (by simp),if_neg (by decide),if_pos ⟨rfl,h⟩]
theorem xK (neg:Bool){u:Nat}(hu:u≤999999999){z:List UInt8}(hz:digit (at0 z)=false):number neg (Lib.decDigits u++z)=(⟨5,z.take (unit z),if neg then -(u:Int) else u⟩,(Lib.decDigits u).length+unit z):=by
 have hd:=ot u u (Nat.le_refl _)
 unfold number;rw[so hd hz,List.drop_left,vu hd,SZ u u (Nat.le_refl _) hu,Du hz]
theorem LP {y:List UInt8}(h1:at0 y≠37)(h2:eS y=false):unit y=0:=by rw[unit,if_neg h1,jL h2]
theorem LV {x y:List UInt8}(h:cT x)(hy:within (at0 y)=false):unit (x++y)=x.length:=by
 have:at0 (x++y)≠37:=by
  rw[BC (kH h)];exact zS (ji h.1) (by decide)
 rw[unit,if_neg this,rO h hy]
theorem BM {x:List UInt8}(h:eS x=true):digit (at0 x)=false:=by
 cases x with
 | nil=>rfl
 | cons c r =>
  rcases mw h with hb|⟨rfl,_⟩
  ·exact nU hb
  ·rw[kW];decide
theorem NY {x y:List UInt8}{n:Int}(hx:x=[]∨x=[37]∨cT x)(hs:sep ⟨5,x,n⟩ y):digit (at0 (x++y))=false∧unit (x++y)=x.length:=by
 obtain⟨_,_,h5,_,_⟩:=hs;obtain⟨h6,h7⟩:=h5 rfl;rcases hx with rfl|rfl|hx
 ·obtain⟨a,b,c⟩:=h6 rfl;exact⟨a,LP b c⟩
 ·exact⟨by show digit 37=false;decide,rfl⟩
 ·exact⟨by rw[BC (kH hx)];exact BM hx.1,LV hx (h7 hx)⟩
theorem II (x:List UInt8)(n:Int):oneS ⟨5,x,n⟩=Lib.itoa n++x:=rfl
theorem Ti {x y:List UInt8}{n:Int}(h1 : -999999999≤n)(h2:n≤999999999)(hd:digit (at0 (x++y))=false)(hu:unit (x++y)=x.length):all (Lib.itoa n++(x++y))=⟨5,x,n⟩::all y:=by
 by_cases hn:n<0
 ·have e:Lib.itoa n=45::Lib.decDigits n.natAbs:=by unfold Lib.itoa;rw[if_pos hn]
  have hh:digit (at0 (Lib.decDigits n.natAbs++(x++y)))=true:=by
   rw[BC (Gk _)];cases hl:Lib.decDigits n.natAbs with
   | nil=>exact absurd hl (Gk _)
   | cons c r=>exact ot _ _ (Nat.le_refl _) c (by rw[hl];simp)
  rw[e,List.cons_append,all_cons,qX hh,xK true (by omega) hd,hu]
  simp only[Option.toList_some,List.drop_succ_cons,List.cons_append,List.nil_append,if_true];rw[←List.drop_drop,List.drop_left,List.drop_left,List.take_left];rw[show -((n.natAbs:Nat):Int)=n by omega]
 ·have e:Lib.itoa n=Lib.decDigits n.toNat:=by unfold Lib.itoa;rw[if_neg hn]
  rw[e];cases hl:Lib.decDigits n.toNat with
  | nil=>exact absurd hl (Gk _)
  | cons c r =>
   have hc:digit c=true:=ot _ _ (Nat.le_refl _) c (by rw[hl];simp)
   rw[List.cons_append,all_cons,oP hc,←List.cons_append,←hl,xK false (by omega) hd,hu]
   simp only[Option.toList_some,List.cons_append,List.nil_append,Bool.false_eq_true,if_false];rw[←List.drop_drop,List.drop_left,List.drop_left,List.take_left];rw[show ((n.toNat:Nat):Int)=n by omega]
theorem OW (y:List UInt8):all (47::42::10::42::47::y)=all y:=by
 rw[all_cons];rfl
theorem Mc {q:UInt8}(h:q=34∨q=39)(y:List UInt8):all (q::47::42::10::42::47::y)=⟨7,[q],0⟩::all y:=by
 have hi:inner q (47::42::10::42::47::y)=none:=by rcases h with rfl|rfl<;>rfl
 have e:step q (47::42::10::42::47::y)=(some ⟨7,[q],0⟩,1):=by
  unfold step;rcases h with rfl|rfl<;>(rw[hi];rfl)
 rw[all_cons,e];simp only[Option.toList_some,List.drop_succ_cons,List.drop_zero,List.cons_append,List.nil_append,OW]
theorem FH {c:UInt8}{y:List UInt8}(h1:begins c=false)(h2:digit c=false)(h3:blank c=false)(h34:c≠34)(h39:c≠39)(hs:sep ⟨7,[c],0⟩ y):step c y=(some ⟨7,[c],0⟩,1):=by
 obtain⟨_,_,_,_,h7⟩:=hs;obtain⟨a,b,d,e⟩:=h7 rfl;unfold step;rw[if_neg (fun x=>a (by rw[x.1]) x.2),if_neg (by simp[h3]),if_neg (fun x=>by rcases x.1 with x|x<;>contradiction),
  if_neg (fun x=>by have:=(pp uP).1 x.2;rw[b (by rw[x.1])] at this;cases this),
  if_neg (fun x=>by have:=iW.1 x.2;rw[d (by rw[x.1])] at this;cases this),
  if_neg (by simp[h2]),if_neg (fun x=>by have:=(e (by rw[x.1])).1;rw[x.2] at this;cases this),if_neg]
 intro x;have hn:=iW.1 x
 rcases mw hn with hb|⟨rfl,_⟩
 ·rw[h1] at hb;cases hb
 ·rw[(e rfl).2] at hn;cases hn
theorem zW {c:UInt8}(h34:c≠34)(h39:c≠39):oneS ⟨7,[c],0⟩=[c]:=by simp[oneS,h34,h39]
theorem nQ {t:Tok}{y:List UInt8}(h:Good t)(hs:sep t y):all (oneS t++y)=t::all y:=by
 cases h with
 | ident x hx =>
  have e1:oneS ⟨1,x,0⟩=x:=rfl
  obtain⟨hw,h40⟩:=hs.1 rfl;have hn:=rO hx hw
  have hb:=tH (y:=y) hx.1
  rw[e1];cases x with
  | nil=>exact absurd rfl (kH hx)
  | cons c r =>
   rw[List.cons_append] at hn hb ⊢;rw[all_cons,yT hb,hn,←List.cons_append,List.drop_left,List.take_left,if_neg h40];simp only[Option.toList_some,List.cons_append,List.nil_append];rw[←List.cons_append,List.drop_left]
 | func x hx =>
  have e1:oneS ⟨2,x,0⟩=x++[40]:=rfl
  have hn:=rO (y:=40::y) hx (by rw[kW];decide)
  have hb:=tH (y:=40::y) hx.1
  rw[e1,List.append_assoc,List.cons_append,List.nil_append];cases x with
  | nil=>exact absurd rfl (kH hx)
  | cons c r =>
   rw[List.cons_append] at hn hb ⊢;rw[all_cons,yT hb,hn,←List.cons_append,List.drop_left,List.take_left,if_pos (kW 40 y)];simp only[Option.toList_some,List.cons_append,List.nil_append];rw[←List.cons_append,←List.drop_drop,List.drop_left];rfl
 | word x hx =>
  have e1:oneS ⟨3,x,0⟩=64::x:=rfl
  have hw:=hs.2.1 (.inl rfl)
  have hn:=rO hx hw
  have e:step 64 (x++y)=(some ⟨3,x,0⟩,x.length+1):=by
   unfold step;rw[if_neg (fun e=>absurd e.1 (by decide)),if_neg (by decide),if_neg (by simp),if_neg (by simp),if_pos ⟨rfl,by rw[hn];exact HY hx⟩,hn,List.take_left]
  rw[e1,List.cons_append,all_cons,e];simp only[Option.toList_some,List.drop_succ_cons,List.drop_left,List.cons_append,List.nil_append]
 | hash x hne hx =>
  have e1:oneS ⟨4,x,0⟩=35::x:=rfl
  have hw:=hs.2.1 (.inr rfl)
  have hn:=so hx hw
  have e:step 35 (x++y)=(some ⟨4,x,0⟩,x.length+1):=by
   unfold step;rw[if_neg (fun e=>absurd e.1 (by decide)),if_neg (by decide),if_neg (by simp),if_pos ⟨rfl,by rw[hn];exact List.length_pos_iff.2 hne⟩,hn,List.take_left]
  rw[e1,List.cons_append,all_cons,e];simp only[Option.toList_some,List.drop_succ_cons,List.drop_left,List.cons_append,List.nil_append]
 | num x n h1 h2 hx =>
  obtain⟨hd,hu⟩:=NY hx hs;rw[II,List.append_assoc];exact Ti h1 h2 hd hu
 | str x q hq hx =>
  have e1:oneS ⟨6,x,q.toNat⟩=q::(x++[q]):=by rcases hq with rfl|rfl<;>rfl
  have hi:=zr (y:=y) hx
  have e:step q (x++q::y)=(some ⟨6,x,q.toNat⟩,x.length+2):=by
   unfold step;rw[if_neg (fun e=>by rcases hq with rfl|rfl<;>exact absurd e.1 (by decide)),if_neg (by rcases hq with rfl|rfl<;>decide),if_pos ⟨hq,by rw[hi];rfl⟩,hi]
   simp only[Option.getD_some,List.take_left]
  rw[e1,List.cons_append,List.append_assoc,List.cons_append,List.nil_append,all_cons,e];simp only[Option.toList_some,List.drop_succ_cons,List.cons_append,List.nil_append];rw[←List.drop_drop,List.drop_left];rfl
 | delim c h1 h2 h3 =>
  by_cases hq:c=34∨c=39
  ·have e1:oneS ⟨7,[c],0⟩=[c,47,42,10,42,47]:=by rcases hq with rfl|rfl<;>rfl
   rw[e1];exact Mc hq y
  ·rw[not_or] at hq;rw[zW hq.1 hq.2,List.cons_append,List.nil_append,all_cons,FH h1 h2 h3 hq.1 hq.2 hs];simp only[Option.toList_some,List.drop_succ_cons,List.drop_zero,List.cons_append,List.nil_append]
 | white =>
  have hw:=hs.2.2.2.1 rfl
  have e1:oneS ⟨8,[10],0⟩=[10]:=rfl
  have hr:run blank (10::y)=1:=by rw[run,if_pos (by decide),El hw]
  have e:step 10 y=(some ⟨8,[10],0⟩,1):=by
   unfold step;rw[if_neg (fun e=>absurd e.1 (by decide)),if_pos (by decide),hr]
  rw[e1,List.cons_append,List.nil_append,all_cons,e];simp only[Option.toList_some,List.drop_succ_cons,List.drop_zero,List.cons_append,List.nil_append]
theorem PC {t:Tok}(h:Good t):all (oneS t)=[t]:=by
 have:=nQ h (Jd t)
 rw[List.append_nil,all_nil] at this
 exact this
theorem qf {t:Tok}:may t=true↔Good t:=by
 unfold may;rw[decide_eq_true_eq];exact⟨fun h=>Qz _ t (by rw[h];simp),PC⟩
end Go.Abs.Tk
