/-
  WHAT THE FUNCTIONS COMPUTE, layer 4, the program's reader of selectors: what comes, tokens, signs, blanks, names, numbers.
  (And 6 texts more.)
-/
import Derived.Lib.Atoi
import Derived.Lib.SlTrimSet
import Derived.Test.YtlomcifkckgneaaGreatDoorRd8
set_option maxHeartbeats 4000000
open Nat (reduceEqDiff reduceAdd reduceLT reduceLeDiff reduceSub reduceMul)
set_option linter.unusedSimpArgs false
set_option linter.unusedVariables false
namespace Go.Abs
open Go Go.Proofs
set_option maxRecDepth 10000
attribute [local go_sem] dP bZ de cB cK dL dh du bo ck ce cE dr ci opd avOf cvOf St.degAt St.put okPV fE okAV eL eP eV dM aP if_true Bool.false_eq_true if_false Option.map_some Option.map_none Option.bind_some Option.bind_none fo fw upd List.toList_toArray cM steal bI mvB fj dK db AV.deg CV.deg AV.gv AV.isIter dG dw cJ List.length_nil List.length_cons List.filterMap_cons List.filterMap_nil beq_iff_eq List.getElem?_cons_zero List.getElem?_cons_succ Option.getD_some fM gJ Bool.false_and Bool.and_false Bool.and_self K_P iJ cI dc bL lend back idx dedup AV.ren CV.ren TV.ren AV.ptrs CV.ptrs dE AV.flat CV.flat cQ cz br dD dY gi cL bf cS bV cu cH bU gS CV.pv? content bT ownT bv reps pvs chunks co leave gj cZ eD cm bB TV.deg TV.av LK CV.plain CV.noBld dR gD bound List.map_cons List.map_nil List.all_cons List.all_nil List.any_cons List.any_nil List.contains_cons List.contains_nil List.elem_cons List.elem_nil List.cons_append List.nil_append List.append_nil List.flatMap_cons List.flatMap_nil List.zip_cons_cons List.zip_nil_left List.zip_nil_right List.take_succ_cons List.take_zero List.take_nil List.drop_succ_cons List.drop_zero List.drop_nil List.isEmpty_nil List.isEmpty_cons Bool.and_true Bool.true_and Bool.or_true Bool.true_or Bool.or_false Bool.false_or Bool.not_true Bool.not_false Nat.add_zero Nat.zero_add Option.isNone_none Option.isNone_some Option.getD_none true_and and_true not_true_eq_false not_false_eq_true decide_true decide_false Nat.le_refl and_self Bool.not_eq_true Nat.sub_self or_true true_or Option.some.injEq List.length_map List.nil_eq and_false false_and AV.live CV.live CV.liveIn gk bu Option.orElse_some Option.orElse_none head bJ bG Int.lt_irrefl List.length_append ite_self fx cF dC cf Key.clash Key.sees Key.writes Nat.lt_irrefl gt_iff_lt dt fB false_or or_false beq_self_eq_true Bool.true_beq Bool.false_beq mX dI aF ko ee fK bh BD cX bK bX bg cV Hj aN cj NH ag bc vG vl fR cy dW DT FX pL
abbrev rdB (l:List Val):List CV:=[.pv (.sl (encL l))]
abbrev ey:CV:=.pv (.ifa 115 [])
def nxCv:List Val→List CV
 | []=>[.pv (.int .i64 0),.pv (.int .i64 0),.pv (.str []),.pv (.int .i64 0),.nils]
 | .mk k t c::_=>kX k t c
theorem xQ:nxCv []=[.pv (.int .i64 0),.pv (.int .i64 0),.pv (.str []),.pv (.int .i64 0),.nils]:=rfl
theorem ii (k:Int)(t:Tok)(c r:List Val):nxCv (.mk k t c::r)=[.pv (.int .i64 k),.pv (.int .i64 t.kind),.pv (.str t.text),.pv (.int .i64 t.n),.pv (.sl (encL c))]:=rfl
theorem fF:den K 40 [B true] []=some (.ret (.tup []) []):=by
 refine ai rfl rfl Tryz.func40 rfl Tryz.ntmps40 ⟨by simp,by simp[LK]⟩ ?_
 have hr:Tryz.f40.results=#[]:=rfl
 simp only[go_sem,reduceLT,reduceEqDiff,Nat.reduceBEq,reduceAdd,aa gY ip,hr]
theorem jk:den K 40 [B false] []=some (.pan ey []):=by
 refine ai rfl rfl Tryz.func40 rfl Tryz.ntmps40 ⟨by simp,by simp[LK]⟩ ?_
 have hr:Tryz.f40.results=#[]:=rfl
 simp only[go_sem,reduceLT,reduceEqDiff,Nat.reduceBEq,reduceAdd,aa gY ip,hr]
theorem iM (l:List Val)(hl:l.length≤100000000):den K 74 [P0] [rdB l]=some (.ret (.agg (nxCv l)) [rdB l]):=by
 have hr:Tryz.f74.results=#[.cell 2 93]:=rfl
 cases l with
 | nil =>
  have q0:(((0:Nat):Int)==0)=true:=rfl
  rw[xQ];simp only[rdB];refine ai rfl rfl Tryz.func74 rfl Tryz.ntmps74 ⟨by simp,by simp[LK]⟩ ?_
  simp only[go_sem,reduceLT,reduceCtorEq,reduceEqDiff,Nat.reduceBEq,reduceAdd,reduceSub,reduceLeDiff,af ak,aa aF bC,hr,aA,q0]
 | cons v r =>
  obtain⟨k,t,c⟩:=v;rw[List.length_cons] at hl;have hn0:(((r.length+1:Nat):Int)==0)=false:=by rw[beq_eq_false_iff_ne];omega
  have hget:=wy k t c r
  rw[ii];simp only[rdB];refine ai rfl rfl Tryz.func74 rfl Tryz.ntmps74 ⟨by simp,by simp[LK]⟩ ?_
  simp only[go_sem,reduceLT,reduceCtorEq,reduceEqDiff,Nat.reduceBEq,reduceAdd,reduceSub,reduceLeDiff,af ak,aa aF bC,aj ak,hr,aA,hn0,hget,le00]
theorem gx (k:Int)(t:Tok)(c r:List Val)(hl:r.length≤90000000):den K 77 [P0] [rdB (.mk k t c::r)]=some (.ret (.agg (nxCv (.mk k t c::r))) [rdB r]):=by
 have hr:Tryz.f77.results=#[.cell 2 93]:=rfl
 have h:=iM (.mk k t c::r) (by rw[List.length_cons];omega)
 rw[ii] at h ⊢;simp only[rdB] at h ⊢;have hlt:decide ((0:Int)<(((r.length+1:Nat)):Int))=true:=decide_eq_true (by omega)
 have hcut:=Fm (.mk k t c) r (r.length+1) rfl
 have hb1:((0:Int)≤1∧(1:Int)≤((r.length+1:Nat):Int))=True:=by rw[eq_iff_iff];simp;omega
 have hlv:=gg (.mk k t c::r)
 refine ai rfl rfl Tryz.func77 rfl Tryz.ntmps77 ⟨by simp,by simp[LK]⟩ ?_
 simp only[go_sem,reduceLT,reduceCtorEq,reduceEqDiff,Nat.reduceBEq,reduceAdd,reduceSub,reduceLeDiff,af ak,fp ak bh,hr,aA,h,hlt,hcut,hb1,hlv]
def tokB (kind:Int):List Val→Bool
 | .mk k t _::_=>(k==1)&&(t.kind==kind)
 | []=>false
theorem lF {kind:Int}{l:List Val}{t:Tok}(h:Sl.tokK kind l=some t):tokB kind l=true∧∃ c r,l=.mk 1 t c::r∧t.kind=kind:=by
 cases l with
 | nil=>cases h
 | cons v r =>
  obtain⟨k,u,c⟩:=v;unfold Sl.tokK at h;simp only at h;split at h
  ·rename_i hh;cases h;obtain⟨rfl,h2⟩:=hh;exact⟨by show (((1:Int)==1)&&(t.kind==kind))=true;rw[h2];simp,c,r,rfl,h2⟩
  ·cases h
theorem eR {kind:Int}{l:List Val}(h:Sl.tokK kind l=none):tokB kind l=false:=by
 cases l with
 | nil=>rfl
 | cons v r =>
  obtain⟨k,u,c⟩:=v;unfold Sl.tokK at h;simp only at h;split at h
  ·cases h
  ·rename_i hh
   show ((k==1)&&(u.kind==kind))=false
   rw[Bool.and_eq_false_iff,beq_eq_false_iff_ne,beq_eq_false_iff_ne];by_cases h1:k=1
   ·exact .inr fun h2=>hh ⟨h1,h2⟩
   ·exact .inl h1
theorem dV (l:List Val)(kind:Int)(hl:l.length≤100000000):den K 71 [P0,I kind] [rdB l]=some (.ret (B (tokB kind l)) [rdB l]):=by
 have hr:Tryz.f71.results=#[.tmp 4]:=rfl
 have h:=iM l hl
 cases l with
 | nil =>
  rw[xQ] at h;have q0:((0:Int)==1)=false:=rfl
  show _=(some (.ret (B false) [rdB []]):Option Res)
  simp only[rdB] at h ⊢;refine ai rfl rfl Tryz.func71 rfl Tryz.ntmps71 ⟨by simp,by simp[LK]⟩ ?_
  simp only[go_sem,reduceLT,reduceCtorEq,reduceEqDiff,Nat.reduceBEq,reduceAdd,hr,h,q0]
 | cons v r =>
  obtain⟨k,t,c⟩:=v;rw[ii] at h
  show _=(some (.ret (B ((k==1)&&(t.kind==kind))) [rdB (.mk k t c::r)]):Option Res)
  simp only[rdB] at h ⊢;cases e1:(k==1)
  ·refine ai rfl rfl Tryz.func71 rfl Tryz.ntmps71 ⟨by simp,by simp[LK]⟩ ?_
   simp only[go_sem,reduceLT,reduceCtorEq,reduceEqDiff,Nat.reduceBEq,reduceAdd,hr,h,e1]
  ·refine ai rfl rfl Tryz.func71 rfl Tryz.ntmps71 ⟨by simp,by simp[LK]⟩ ?_
   simp only[go_sem,reduceLT,reduceCtorEq,reduceEqDiff,Nat.reduceBEq,reduceAdd,reduceLeDiff,hr,h,e1]
abbrev ixtH (l:List (List UInt8))(s:List UInt8)(i:Nat):St :=
  { sl:=upd (upd (upd (upd bot 8 (I i)) 7 (I l.length)) 1 (T s)) 0 (L (encT l)),bx:=nobox,nt:=19 }
noncomputable def ixtlp:Code:=.loop (ap Tryz.f151 2)
theorem Ee (l:List (List UInt8))(s:List UInt8)(hl:l.length≤1000000000):∀ (rest:List (List UInt8)) (i:Nat),l.drop i=rest→i≤l.length →
  Ends (exL K 151 ixtlp (ixtH l s i)) fun o S=>match rest.findIdx? (s == ·) with
   | none=>o=.exit 0∧S.nt=19
   | some j=>o=.ret∧S.sl 4=I ((i+j:Nat):Int)
 | [],i,hd,hi=>by
  have hin:i=l.length:=by
   have:=List.drop_eq_nil_iff.1 hd
   omega
  subst hin;have hlt:decide ((l.length:Int)<(l.length:Int))=false:=decide_eq_false (by omega)
  unfold ixtlp
  conv in ap _ _=>whnf
  rw[aq];simp only[go_sem,reduceLT,reduceCtorEq,reduceEqDiff,Nat.reduceBEq,aw,List.findIdx?_nil]
 | x::rest,i,hd,hi=>by
  obtain⟨g1,g2,g3⟩:=bH hd;have hlt:decide ((i:Int)<(l.length:Int))=true:=decide_eq_true (by omega)
  have hget:=UO l i x g1
  have ih:=Ee l s hl rest (i+1) g2 (by omega)
  have hws:IntKind.i64.wrap ((i:Int)+1)=((i+1:Nat):Int):=aX i (by omega)
  unfold ixtlp at ih ⊢
  conv at ih in ap _ _=>whnf
  rw[List.findIdx?_cons]
  conv in ap _ _=>whnf
  rw[aq];cases hv:(s==x)
  ·rw[if_neg (by simp)]
   simp only[go_sem,reduceLT,reduceCtorEq,reduceEqDiff,Nat.reduceBEq,reduceAdd,aj aK,hlt,hget,Int.natCast_nonneg,hv,hws];rw[au];simp only[go_sem,reduceCtorEq,reduceEqDiff];refine aW ih fun o S q => ?_
   cases hf:rest.findIdx? (s == ·) with
   | none=>rw[hf] at q;exact q
   | some j =>
    rw[hf] at q
    refine⟨q.1,q.2.trans ?_⟩
    rw[show i+1+j=i+(j+1) by omega]
  ·rw[if_pos rfl];simp only[go_sem,reduceLT,reduceCtorEq,reduceEqDiff,Nat.reduceBEq,reduceAdd,aj aK,hlt,hget,Int.natCast_nonneg,hv,aw,Nat.add_zero]
theorem Ef (l:List (List UInt8))(s:List UInt8)(hl:l.length≤1000000000) :
  den K 151 [L (encT l),T s] []=some (.ret (I (ixI (l.findIdx? (s == ·)))) []):=by
 have hr:Tryz.f151.results=#[.tmp 4]:=rfl
 have h:=Ee l s hl l 0 rfl (Nat.zero_le _)
 unfold ixtlp at h
 conv at h in ap _ _=>whnf
 obtain⟨o,S',w,hq⟩:=h;have z0:((0:Nat):Int)=0:=rfl
 simp only[ixtH,z0] at w
 refine ai rfl rfl Tryz.func151 rfl Tryz.ntmps151 ⟨by simp,by simp[LK]⟩ ?_
 cases hf:l.findIdx? (s == ·) with
 | none =>
  rw[hf] at hq;obtain⟨rfl,hn⟩:=hq;unfold ixI;simp only[go_sem,reduceLT,reduceCtorEq,reduceEqDiff,Nat.reduceBEq,reduceAdd,af aK,DN];rw[au];simp only[go_sem,reduceCtorEq,reduceEqDiff];erw [w];simp only[go_sem,reduceLT,Nat.reduceBEq,hr,hn]
 | some j =>
  rw[hf] at hq;obtain⟨rfl,h4⟩:=hq;rw[Nat.zero_add] at h4;unfold ixI;simp only[go_sem,reduceLT,reduceCtorEq,reduceEqDiff,Nat.reduceBEq,reduceAdd,af aK,DN];rw[au];simp only[go_sem,reduceCtorEq,reduceEqDiff];erw [w];simp only[go_sem,hr,h4]
theorem px (l:List (List UInt8))(s:List UInt8)(hl:l.length≤1000000000) :
  den K 106 [L (encT l),T s] []=some (.ret (B (l.any (s == ·))) []):=by
 have hr:Tryz.f106.results=#[.tmp 4]:=rfl
 have h:=Ef l s hl
 rw[←UA];refine ai rfl rfl Tryz.func106 rfl Tryz.ntmps106 ⟨by simp,by simp[LK]⟩ ?_
 simp only[go_sem,reduceLT,reduceCtorEq,reduceEqDiff,Nat.reduceBEq,reduceAdd,hr,h]
def qD (ss:List (List UInt8)):List Val→Option (List UInt8×List Val)
 | .mk k t _::r=>if k=1∧t.kind=7∧t.n=0∧ss.any (t.text == ·)=true then some (t.text,r) else none
 | []=>none
def zg (ss:List (List UInt8))(l:List Val):Option Res:=match qD ss l with
 | some (s,r)=>some (.ret (T s) [rdB r])
 | none=>some (.ret (T []) [rdB l])
theorem oh (l:List Val)(ss:List (List UInt8))(hl:l.length≤90000000)(hs:ss.length≤1000):den K 78 [P0,L (encT ss)] [rdB l]=zg ss l:=by
 have hr:Tryz.f78.results=#[.tmp 4]:=rfl
 have h:=iM l (by omega)
 have ht:=dV l 7 (by omega)
 unfold zg;cases l with
 | nil =>
  rw[xQ] at h;simp only[qD,rdB,tokB] at h ht ⊢;refine ai rfl rfl Tryz.func78 rfl Tryz.ntmps78 ⟨by simp,by simp[LK]⟩ ?_
  simp only[go_sem,reduceLT,reduceCtorEq,reduceEqDiff,Nat.reduceBEq,reduceAdd,reduceSub,reduceLeDiff,hr,h,ht]
 | cons v r =>
  obtain⟨k,t,c⟩:=v;rw[ii] at h;have hk:=gx k t c r (by rw[List.length_cons] at hl;omega)
  have hc:=px ss t.text (by omega)
  rw[ii] at hk;simp only[qD,rdB,tokB] at h ht hk ⊢;cases e1:(k==1)
  ·have n1:k≠1:=by simpa using e1
   rw[if_neg fun h=>n1 h.1]
   refine ai rfl rfl Tryz.func78 rfl Tryz.ntmps78 ⟨by simp,by simp[LK]⟩ ?_
   simp only[go_sem,reduceLT,reduceCtorEq,reduceEqDiff,Nat.reduceBEq,reduceAdd,reduceSub,reduceLeDiff,hr,h,ht,e1]
  ·have n1:k=1:=by simpa using e1
   cases e2:(t.kind==7)
   ·have n2:t.kind≠7:=by simpa using e2
    rw[if_neg fun h=>n2 h.2.1]
    refine ai rfl rfl Tryz.func78 rfl Tryz.ntmps78 ⟨by simp,by simp[LK]⟩ ?_
    simp only[go_sem,reduceLT,reduceCtorEq,reduceEqDiff,Nat.reduceBEq,reduceAdd,reduceSub,reduceLeDiff,hr,h,ht,e1,e2]
   ·have n2:t.kind=7:=by simpa using e2
    cases e3:(t.n==0)
    ·have n3:t.n≠0:=by simpa using e3
     rw[if_neg fun h=>n3 h.2.2.1]
     refine ai rfl rfl Tryz.func78 rfl Tryz.ntmps78 ⟨by simp,by simp[LK]⟩ ?_
     simp only[go_sem,reduceLT,reduceCtorEq,reduceEqDiff,Nat.reduceBEq,reduceAdd,reduceSub,reduceLeDiff,hr,h,ht,e1,e2,e3]
    ·have n3:t.n=0:=by simpa using e3
     cases e4:ss.any (t.text == ·)
     ·rw[if_neg fun h=>absurd h.2.2.2 (by simp)]
      refine ai rfl rfl Tryz.func78 rfl Tryz.ntmps78 ⟨by simp,by simp[LK]⟩ ?_
      simp only[go_sem,reduceLT,reduceCtorEq,reduceEqDiff,Nat.reduceBEq,reduceAdd,reduceSub,reduceLeDiff,hr,h,ht,e1,e2,e3,hc,e4]
     ·rw[if_pos ⟨n1,n2,n3,rfl⟩];refine ai rfl rfl Tryz.func78 rfl Tryz.ntmps78 ⟨by simp,by simp[LK]⟩ ?_
      simp only[go_sem,reduceLT,reduceCtorEq,reduceEqDiff,Nat.reduceBEq,reduceAdd,reduceSub,reduceLeDiff,hr,h,ht,e1,e2,e3,hc,e4,hk]
theorem zU (s:List UInt8)(l:List Val):qD [s] l=(Sl.sign s l).map fun r=>(s,r):=by
 cases l with
 | nil=>rfl
 | cons v r =>
  obtain⟨k,t,c⟩:=v;have hs:Sl.aI s (.mk k t c)=true↔k=1∧t=⟨7,s,0⟩:=by
   show ((k==1)&&decide (t=⟨7,s,0⟩))=true↔_
   simp
  unfold qD Sl.sign;simp only[List.any_cons,List.any_nil,Bool.or_false,beq_iff_eq];by_cases h:k=1∧t.kind=7∧t.n=0∧t.text=s
  ·obtain⟨h1,h2,h3,h4⟩:=h;have e:t=⟨7,s,0⟩:=by cases t;simp_all
   rw[if_pos ⟨h1,h2,h3,h4⟩,if_pos (hs.2 ⟨h1,e⟩),h4];rfl
  ·rw[if_neg h,if_neg fun x=>h (by obtain⟨x1,x2⟩:=hs.1 x;rw[x2];exact⟨x1,rfl,rfl,rfl⟩)]
   rfl
theorem jU {s:List UInt8}{l r:List Val}(hl:l.length≤90000000)(h:Sl.sign s l=some r):den K 78 [P0,L [[.str s]]] [rdB l]=some (.ret (T s) [rdB r]):=by
 have:=oh l [s] hl (by simp)
 unfold zg at this
 rw[zU,h] at this
 exact this
theorem fZ {s:List UInt8}{l:List Val}(hl:l.length≤90000000)(h:Sl.sign s l=none):den K 78 [P0,L [[.str s]]] [rdB l]=some (.ret (T []) [rdB l]):=by
 have:=oh l [s] hl (by simp)
 unfold zg at this
 rw[zU,h] at this
 exact this
theorem wM (v:Val)(r:List Val):tokB 8 (v::r)=Sl.ar v:=by obtain⟨k,t,c⟩:=v;rfl
abbrev FA (l:List Val)(w:Bool):St := { sl:=upd (upd bot 3 (B w)) 0 P0,bx:=upd nobox 100000 (some (rdB l)),nt:=9 }
noncomputable def rdblp:Code:=.loop (ap Tryz.f141 2)
theorem Qd (v:Val)(r:List Val)(w:Bool)(hl:r.length≤80000000)(hb:Sl.ar v=true) :
  exL K 141 rdblp (FA (v::r) w)=exL K 141 rdblp (FA r true):=by
 have ht:=dV (v::r) 8 (by rw[List.length_cons];omega)
 rw[wM,hb] at ht;obtain⟨k,t,c⟩:=v;have hk:=gx k t c r (by omega)
 rw[ii] at hk;simp only[rdB] at ht hk;unfold rdblp
 conv in ap _ _=>whnf
 conv in ap _ _=>whnf
 conv in exL _ _ _ (FA (.mk k t c::r) w)=>rw[aq]
 simp only[go_sem,reduceLT,reduceCtorEq,reduceEqDiff,Nat.reduceBEq,reduceAdd,ht,hk];rw[au];simp only[go_sem,reduceCtorEq,reduceEqDiff]
theorem Iq (l:List Val)(w:Bool)(hl:l.length≤80000000)(hb:tokB 8 l=false) :
  Ends (exL K 141 rdblp (FA l w)) fun o S=>o=.exit 0∧S.nt=9∧S.sl 0=P0∧S.sl 3=B w∧S.bx 100000=some (rdB l):=by
 have ht:=dV l 8 (by omega)
 rw[hb] at ht;simp only[rdB] at ht;unfold rdblp
 conv in ap _ _=>whnf
 rw[aq];simp only[go_sem,reduceLT,reduceCtorEq,reduceEqDiff,Nat.reduceBEq,reduceAdd,ht,aw]
theorem zD:∀ (l:List Val) (w:Bool),l.length≤80000000→Ends (exL K 141 rdblp (FA l w)) fun o S=>o=.exit 0∧S.nt=9∧S.sl 0=P0∧S.sl 3=B (w||decide ((l.dropWhile Sl.ar).length<l.length))∧S.bx 100000=some (rdB (l.dropWhile Sl.ar))
 | [],w,hl=>by
  have:=Iq [] w hl rfl
  simpa using this
 | v::r,w,hl=>by
  rw[List.length_cons] at hl;cases hb:Sl.ar v with
  | true =>
   rw[Qd v r w (by omega) hb,List.dropWhile_cons,if_pos hb]
   have hlen:=(List.dropWhile_sublist Sl.ar (l:=r)).length_le
   have e:decide ((r.dropWhile Sl.ar).length<(v::r).length)=true:=decide_eq_true (by rw[List.length_cons];omega)
   rw[e,Bool.or_true];refine aW (zD r true (by omega)) fun o S q => ?_
   rw[Bool.true_or] at q
   exact q
  | false =>
   rw[List.dropWhile_cons,if_neg (by rw[hb];simp)]
   have:=Iq (v::r) w (by rw[List.length_cons];omega) (by rw[wM,hb])
   simpa using this
theorem oA (l:List Val)(hl:l.length≤80000000):den K 141 [P0] [rdB l]=some (.ret (B (decide ((l.dropWhile Sl.ar).length<l.length))) [rdB (l.dropWhile Sl.ar)]):=by
 have hr:Tryz.f141.results=#[.tmp 2]:=rfl
 have h:=zD l false hl
 rw[Bool.false_or] at h;unfold rdblp at h
 conv at h in ap _ _=>whnf
 obtain⟨o,S,w,rfl,hn,s0,s3,b1⟩:=h;refine ai rfl rfl Tryz.func141 rfl Tryz.ntmps141 ⟨by simp,by simp[LK]⟩ ?_
 simp only[go_sem,reduceLT,Nat.reduceBEq];rw[au];simp only[go_sem,reduceCtorEq,reduceEqDiff];erw [w];simp only[go_sem,reduceLT,reduceEqDiff,Nat.reduceBEq,reduceAdd,hr,hn,s3,b1]
def jw {α:Type}(enc:α→AV)(o:Option (α×List Val))(r:Option Res):Prop:=match o with
 | some (x,m)=>r=some (.ret (enc x) [rdB m])
 | none=>∃ m,r=some (.pan ey [rdB m])
theorem kz (l:List Val)(hl:l.length≤80000000):jw T (Sl.name l) (den K 73 [P0] [rdB l]):=by
 have hr:Tryz.f73.results=#[.tmp 2]:=rfl
 have ht:=dV l 1 (by omega)
 unfold Sl.name;cases hk:Sl.tokK 1 l with
 | none =>
  rw[eR hk] at ht;have hm:=jk
  refine⟨l,?_⟩
  simp only[rdB] at ht ⊢;refine ai rfl rfl Tryz.func73 rfl Tryz.ntmps73 ⟨by simp,by simp[LK]⟩ ?_
  simp only[go_sem,reduceLT,reduceCtorEq,reduceEqDiff,Nat.reduceBEq,hr,ht,hm]
 | some t =>
  obtain⟨e,c,r,rfl,h1⟩:=lF hk;rw[e] at ht;have hm:=fF
  have htk:=gx 1 t c r (by rw[List.length_cons] at hl;omega)
  rw[ii] at htk
  show den K 73 [P0] [rdB (.mk 1 t c::r)]=some (.ret (T t.text) [rdB r])
  simp only[rdB] at ht htk ⊢;refine ai rfl rfl Tryz.func73 rfl Tryz.ntmps73 ⟨by simp,by simp[LK]⟩ ?_
  simp only[go_sem,reduceLT,reduceCtorEq,reduceEqDiff,Nat.reduceBEq,reduceAdd,reduceLeDiff,hr,ht,hm,htk]
theorem zt (l:List Val)(hl:l.length≤80000000):jw I (Sl.numP l) (den K 76 [P0] [rdB l]):=by
 have hr:Tryz.f76.results=#[.tmp 2]:=rfl
 have ht:=dV l 5 (by omega)
 unfold Sl.numP;cases hk:Sl.tokK 5 l with
 | none =>
  rw[eR hk] at ht;have hm:=jk
  refine⟨l,?_⟩
  simp only[rdB] at ht ⊢;refine ai rfl rfl Tryz.func76 rfl Tryz.ntmps76 ⟨by simp,by simp[LK]⟩ ?_
  simp only[go_sem,reduceLT,reduceCtorEq,reduceEqDiff,Nat.reduceBEq,hr,ht,hm]
 | some t =>
  obtain⟨e,c,r,rfl,h1⟩:=lF hk;rw[e] at ht;have hx:=iM (.mk 1 t c::r) (by omega)
  have htk:=gx 1 t c r (by rw[List.length_cons] at hl;omega)
  rw[ii] at htk hx;simp only;by_cases hs:t.text=[]
  ·rw[if_pos hs];have hm:=fF
   have e0:(t.text==[])=true:=by rw[hs];rfl
   show den K 76 [P0] [rdB (.mk 1 t c::r)]=some (.ret (I t.n) [rdB r])
   simp only[rdB] at ht htk hx ⊢;refine ai rfl rfl Tryz.func76 rfl Tryz.ntmps76 ⟨by simp,by simp[LK]⟩ ?_
   simp only[go_sem,reduceLT,reduceCtorEq,reduceEqDiff,Nat.reduceBEq,reduceAdd,reduceLeDiff,hr,ht,hm,hx,htk,e0]
  ·rw[if_neg hs];have hm:=jk
   have e0:(t.text==[])=false:=by rw[beq_eq_false_iff_ne];exact hs
   refine⟨.mk 1 t c::r,?_⟩
   simp only[rdB] at ht htk hx ⊢;refine ai rfl rfl Tryz.func76 rfl Tryz.ntmps76 ⟨by simp,by simp[LK]⟩ ?_
   simp only[go_sem,reduceLT,reduceCtorEq,reduceEqDiff,Nat.reduceBEq,reduceAdd,reduceLeDiff,hr,ht,hm,hx,e0]
end Go.Abs
namespace Go.Abs
namespace Sl
def wE:List UInt8:=[48,49,50,51,52,53,54,55,56,57]
theorem HX (c:UInt8):wE.contains c=Tk.digit c:=by
 have h:∀ n∈List.range 256,wE.contains (UInt8.ofNat n)=Tk.digit (UInt8.ofNat n):=by decide +kernel
 have:=h c.toNat (List.mem_range.2 c.toNat_lt)
 rwa [UInt8.ofNat_toNat] at this
theorem xX {p:UInt8→Bool}{l:List UInt8}:l.dropWhile p=[]↔l.all p=true:=by
 induction l with
 | nil=>simp
 | cons c l ih =>
  rw[List.dropWhile_cons,List.all_cons];split
  ·rename_i h;rw[h,Bool.true_and];exact ih
  ·rename_i h;simp[h]
theorem Cj (s:List UInt8):(Lib.trimS s wE==[])=s.all Tk.digit:=by
 have hf:(fun c=>wE.contains c)=Tk.digit:=funext HX
 unfold Lib.trimS Lib.trimLeftS Lib.trimRightS;rw[hf,Bool.eq_iff_iff,beq_iff_eq,xX,List.all_reverse];constructor
 ·intro h;rw[List.all_eq_true] at h ⊢;have h2:s.reverse.dropWhile Tk.digit=[]:=by
   cases hd:s.reverse.dropWhile Tk.digit with
   | nil=>rfl
   | cons c r =>
    have hc:=h c (by rw[hd];simp)
    have:¬ (Tk.digit c=true):=by
     have:=List.head?_dropWhile_not Tk.digit s.reverse
     rw[hd] at this
     simpa using this
    exact absurd hc this
  rw[xX,List.all_reverse,List.all_eq_true] at h2;exact h2
 ·intro h;have:s.reverse.dropWhile Tk.digit=[]:=by rw[xX,List.all_reverse];exact h
  rw[this];rfl
theorem nJ:∀ (s:List UInt8) (n:Nat),s.all Tk.digit=true→∃ m:Nat,Lib.decFrom n s=some m∧(m:Int)=s.foldl (fun n c=>10*n+((c.toNat:Int) - 48)) (n:Int)
 | [],n,_=>⟨n,rfl,rfl⟩
 | c::s,n,h=>by
  rw[List.all_cons,Bool.and_eq_true] at h;obtain⟨h1,h2⟩:=h;have hc:48≤c.toNat∧c.toNat≤57:=of_decide_eq_true h1
  have hd:Lib.digitVal c=some (c.toNat - 48):=if_pos hc
  obtain⟨m,e1,e2⟩:=nJ s (n*10+(c.toNat - 48)) h2;refine⟨m,?_,?_⟩
  ·unfold Lib.decFrom;rw[hd];exact e1
  ·rw[e2,List.foldl_cons]
   congr 1
   omega
theorem Ck {s:List UInt8}(h:s.all Tk.digit=true)(h1:1≤s.length)(h4:s.length≤4):Lib.atoi s=some (digits s):=by
 obtain⟨m,e1,e2⟩:=nJ s 0 h;have hd:digits s=(m:Int):=by
  unfold digits;rw[if_neg (by omega),if_pos h,e2]
  rfl
 rw[hd];cases s with
 | nil=>simp at h1
 | cons c r =>
  rw[List.all_cons,Bool.and_eq_true] at h;have hc:48≤c.toNat∧c.toNat≤57:=of_decide_eq_true h.1
  have n1:(c==45)=false:=by
   rw[beq_eq_false_iff_ne];rintro rfl;exact absurd hc.1 (by decide)
  have n2:(c==43)=false:=by
   rw[beq_eq_false_iff_ne];rintro rfl;exact absurd hc.1 (by decide)
  unfold Lib.atoi;simp only[n1,n2,Bool.false_eq_true,if_false];unfold Lib.decNat;rw[List.isEmpty_cons,if_neg (by simp),e1]
  rfl
theorem DY {s:List UInt8}(h:¬ (s.all Tk.digit=true∧1≤s.length∧s.length≤4)):digits s = -1:=by
 unfold digits;split
 ·rfl
 ·split
  ·rename_i h1 h2;exact absurd ⟨h2,by omega,by omega⟩ h
  ·rfl
theorem Ek {s:List UInt8}(h:s.all Tk.digit=true∧1≤s.length∧s.length≤4):0≤digits s:=by
 obtain⟨m,e1,e2⟩:=nJ s 0 h.1;have hd:digits s=(m:Int):=by
  unfold digits;rw[if_neg (by omega),if_pos h.1,e2]
  rfl
 omega
theorem HE {s:List UInt8}:digits s≤9999:=by
 unfold digits;split
 ·omega
 ·rename_i h0;split
  ·rename_i h1;have key:∀ (r:List UInt8) (n k:Int),r.all Tk.digit=true→n≤k→r.foldl (fun n c=>10*n+((c.toNat:Int) - 48)) n≤k*10 ^ r.length+(10 ^ r.length - 1):=by
    intro r
    induction r with
    | nil=>intro n k _ h;simp;omega
    | cons c r ih =>
     intro n k h hk;rw[List.all_cons,Bool.and_eq_true] at h;have hc:48≤c.toNat∧c.toNat≤57:=of_decide_eq_true h.1
     rw[List.foldl_cons];refine Int.le_trans (ih _ (10*k+9) h.2 (by omega)) ?_
     rw[List.length_cons,Int.pow_succ];have:(10*k+9)*10 ^ r.length=k*(10 ^ r.length*10)+9*10 ^ r.length:=by
      rw[Int.add_mul];congr 1;rw[Int.mul_comm 10 k,Int.mul_assoc,Int.mul_comm 10]
     omega
   have h2:=key s 0 0 h1 (Int.le_refl _)
   have h3:(10:Int) ^ s.length≤10000:=by
    have:s.length≤4:=by omega
    match s.length,this with
    | 0,_=>decide
    | 1,_=>decide
    | 2,_=>decide
    | 3,_=>decide
    | 4,_=>decide
   omega
  ·omega
def yK (s:List UInt8):List Val→Option Sim
 | [.mk k u _]=>if k=1∧(u.kind=1∨u.kind=6) then some (.mk 6 s u.text 0 0 []) else none
 | _=>none
def Ra (m:List Val):Option Sim:=match name m with
 | none=>none
 | some (s,r)=>match sign [61] r with
  | some r2=>yK s r2
  | none=>if r=[] then some (.mk 5 s [] 0 0 []) else none
theorem Hx (l:List Val):attr l=Ra (l.filter fun v => !ar v):=by
 unfold attr Ra;generalize (l.filter fun v => !ar v)=m
 match m with
 | []=>rfl
 | [.mk k t c] =>
  unfold name tokK;simp only;by_cases h:k=1∧t.kind=1
  ·rw[if_pos h,if_pos h];rfl
  ·rw[if_neg h,if_neg h];rfl
 | [.mk k t c,e] =>
  unfold name tokK;simp only;by_cases h:k=1∧t.kind=1
  ·rw[if_pos h];simp only[Option.map_some,List.tail_cons,sign];cases aI [61] e<;>simp[yK]
  ·rw[if_neg h];rfl
 | [.mk k t c,e,.mk k' u c'] =>
  unfold name tokK;simp only;by_cases h:k=1∧t.kind=1
  ·rw[if_pos h];simp only[Option.map_some,List.tail_cons,sign];cases hs:aI [61] e
   ·simp
   ·simp only[if_true,yK];by_cases h2:k'=1∧(u.kind=1∨u.kind=6)
    ·rw[if_pos h2,if_pos ⟨h.1,h.2,(by first|rfl|trivial),h2.1,h2.2⟩]
    ·rw[if_neg h2,if_neg fun x=>h2 ⟨x.2.2.2.1,x.2.2.2.2⟩]
  ·rw[if_neg h,if_neg fun x=>h ⟨x.1,x.2.1⟩];rfl
 | .mk k t c::e::w::z::m =>
  unfold name tokK;simp only;by_cases h:k=1∧t.kind=1
  ·rw[if_pos h];simp only[Option.map_some,List.tail_cons,sign];cases aI [61] e<;>simp[yK]
  ·rw[if_neg h];rfl
end Sl
end Go.Abs
namespace Go.Abs
open Go Go.Proofs
set_option maxRecDepth 10000
attribute [local go_sem] dP bZ de cB cK dL dh du bo ck ce cE dr ci opd avOf cvOf St.degAt St.put okPV fE okAV eL eP eV dM aP if_true Bool.false_eq_true if_false Option.map_some Option.map_none Option.bind_some Option.bind_none fo fw upd List.toList_toArray cM steal bI mvB fj dK db AV.deg CV.deg AV.gv AV.isIter dG dw cJ List.length_nil List.length_cons List.filterMap_cons List.filterMap_nil beq_iff_eq List.getElem?_cons_zero List.getElem?_cons_succ Option.getD_some fM gJ Bool.false_and Bool.and_false Bool.and_self K_P iJ cI dc bL lend back idx dedup AV.ren CV.ren TV.ren AV.ptrs CV.ptrs dE AV.flat CV.flat cQ cz br dD dY gi cL bf cS bV cu cH bU gS CV.pv? content bT ownT bv reps pvs chunks co leave gj cZ eD cm bB TV.deg TV.av LK CV.plain CV.noBld dR gD bound List.map_cons List.map_nil List.all_cons List.all_nil List.any_cons List.any_nil List.contains_cons List.contains_nil List.elem_cons List.elem_nil List.cons_append List.nil_append List.append_nil List.flatMap_cons List.flatMap_nil List.zip_cons_cons List.zip_nil_left List.zip_nil_right List.take_succ_cons List.take_zero List.take_nil List.drop_succ_cons List.drop_zero List.drop_nil List.isEmpty_nil List.isEmpty_cons Bool.and_true Bool.true_and Bool.or_true Bool.true_or Bool.or_false Bool.false_or Bool.not_true Bool.not_false Nat.add_zero Nat.zero_add Option.isNone_none Option.isNone_some Option.getD_none true_and and_true not_true_eq_false not_false_eq_true decide_true decide_false Nat.le_refl and_self Bool.not_eq_true Nat.sub_self or_true true_or Option.some.injEq List.length_map List.nil_eq and_false false_and AV.live CV.live CV.liveIn gk bu Option.orElse_some Option.orElse_none head bJ bG Int.lt_irrefl List.length_append ite_self fx cF dC cf Key.clash Key.sees Key.writes Nat.lt_irrefl gt_iff_lt dt fB false_or or_false beq_self_eq_true Bool.true_beq Bool.false_beq bg ag gp cy bK iA ee fK bh bX bc cX cV dI Jl wX iy lH dW aN cj aF Hv
abbrev QE (t:Tok):List CV:=[.pv (.int .i64 t.kind),.pv (.str t.text),.pv (.int .i64 t.n)]
def rl (w:Option Nat)(l:List Val):CV:=match w with|none=>.pv (.sl (encL l))|some e=>.own e (encL l)
theorem lu (l:List Val):rl none l=.pv (.sl (encL l)):=rfl
theorem gF (e:Nat)(l:List Val):rl (some e) l=.own e (encL l):=rfl
abbrev rb (w:Option Nat)(l:List Val)(i:Nat)(bad:Bool):List CV:=[rl w l,.pv (.int .i64 i),.pv (.bool bad)]
abbrev rb0 (l:List Val)(i:Nat)(bad:Bool):List CV:=[.pv (.sl (encL l)),.pv (.int .i64 i),.pv (.bool bad)]
theorem js {l:List Val}{i:Nat}{v:Val}{r:List Val}(h:l.drop i=v::r):l[i]? = some v∧l.drop (i+1)=r∧i<l.length:=bH h
def tk0 (kind:Int)(l:List Val):Tok:=(Sl.tokK kind l).getD Ne.tok0
theorem nY {kind k:Int}{t:Tok}{c r:List Val}(h:¬(k=1∧t.kind=kind)):tk0 kind (Val.mk k t c::r)=Ne.tok0:=by
 have:Sl.tokK kind (Val.mk k t c::r)=none:=if_neg h
 unfold tk0;rw[this];rfl
theorem pO {kind k:Int}{t:Tok}{c r:List Val}(h:k=1∧t.kind=kind):tk0 kind (Val.mk k t c::r)=t:=by
 have:Sl.tokK kind (Val.mk k t c::r)=some t:=if_pos h
 unfold tk0;rw[this];rfl
theorem Bg (w:Option Nat)(l:List Val)(i:Nat)(bad:Bool)(kind:Int)(hl:l.length≤100000000) :
  den K 100 [P0,I kind] [rb w l i bad]=some (.ret (.agg (QE (tk0 kind (l.drop i)))) [rb w l i bad]):=by
 have hr:Tryz.f100.results=#[.cell 4 91]:=rfl
 cases hd:l.drop i with
 | nil =>
  have hle:l.length≤i:=List.drop_eq_nil_iff.1 hd
  have hlt:decide ((i:Int)<(l.length:Int))=false:=decide_eq_false (by omega)
  have hv:tk0 kind []=Ne.tok0:=rfl
  rw[hv];cases w
  all_goals
   simp only[rb,lu,gF];refine ai rfl rfl Tryz.func100 rfl Tryz.ntmps100 ⟨by simp,by simp[LK]⟩ ?_
   simp only[go_sem,reduceLT,reduceCtorEq,reduceEqDiff,Nat.reduceBEq,reduceAdd,reduceSub,reduceLeDiff,af ak,aj ak,aa ag al,hr,hlt,aA,Ne.tok0]
 | cons v r =>
  obtain⟨k,t,c⟩:=v;obtain⟨g1,g2,g3⟩:=js hd;have hlt:decide ((i:Int)<(l.length:Int))=true:=decide_eq_true (by omega)
  have hget:=gR l i k t c g1
  cases e1:(k==1)
  ·have hv:tk0 kind (Val.mk k t c::r)=Ne.tok0:=by
    have:k≠1:=by simpa using e1
    exact nY fun h=>this h.1
   rw[hv];cases w
   all_goals
    simp only[rb,lu,gF];refine ai rfl rfl Tryz.func100 rfl Tryz.ntmps100 ⟨by simp,by simp[LK]⟩ ?_
    simp only[go_sem,reduceLT,reduceCtorEq,reduceEqDiff,Nat.reduceBEq,reduceAdd,reduceSub,reduceLeDiff,af ak,aj ak,aa ag al,hr,hlt,hget,Int.natCast_nonneg,e1,aA,Ne.tok0]
  ·cases e2:(t.kind==kind)
   ·have hv:tk0 kind (Val.mk k t c::r)=Ne.tok0:=by
     have:t.kind≠kind:=by simpa using e2
     exact nY fun h=>this h.2
    rw[hv];cases w
    all_goals
     simp only[rb,lu,gF];refine ai rfl rfl Tryz.func100 rfl Tryz.ntmps100 ⟨by simp,by simp[LK]⟩ ?_
     simp only[go_sem,reduceLT,reduceCtorEq,reduceEqDiff,Nat.reduceBEq,reduceAdd,reduceSub,reduceLeDiff,af ak,aj ak,aa ag al,hr,hlt,hget,Int.natCast_nonneg,e1,e2,aA,Ne.tok0]
   ·have hv:tk0 kind (Val.mk k t c::r)=t:=by
     have h1:k=1:=by simpa using e1
     have h2:t.kind=kind:=by simpa using e2
     exact pO ⟨h1,h2⟩
    rw[hv];cases w
    all_goals
     simp only[rb,lu,gF];refine ai rfl rfl Tryz.func100 rfl Tryz.ntmps100 ⟨by simp,by simp[LK]⟩ ?_
     simp only[go_sem,reduceLT,reduceCtorEq,reduceEqDiff,Nat.reduceBEq,reduceAdd,reduceSub,reduceLeDiff,af ak,aj ak,hr,hlt,hget,Int.natCast_nonneg,e1,e2,aA]
theorem wu (w:Option Nat)(l:List Val)(i:Nat)(bad:Bool)(s:List UInt8)(hl:l.length≤100000000)(r:List Val)(h:Sl.sign s (l.drop i)=some r) :
  den K 102 [P0,T s] [rb w l i bad]=some (.ret (B true) [rb w l (i+1) bad])∧l.drop (i+1)=r∧i<l.length:=by
 have hr:Tryz.f102.results=#[.tmp 4]:=rfl
 cases hd:l.drop i with
 | nil=>rw[hd] at h;cases h
 | cons v r' =>
  rw[hd] at h;obtain⟨k,t,c⟩:=v;obtain⟨g1,g2,g3⟩:=js hd;have hb:Sl.aI s (Val.mk k t c)=true:=by
   cases hb:Sl.aI s (Val.mk k t c) with
   | true=>rfl
   | false=>unfold Sl.sign at h;simp only at h;rw[hb,if_neg (by simp)] at h;cases h
  have hrr:r'=r:=by unfold Sl.sign at h;simp only at h;rw[hb,if_pos rfl] at h;cases h;rfl
  refine⟨?_,by rw[g2,hrr],g3⟩
  have hlt:decide ((i:Int)<(l.length:Int))=true:=decide_eq_true (by omega)
  have hget:=gR l i k t c g1
  have hw:IntKind.i64.wrap ((i:Int)+1)=((i+1:Nat):Int):=aX i (by omega)
  have hs:=jg k t c s
  rw[hb] at hs;cases w
  all_goals
   simp only[rb,lu,gF];refine ai rfl rfl Tryz.func102 rfl Tryz.ntmps102 ⟨by simp,by simp[LK]⟩ ?_
   simp only[go_sem,reduceLT,reduceCtorEq,reduceEqDiff,Nat.reduceBEq,reduceAdd,reduceLeDiff,af ak,aj ak,hr,hlt,hget,Int.natCast_nonneg,aA,hs,hw]
theorem om (w:Option Nat)(l:List Val)(i:Nat)(bad:Bool)(s:List UInt8)(hl:l.length≤100000000)(h:Sl.sign s (l.drop i)=none) :
  den K 102 [P0,T s] [rb w l i bad]=some (.ret (B false) [rb w l i bad]):=by
 have hr:Tryz.f102.results=#[.tmp 4]:=rfl
 cases hd:l.drop i with
 | nil =>
  have hle:l.length≤i:=List.drop_eq_nil_iff.1 hd
  have hlt:decide ((i:Int)<(l.length:Int))=false:=decide_eq_false (by omega)
  cases w
  all_goals
   simp only[rb,lu,gF];refine ai rfl rfl Tryz.func102 rfl Tryz.ntmps102 ⟨by simp,by simp[LK]⟩ ?_
   simp only[go_sem,reduceLT,reduceCtorEq,reduceEqDiff,Nat.reduceBEq,reduceAdd,reduceLeDiff,af ak,hr,hlt,aA]
 | cons v r' =>
  rw[hd] at h;obtain⟨k,t,c⟩:=v;obtain⟨g1,g2,g3⟩:=js hd;have hb:Sl.aI s (Val.mk k t c)=false:=by
   cases hb:Sl.aI s (Val.mk k t c) with
   | false=>rfl
   | true=>unfold Sl.sign at h;simp only at h;rw[hb,if_pos rfl] at h;cases h
  have hlt:decide ((i:Int)<(l.length:Int))=true:=decide_eq_true (by omega)
  have hget:=gR l i k t c g1
  have hs:=jg k t c s
  rw[hb] at hs;cases w
  all_goals
   simp only[rb,lu,gF];refine ai rfl rfl Tryz.func102 rfl Tryz.ntmps102 ⟨by simp,by simp[LK]⟩ ?_
   simp only[go_sem,reduceLT,reduceCtorEq,reduceEqDiff,Nat.reduceBEq,reduceAdd,reduceLeDiff,af ak,aj ak,hr,hlt,hget,Int.natCast_nonneg,aA,hs]
theorem xY {kind:Int}{l:List Val}{t:Tok}(h:Sl.tokK kind l=some t):tk0 kind l=t∧t.kind=kind:=by
 refine⟨by unfold tk0;rw[h];rfl,?_⟩
 cases l with
 | nil=>cases h
 | cons v r =>
  obtain⟨k,u,c⟩:=v;unfold Sl.tokK at h;simp only at h;split at h
  ·rename_i hh;cases h;exact hh.2
  ·cases h
theorem gQ {kind:Int}{l:List Val}(h:Sl.tokK kind l=none):tk0 kind l=Ne.tok0:=by unfold tk0;rw[h];rfl
theorem IK {kind:Int}{l:List Val}{i:Nat}{t:Tok}(h:Sl.tokK kind (l.drop i)=some t):i<l.length:=by
 cases hd:l.drop i with
 | nil=>rw[hd] at h;cases h
 | cons v r=>exact(js hd).2.2
theorem EN (w:Option Nat)(l:List Val)(i:Nat)(bad:Bool)(hl:l.length≤100000000)(s:List UInt8)(r:List Val)(h:Sl.name (l.drop i)=some (s,r)) :
  den K 96 [P0] [rb w l i bad]=some (.ret (T s) [rb w l (i+1) bad])∧l.drop (i+1)=r∧i<l.length:=by
 have hr:Tryz.f96.results=#[.tmp 2]:=rfl
 have ht:=Bg w l i bad 1 hl
 unfold Sl.name at h;cases hk:Sl.tokK 1 (l.drop i) with
 | none=>rw[hk] at h;cases h
 | some t =>
  rw[hk] at h;cases h;obtain⟨h1,h2⟩:=xY hk;have hi:=IK hk
  refine⟨?_,by rw[List.tail_drop],hi⟩
  rw[h1] at ht;have hw:IntKind.i64.wrap ((i:Int)+1)=((i+1:Nat):Int):=aX i (by omega)
  have e0:(t.kind==0)=false:=by rw[h2];rfl
  cases w
  all_goals
   simp only[rb,lu,gF] at ht ⊢;refine ai rfl rfl Tryz.func96 rfl Tryz.ntmps96 ⟨by simp,by simp[LK]⟩ ?_
   simp only[go_sem,reduceLT,reduceCtorEq,reduceEqDiff,Nat.reduceBEq,reduceAdd,reduceSub,reduceLeDiff,hr,ht,hw,e0]
theorem AQ (w:Option Nat)(l:List Val)(i:Nat)(bad:Bool)(hl:l.length≤100000000)(h:Sl.name (l.drop i)=none) :
  den K 96 [P0] [rb w l i bad]=some (.ret (T []) [rb w l i true]):=by
 have hr:Tryz.f96.results=#[.tmp 2]:=rfl
 have ht:=Bg w l i bad 1 hl
 unfold Sl.name at h;cases hk:Sl.tokK 1 (l.drop i) with
 | some t=>rw[hk] at h;cases h
 | none =>
  rw[gQ hk] at ht;simp only[Ne.tok0] at ht;cases w
  all_goals
   simp only[rb,lu,gF] at ht ⊢;refine ai rfl rfl Tryz.func96 rfl Tryz.ntmps96 ⟨by simp,by simp[LK]⟩ ?_
   simp only[go_sem,reduceLT,reduceCtorEq,reduceEqDiff,Nat.reduceBEq,reduceAdd,reduceSub,reduceLeDiff,hr,ht]
theorem eG (l:List Val)(i:Nat)(bad:Bool)(kind:Int)(hl:l.length≤100000000) :
  den K 100 [P0,I kind] [rb0 l i bad]=some (.ret (.agg (QE (tk0 kind (l.drop i)))) [rb0 l i bad]):=Bg none l i bad kind hl
theorem iY (l:List Val)(i:Nat)(bad:Bool)(s:List UInt8)(hl:l.length≤100000000)(r:List Val)(h:Sl.sign s (l.drop i)=some r) :
  den K 102 [P0,T s] [rb0 l i bad]=some (.ret (B true) [rb0 l (i+1) bad])∧l.drop (i+1)=r∧i<l.length:=wu none l i bad s hl r h
theorem gf (l:List Val)(i:Nat)(bad:Bool)(s:List UInt8)(hl:l.length≤100000000)(h:Sl.sign s (l.drop i)=none) :
  den K 102 [P0,T s] [rb0 l i bad]=some (.ret (B false) [rb0 l i bad]):=om none l i bad s hl h
theorem pN (l:List Val)(i:Nat)(bad:Bool)(hl:l.length≤100000000)(s:List UInt8)(r:List Val)(h:Sl.name (l.drop i)=some (s,r)) :
  den K 96 [P0] [rb0 l i bad]=some (.ret (T s) [rb0 l (i+1) bad])∧l.drop (i+1)=r∧i<l.length:=EN none l i bad hl s r h
theorem vZ (l:List Val)(i:Nat)(bad:Bool)(hl:l.length≤100000000)(h:Sl.name (l.drop i)=none) :
  den K 96 [P0] [rb0 l i bad]=some (.ret (T []) [rb0 l i true]):=AQ none l i bad hl h
theorem tu (l:List Val)(i:Nat)(bad:Bool)(kind:Int)(hl:l.length≤100000000)(t:Tok)(c r:List Val)(h:Sl.eM kind (l.drop i)=some ((t,c),r)) :
  den K 144 [P0,I kind] [rb0 l i bad]=some (.ret (.agg (kX kind t c)) [rb0 l (i+1) bad])∧l.drop (i+1)=r∧l[i]? = some (.mk kind t c):=by
 have hr:Tryz.f144.results=#[.cell 4 93]:=rfl
 cases hd:l.drop i with
 | nil=>rw[hd] at h;cases h
 | cons v r' =>
  rw[hd] at h;obtain⟨k,t',c'⟩:=v;obtain⟨g1,g2,g3⟩:=js hd;have hk:k=kind∧t'=t∧c'=c∧r'=r:=by
   unfold Sl.eM at h;simp only at h;split at h
   ·rename_i hh;cases h;exact⟨hh,rfl,rfl,rfl⟩
   ·cases h
  obtain⟨rfl,rfl,rfl,rfl⟩:=hk;refine⟨?_,g2,g1⟩
  have hlt:decide ((i:Int)<(l.length:Int))=true:=decide_eq_true (by omega)
  have hget:=gR l i k t' c' g1
  have hw:IntKind.i64.wrap ((i:Int)+1)=((i+1:Nat):Int):=aX i (by omega)
  have hw2:IntKind.i64.wrap (((i+1:Nat):Int) - 1)=(i:Int):=by rw[IntWalk.i64_in _ (by omega)];omega
  refine ai rfl rfl Tryz.func144 rfl Tryz.ntmps144 ⟨by simp,by simp[LK]⟩ ?_
  simp only[go_sem,reduceLT,reduceCtorEq,reduceEqDiff,Nat.reduceBEq,reduceAdd,reduceSub,reduceLeDiff,af ak,aj ak,hr,hlt,hget,Int.natCast_nonneg,aA,hw,hw2]
theorem ED (l:List Val)(i:Nat)(bad:Bool)(kind:Int)(hl:l.length≤100000000)(h:Sl.eM kind (l.drop i)=none) :
  den K 144 [P0,I kind] [rb0 l i bad]=some (.ret (.agg [.pv (.int .i64 0),.pv (.int .i64 0),.pv (.str []),.pv (.int .i64 0),.nils]) [rb0 l i bad]):=by
 have hr:Tryz.f144.results=#[.cell 4 93]:=rfl
 cases hd:l.drop i with
 | nil =>
  have hle:l.length≤i:=List.drop_eq_nil_iff.1 hd
  have hlt:decide ((i:Int)<(l.length:Int))=false:=decide_eq_false (by omega)
  refine ai rfl rfl Tryz.func144 rfl Tryz.ntmps144 ⟨by simp,by simp[LK]⟩ ?_
  simp only[go_sem,reduceLT,reduceCtorEq,reduceEqDiff,Nat.reduceBEq,reduceAdd,reduceSub,reduceLeDiff,af ak,aj ak,aa aF bC,hr,hlt,aA]
 | cons v r' =>
  rw[hd] at h;obtain⟨k,t',c'⟩:=v;obtain⟨g1,g2,g3⟩:=js hd;have hk:(k==kind)=false:=by
   rw[beq_eq_false_iff_ne];intro hh;unfold Sl.eM at h;simp only at h;rw[if_pos hh] at h;cases h
  have hlt:decide ((i:Int)<(l.length:Int))=true:=decide_eq_true (by omega)
  have hget:=gR l i k t' c' g1
  refine ai rfl rfl Tryz.func144 rfl Tryz.ntmps144 ⟨by simp,by simp[LK]⟩ ?_
  simp only[go_sem,reduceLT,reduceCtorEq,reduceEqDiff,Nat.reduceBEq,reduceAdd,reduceSub,reduceLeDiff,af ak,aj ak,aa aF bC,hr,hlt,hget,Int.natCast_nonneg,aA,hk]
theorem mz (l:List Val):(tk0 8 l).kind=8↔∃ v r,l=v::r∧Sl.ar v=true:=by
 cases l with
 | nil=>simp[tk0,Sl.tokK,Ne.tok0]
 | cons v r =>
  obtain⟨k,t,c⟩:=v;constructor
  ·intro h;refine⟨_,_,rfl,?_⟩
   by_cases hh:k=1∧t.kind=8
   ·obtain⟨rfl,h2⟩:=hh;simp[Sl.ar,h2]
   ·rw[nY hh] at h;cases h
  ·rintro ⟨v',r',h,hb⟩
   cases h
   simp[Sl.ar] at hb;rw[pO hb];exact hb.2
abbrev re (l:List Val)(i0 i:Nat)(bad:Bool):St :=
  { sl:=upd (upd bot 3 (I i0)) 0 P0,bx:=upd nobox 100000 (some (rb0 l i bad)),nt:=25 }
noncomputable def bllp:Code:=.loop (ap Tryz.f146 2)
theorem Ig (l:List Val)(i0 i:Nat)(bad:Bool)(hl:l.length≤100000000)(hi:i<l.length)(hb:(tk0 8 (l.drop i)).kind=8) :
  exL K 146 bllp (re l i0 i bad)=exL K 146 bllp (re l i0 (i+1) bad):=by
 have ht:=eG l i bad 8 hl
 have e8:((tk0 8 (l.drop i)).kind==8)=true:=by rw[hb];rfl
 have hw:IntKind.i64.wrap ((i:Int)+1)=((i+1:Nat):Int):=aX i (by omega)
 unfold bllp
 conv in ap _ _=>whnf
 conv in ap _ _=>whnf
 conv in exL _ _ _ (re l i0 i bad)=>rw[aq]
 simp only[go_sem,reduceLT,reduceCtorEq,reduceEqDiff,Nat.reduceBEq,reduceAdd,reduceLeDiff,ht,e8,hw];rw[au];simp only[go_sem,reduceCtorEq,reduceEqDiff]
theorem zf (l:List Val)(i0 i:Nat)(bad:Bool)(hl:l.length≤100000000)(hb:(tk0 8 (l.drop i)).kind≠8) :
  Ends (exL K 146 bllp (re l i0 i bad)) fun o S=>o=.exit 0∧S.nt=25∧S.sl 0=P0∧S.sl 3=I i0∧S.bx 100000=some (rb0 l i bad):=by
 have ht:=eG l i bad 8 hl
 have e8:((tk0 8 (l.drop i)).kind==8)=false:=by rw[beq_eq_false_iff_ne];exact hb
 unfold bllp
 conv in ap _ _=>whnf
 rw[aq];simp only[go_sem,reduceLT,reduceCtorEq,reduceEqDiff,Nat.reduceBEq,reduceAdd,ht,e8,aw]
theorem uL (l:List Val)(i0:Nat)(bad:Bool)(hl:l.length≤100000000):∀ (rest:List Val) (i:Nat),l.drop i=rest→i≤l.length →
  Ends (exL K 146 bllp (re l i0 i bad)) fun o S=>o=.exit 0∧S.nt=25∧∃ j:Nat,l.drop j=rest.dropWhile Sl.ar∧i≤j∧j≤l.length∧S.sl 0=P0∧S.sl 3=I i0∧S.bx 100000=some (rb0 l j bad)
 | [],i,hd,hi=>by
  have hb:(tk0 8 (l.drop i)).kind≠8:=by rw[hd];decide
  refine aW (zf l i0 i bad hl hb) fun o S q=>⟨q.1,q.2.1,i,by rw[hd];rfl,Nat.le_refl _,hi,q.2.2⟩
 | v::rest,i,hd,hi=>by
  obtain⟨g1,g2,g3⟩:=js hd;cases hb:Sl.ar v with
  | true =>
   have h8:(tk0 8 (l.drop i)).kind=8:=by rw[hd];exact(mz _).2 ⟨v,rest,rfl,hb⟩
   rw[Ig l i0 i bad hl g3 h8,List.dropWhile_cons,if_pos hb];refine aW (uL l i0 bad hl rest (i+1) g2 g3) fun o S q => ?_
   obtain⟨q1,q2,j,q3,q4,q5⟩:=q;exact⟨q1,q2,j,q3,by omega,q5⟩
  | false =>
   have h8:(tk0 8 (l.drop i)).kind≠8:=by
    rw[hd];intro h;obtain⟨v',r',h1,h2⟩:=(mz _).1 h;cases h1;rw[hb] at h2;cases h2
   refine aW (zf l i0 i bad hl h8) fun o S q=>⟨q.1,q.2.1,i,?_,Nat.le_refl _,hi,q.2.2⟩
   rw[hd,List.dropWhile_cons,if_neg (by rw[hb];simp)]
theorem ml (l:List Val)(i:Nat)(bad:Bool)(hl:l.length≤100000000)(hi:i≤l.length):∃ (b:Bool) (j:Nat),l.drop j=(l.drop i).dropWhile Sl.ar∧i≤j∧j≤l.length ∧
  den K 146 [P0] [rb0 l i bad]=some (.ret (B b) [rb0 l j bad]):=by
 have h:=uL l i bad hl (l.drop i) i rfl hi
 unfold bllp at h
 conv at h in ap _ _=>whnf
 obtain⟨o,S,w,rfl,hn,j,hj1,hj2,hj3,s0,s3,b1⟩:=h;refine⟨decide ((i:Int)<(j:Int)),j,hj1,hj2,hj3,?_⟩
 refine ai rfl rfl Tryz.func146 rfl Tryz.ntmps146 ⟨by simp,by simp[LK]⟩ ?_
 have hr:Tryz.f146.results=#[.tmp 2]:=rfl
 simp only[go_sem,reduceLT,reduceCtorEq,reduceEqDiff,Nat.reduceBEq,reduceAdd];rw[au];simp only[go_sem,reduceCtorEq,reduceEqDiff];erw [w];simp only[go_sem,reduceLT,reduceEqDiff,Nat.reduceBEq,reduceAdd,hr,hn,s0,s3,b1]
attribute [local go_sem] HA QP sy
theorem aR {α:Type}{ops ops':List Oper}{n j i n' j' i':Nat}{a b:α}(h:(reach ops n j i&&reach ops' n' j' i')=true):(if (reach ops n j i&&reach ops' n' j' i')=true then a else b)=a:=if_pos h
abbrev digH (s:List UInt8)(n:Int)(i:Nat):St :=
  { sl:=upd (upd (upd bot 4 (I i)) 3 (I n)) 0 (T s),bx:=nobox,nt:=38 }
noncomputable def dglp:Code:=.loop (ap Tryz.f101 5)
theorem SK (s:List UInt8)(n:Int)(i:Nat)(hs:s.length≤4)(hn:0≤n∧n≤999)(c:UInt8)(hi:s[i]? = some c)(hd:Tk.digit c=true) :
  exL K 101 dglp (digH s n i)=exL K 101 dglp (digH s (10*n+((c.toNat:Int) - 48)) (i+1)):=by
 have hil:i<s.length:=(List.getElem?_eq_some_iff.1 hi).1
 have hlt:decide ((i:Int)<(s.length:Int))=true:=decide_eq_true (by omega)
 have hget:s[(i:Int).toNat]? = some c:=by rw[Int.toNat_natCast];exact hi
 have hw:IntKind.i64.wrap ((i:Int)+1)=((i+1:Nat):Int):=aX i (by omega)
 unfold Tk.digit at hd;have hd:=of_decide_eq_true hd
 have d1:decide ((c.toNat:Int)<48)=false:=decide_eq_false (by omega)
 have d2:decide ((57:Int)<(c.toNat:Int))=false:=decide_eq_false (by omega)
 have w1:IntKind.i64.wrap (10*n)=10*n:=IntWalk.i64_in _ (by omega)
 have w2:IntKind.i64.wrap (c.toNat:Int)=(c.toNat:Int):=IntWalk.i64_in _ (by omega)
 have w3:IntKind.i64.wrap (10*n+(c.toNat:Int))=10*n+(c.toNat:Int):=IntWalk.i64_in _ (by omega)
 have w4:IntKind.i64.wrap (10*n+(c.toNat:Int) - 48)=10*n+((c.toNat:Int) - 48):=by rw[IntWalk.i64_in _ (by omega)];omega
 unfold dglp
 conv in ap _ _=>whnf
 conv in ap _ _=>whnf
 conv in exL _ _ _ (digH s n i)=>rw[aq]
 simp only[go_sem,reduceLT,reduceCtorEq,reduceEqDiff,Nat.reduceBEq,reduceAdd,aE am,bd am,dS eE cU,hlt,hget,Int.natCast_nonneg,hw,d1,d2,w1,w2,w3,w4];rw[au];simp only[go_sem,reduceCtorEq,reduceEqDiff]
theorem UG (s:List UInt8)(n:Int)(i:Nat)(hs:s.length≤4)(c:UInt8)(hi:s[i]? = some c)(hd:Tk.digit c=false) :
  Ends (exL K 101 dglp (digH s n i)) fun o S=>o=.ret∧S.sl 2=I (-1):=by
 have hil:i<s.length:=(List.getElem?_eq_some_iff.1 hi).1
 have hlt:decide ((i:Int)<(s.length:Int))=true:=decide_eq_true (by omega)
 have hget:s[(i:Int).toNat]? = some c:=by rw[Int.toNat_natCast];exact hi
 unfold Tk.digit at hd;have hd:=of_decide_eq_false hd
 unfold dglp
 conv in ap _ _=>whnf
 rw[aq];cases d1:decide ((c.toNat:Int)<48)
 ·have d2:decide ((57:Int)<(c.toNat:Int))=true:=decide_eq_true (by have:=of_decide_eq_false d1;omega)
  simp only[go_sem,reduceLT,reduceCtorEq,reduceEqDiff,Nat.reduceBEq,reduceAdd,aE am,bd am,hlt,hget,Int.natCast_nonneg,d1,d2,aw]
 ·simp only[go_sem,reduceLT,reduceCtorEq,reduceEqDiff,Nat.reduceBEq,reduceAdd,aE am,bd am,hlt,hget,Int.natCast_nonneg,d1,aw]
theorem Tb (s:List UInt8)(n:Int):Ends (exL K 101 dglp (digH s n s.length)) fun o S=>o=.exit 0∧S.nt=38∧S.sl 3=I n:=by
 unfold dglp
 conv in ap _ _=>whnf
 rw[aq];simp only[go_sem,reduceLT,reduceCtorEq,reduceEqDiff,Nat.reduceBEq,reduceAdd,aE am,aw]
theorem CH (s:List UInt8)(hs:s.length≤4):∀ (rest:List UInt8) (i:Nat) (n:Int),s.drop i=rest→i≤s.length→0≤n→n*(10 ^ rest.length:Int)+(10 ^ rest.length:Int)≤10000 →
  Ends (exL K 101 dglp (digH s n i)) fun o S=>if rest.all Tk.digit then o=.exit 0∧S.nt=38∧S.sl 3=I (rest.foldl (fun n c=>10*n+((c.toNat:Int) - 48)) n) else o=.ret∧S.sl 2=I (-1)
 | [],i,n,hd,hi,h0,h1=>by
  have hin:i=s.length:=by
   have:=List.drop_eq_nil_iff.1 hd
   omega
  subst hin;exact Tb s n
 | c::rest,i,n,hd,hi,h0,h1=>by
  obtain⟨g1,g2,g3⟩:=bH hd;rw[List.length_cons,Int.pow_succ] at h1;have hp:(1:Int)≤10 ^ rest.length:=by
   have:(0:Int)<10 ^ rest.length:=Int.pow_pos (by omega)
   omega
  have h2:n*(10 ^ rest.length*10)=10*n*10 ^ rest.length:=by
   rw[Int.mul_comm (10 ^ rest.length) 10,←Int.mul_assoc,Int.mul_comm n 10]
  rw[h2] at h1;generalize hP:(10:Int) ^ rest.length=P at *
  cases hc:Tk.digit c with
  | true =>
   have hcc:=hc
   unfold Tk.digit at hcc;have hcc:=of_decide_eq_true hcc
   have h3:10*n≤10*n*P:=by
    have:10*n*1≤10*n*P:=Int.mul_le_mul_of_nonneg_left hp (by omega)
    omega
   have h4:(10*n+((c.toNat:Int) - 48))*P≤10*n*P+9*P:=by
    rw[Int.add_mul];have:((c.toNat:Int) - 48)*P≤9*P:=Int.mul_le_mul_of_nonneg_right (by omega) (by omega)
    omega
   rw[SK s n i hs (by omega) c g1 hc]
   have ih:=CH s hs rest (i+1) (10*n+((c.toNat:Int) - 48)) g2 (by omega) (by omega) (by rw[hP];omega)
   rw[List.all_cons,hc,Bool.true_and,List.foldl_cons];exact ih
  | false =>
   refine aW (UG s n i hs c g1 hc) fun o S q => ?_
   rw[List.all_cons,hc,Bool.false_and,if_neg (by simp)]
   exact q
theorem GP (s:List UInt8):den K 101 [T s] []=some (.ret (I (Sl.digits s)) []):=by
 have hr:Tryz.f101.results=#[.tmp 2]:=rfl
 unfold Sl.digits;by_cases h1:s.length<1
 ·have e1:decide ((s.length:Int)<1)=true:=decide_eq_true (by omega)
  rw[if_pos (.inl h1)];refine ai rfl rfl Tryz.func101 rfl Tryz.ntmps101 ⟨by simp,by simp[LK]⟩ ?_
  simp only[go_sem,reduceLT,reduceCtorEq,reduceEqDiff,Nat.reduceBEq,reduceAdd,aE am,hr,e1]
 ·have e1:decide ((s.length:Int)<1)=false:=decide_eq_false (by omega)
  by_cases h2:4<s.length
  ·have e2:decide ((4:Int)<(s.length:Int))=true:=decide_eq_true (by omega)
   rw[if_pos (.inr h2)];refine ai rfl rfl Tryz.func101 rfl Tryz.ntmps101 ⟨by simp,by simp[LK]⟩ ?_
   simp only[go_sem,reduceLT,reduceCtorEq,reduceEqDiff,Nat.reduceBEq,reduceAdd,aE am,hr,e1,e2]
  ·have e2:decide ((4:Int)<(s.length:Int))=false:=decide_eq_false (by omega)
   rw[if_neg (by omega)]
   have hp:(10:Int) ^ s.length≤10000:=by
    have:s.length=1∨s.length=2∨s.length=3∨s.length=4:=by omega
    rcases this with h|h|h|h<;>rw[h]<;>decide
   have h:=CH s (by omega) s 0 0 rfl (Nat.zero_le _) (by omega) (by omega)
   unfold dglp at h
   conv at h in ap _ _=>whnf
   obtain⟨o,S,w,hq⟩:=h;refine ai rfl rfl Tryz.func101 rfl Tryz.ntmps101 ⟨by simp,by simp[LK]⟩ ?_
   simp only[go_sem,reduceLT,reduceCtorEq,reduceEqDiff,Nat.reduceBEq,reduceAdd,aE am,e1,e2];rw[au];simp only[go_sem,reduceCtorEq,reduceEqDiff];erw [w];cases ha:s.all Tk.digit with
   | true =>
    rw[ha,if_pos rfl] at hq;obtain⟨rfl,hn,h3⟩:=hq;simp only[go_sem,reduceLT,reduceEqDiff,Nat.reduceBEq,reduceAdd,hr,hn,h3]
   | false =>
    rw[ha,if_neg (by simp)] at hq
    obtain⟨rfl,h2⟩:=hq;simp only[go_sem,hr,h2]
theorem EB:∀ (s:List UInt8) (n:Int),s.all Tk.digit=true→0≤n→0≤s.foldl (fun n c=>10*n+((c.toNat:Int) - 48)) n∧s.foldl (fun n c=>10*n+((c.toNat:Int) - 48)) n+1≤(n+1)*10 ^ s.length
 | [],n,_,hn=>by simp;omega
 | c::s,n,h,hn=>by
  rw[List.all_cons,Bool.and_eq_true] at h;have hc:=h.1
  unfold Tk.digit at hc;have hc:=of_decide_eq_true hc
  obtain⟨h1,h2⟩:=EB s (10*n+((c.toNat:Int) - 48)) h.2 (by omega)
  refine⟨h1,?_⟩
  rw[List.foldl_cons,List.length_cons,Int.pow_succ];have hp:(0:Int)<10 ^ s.length:=Int.pow_pos (by omega)
  have h3:(10*n+((c.toNat:Int) - 48)+1)*10 ^ s.length≤(10*(n+1))*10 ^ s.length:=Int.mul_le_mul_of_nonneg_right (by omega) (by omega)
  have h4:(n+1)*(10 ^ s.length*10)=(10*(n+1))*10 ^ s.length:=by
   rw[Int.mul_comm (10 ^ s.length) 10,←Int.mul_assoc,Int.mul_comm (n+1) 10]
  omega
theorem FT (s:List UInt8) : -1≤Sl.digits s∧Sl.digits s≤9999:=by
 unfold Sl.digits;split
 ·omega
 ·rename_i h;split
  ·rename_i ha;obtain⟨h1,h2⟩:=EB s 0 ha (by omega)
   have hp:(10:Int) ^ s.length≤10000:=by
    have:s.length=1∨s.length=2∨s.length=3∨s.length=4:=by omega
    rcases this with h|h|h|h<;>rw[h]<;>decide
   omega
  ·omega
theorem uY (n:Int):den K 51 [I n] []=some (.ret (B (decide (Sl.few n))) []):=by
 have hv:decide (Sl.few n)=(decide (-9999≤n)&&decide (n≤9999)):=by
  have e:(decide (-9999≤n)&&decide (n≤9999))=decide (-9999≤n∧n≤9999):=(Bool.decide_and ..).symm
  rw[e];exact decide_eq_decide.2 Iff.rfl
 rw[hv];refine ai rfl rfl Tryz.func51 rfl Tryz.ntmps51 ⟨by simp,by simp[LK]⟩ ?_
 have hr:Tryz.f51.results=#[.tmp 2]:=rfl
 cases e1:decide (-9999≤n)
 ·simp only[go_sem,reduceLT,reduceCtorEq,reduceEqDiff,Nat.reduceBEq,reduceAdd,hr,e1]
 ·simp only[go_sem,reduceLT,reduceCtorEq,reduceEqDiff,Nat.reduceBEq,reduceAdd,hr,e1]
theorem wN (l:List Val)(i:Nat)(bad:Bool)(hl:l.length≤100000000):den K 93 [P0] [rb0 l i bad]=some (.ret (B (Sl.over (l.drop i))) [rb0 l i bad]):=by
 have hr:Tryz.f93.results=#[.tmp 2]:=rfl
 have ht:=eG l i bad 8 hl
 cases hd:l.drop i with
 | nil =>
  have hle:l.length≤i:=List.drop_eq_nil_iff.1 hd
  have hlt:decide ((l.length:Int)≤(i:Int))=true:=decide_eq_true (by omega)
  have hv:Sl.over []=true:=rfl
  rw[hv];refine ai rfl rfl Tryz.func93 rfl Tryz.ntmps93 ⟨by simp,by simp[LK]⟩ ?_
  simp only[go_sem,reduceLT,reduceCtorEq,reduceEqDiff,Nat.reduceBEq,reduceAdd,af ak,hr,hlt,aA]
 | cons v r =>
  obtain⟨g1,g2,g3⟩:=js hd;have hlt:decide ((l.length:Int)≤(i:Int))=false:=decide_eq_false (by omega)
  cases hb:Sl.ar v with
  | true =>
   have h8:(tk0 8 (l.drop i)).kind=8:=by rw[hd];exact(mz _).2 ⟨v,r,rfl,hb⟩
   have e8:((tk0 8 (l.drop i)).kind==8)=true:=by rw[h8];rfl
   have hv:Sl.over (v::r)=true:=by unfold Sl.over;simp[hb]
   rw[hv];refine ai rfl rfl Tryz.func93 rfl Tryz.ntmps93 ⟨by simp,by simp[LK]⟩ ?_
   simp only[go_sem,reduceLT,reduceCtorEq,reduceEqDiff,Nat.reduceBEq,reduceAdd,af ak,hr,hlt,ht,e8,aA];rw[aR]
   rotate_left
   ·kernel_rfl
   simp only[go_sem,reduceLT,reduceEqDiff,Nat.reduceBEq]
  | false =>
   have h8:(tk0 8 (l.drop i)).kind≠8:=by
    rw[hd];intro h;obtain⟨v',r',h1,h2⟩:=(mz _).1 h;cases h1;rw[hb] at h2;cases h2
   have e8:((tk0 8 (l.drop i)).kind==8)=false:=by rw[beq_eq_false_iff_ne];exact h8
   have hv:Sl.over (v::r)=((Sl.aI [62] v||Sl.aI [43] v)||Sl.aI [126] v):=by unfold Sl.over;simp[hb]
   rw[hv];obtain⟨k,t,c⟩:=v;have hget:=gR l i k t c g1
   have s1:=jg k t c [62]
   have s2:=jg k t c [43]
   have s3:=jg k t c [126]
   refine ai rfl rfl Tryz.func93 rfl Tryz.ntmps93 ⟨by simp,by simp[LK]⟩ ?_
   cases e1:Sl.aI [62] (Val.mk k t c)
   ·rw[e1] at s1
    cases e2:Sl.aI [43] (Val.mk k t c)
    ·rw[e2] at s2
     simp only[go_sem,reduceLT,reduceCtorEq,reduceEqDiff,Nat.reduceBEq,reduceAdd,af ak,hr,hlt,ht,e8,aA];rw[aR]
     rotate_left
     ·kernel_rfl
     simp only[go_sem,reduceLT,reduceCtorEq,reduceEqDiff,Nat.reduceBEq,reduceAdd,reduceSub,reduceLeDiff,aj ak,hget,Int.natCast_nonneg];rw[aY]
     rotate_left
     ·kernel_rfl
     simp only[go_sem,reduceLT,reduceEqDiff,Nat.reduceBEq,reduceAdd,reduceSub,reduceLeDiff,s1,s2,s3]
    ·rw[e2] at s2
     simp only[go_sem,reduceLT,reduceCtorEq,reduceEqDiff,Nat.reduceBEq,reduceAdd,af ak,hr,hlt,ht,e8,aA];rw[aR]
     rotate_left
     ·kernel_rfl
     simp only[go_sem,reduceLT,reduceCtorEq,reduceEqDiff,Nat.reduceBEq,reduceAdd,reduceSub,reduceLeDiff,aj ak,hget,Int.natCast_nonneg];rw[aY]
     rotate_left
     ·kernel_rfl
     simp only[go_sem,reduceLT,reduceEqDiff,Nat.reduceBEq,reduceAdd,reduceSub,reduceLeDiff,s1,s2]
   ·rw[e1] at s1
    simp only[go_sem,reduceLT,reduceCtorEq,reduceEqDiff,Nat.reduceBEq,reduceAdd,af ak,hr,hlt,ht,e8,aA];rw[aR]
    rotate_left
    ·kernel_rfl
    simp only[go_sem,reduceLT,reduceCtorEq,reduceEqDiff,Nat.reduceBEq,reduceAdd,reduceSub,reduceLeDiff,aj ak,hget,Int.natCast_nonneg];rw[aY]
    rotate_left
    ·kernel_rfl
    simp only[go_sem,reduceLT,reduceEqDiff,Nat.reduceBEq,reduceAdd,reduceSub,reduceLeDiff,s1]
theorem jJ (l:List Val)(i:Nat)(bad:Bool)(hl:l.length≤100000000)(hi:i≤100000000):den K 94 [P0] [rb0 l i bad]=some (.ret (B (Sl.double (l.drop i))) [rb0 l i bad]):=by
 have hr:Tryz.f94.results=#[.tmp 2]:=rfl
 have hw:IntKind.i64.wrap ((i:Int)+1)=((i+1:Nat):Int):=aX i (by omega)
 by_cases h:i+1<l.length
 ·have hlt:decide (((i+1:Nat):Int)<(l.length:Int))=true:=decide_eq_true (by omega)
  have hd1:l.drop i=l[i]::l[i+1]::l.drop (i+1+1):=by
   rw[List.drop_eq_getElem_cons (by omega:i<l.length),List.drop_eq_getElem_cons h]
  have g1:l[i]? = some l[i]:=List.getElem?_eq_getElem (by omega)
  have g2:l[i+1]? = some l[i+1]:=List.getElem?_eq_getElem h
  rw[hd1];generalize l[i]=v at g1
  generalize l[i+1]=u at g2
  have hv:Sl.double (v::u::l.drop (i+1+1))=(Sl.aI [58] v&&Sl.aI [58] u):=rfl
  rw[hv];obtain⟨k,t,c⟩:=v;obtain⟨k',t',c'⟩:=u;have hget:=gR l i k t c g1
  have hget2:=gR l (i+1) k' t' c' g2
  have s1:=jg k t c [58]
  have s2:=jg k' t' c' [58]
  refine ai rfl rfl Tryz.func94 rfl Tryz.ntmps94 ⟨by simp,by simp[LK]⟩ ?_
  cases e1:Sl.aI [58] (Val.mk k t c)
  ·rw[e1] at s1
   simp only[go_sem,reduceLT,reduceCtorEq,reduceEqDiff,Nat.reduceBEq,reduceAdd,af ak,aj ak,hr,hw,hlt,aA,hget,Int.natCast_nonneg,s1]
  ·rw[e1] at s1
   simp only[go_sem,reduceLT,reduceCtorEq,reduceEqDiff,Nat.reduceBEq,reduceAdd,af ak,aj ak,hr,hw,hlt,aA,hget,hget2,Int.natCast_nonneg,s1,s2]
 ·have hlt:decide (((i+1:Nat):Int)<(l.length:Int))=false:=decide_eq_false (by omega)
  have hv:Sl.double (l.drop i)=false:=by
   have hlen:(l.drop i).length≤1:=by rw[List.length_drop];omega
   cases hd:l.drop i with
   | nil=>rfl
   | cons v r =>
    cases r with
    | nil=>rfl
    | cons u r=>rw[hd] at hlen;simp at hlen
  rw[hv];refine ai rfl rfl Tryz.func94 rfl Tryz.ntmps94 ⟨by simp,by simp[LK]⟩ ?_
  simp only[go_sem,reduceLT,reduceCtorEq,reduceEqDiff,Nat.reduceBEq,reduceAdd,af ak,hr,hw,hlt,aA]
theorem LO (l:List Val)(i:Nat)(bad:Bool)(hl:l.length≤100000000)(hi:i≤l.length):∃ j:Nat,l.drop j=(Sl.comb (l.drop i)).2∧i≤j∧j≤l.length ∧
  den K 97 [P0] [rb0 l i bad]=some (.ret (I (Sl.comb (l.drop i)).1) [rb0 l j bad]):=by
 have hr:Tryz.f97.results=#[.tmp 2]:=rfl
 obtain⟨b,m,m1,m2,m3,hb⟩:=ml l i bad hl hi;unfold Sl.comb;simp only[←m1];cases h1:Sl.sign [62] (l.drop m) with
 | some r =>
  obtain⟨s1,s2,s3⟩:=iY l m bad [62] hl r h1;obtain⟨b',j,j1,j2,j3,hb'⟩:=ml l (m+1) bad hl s3;refine⟨j,by rw[j1,s2],by omega,j3,?_⟩
  refine ai rfl rfl Tryz.func97 rfl Tryz.ntmps97 ⟨by simp,by simp[LK]⟩ ?_
  simp only[go_sem,reduceLT,reduceCtorEq,reduceEqDiff,Nat.reduceBEq,reduceAdd,hr,hb,s1,hb']
 | none =>
  have s1:=gf l m bad [62] hl h1
  cases h2:Sl.sign [43] (l.drop m) with
  | some r =>
   obtain⟨t1,t2,t3⟩:=iY l m bad [43] hl r h2;obtain⟨b',j,j1,j2,j3,hb'⟩:=ml l (m+1) bad hl t3;refine⟨j,by rw[j1,t2],by omega,j3,?_⟩
   refine ai rfl rfl Tryz.func97 rfl Tryz.ntmps97 ⟨by simp,by simp[LK]⟩ ?_
   simp only[go_sem,reduceLT,reduceCtorEq,reduceEqDiff,Nat.reduceBEq,reduceAdd,hr,hb,s1,t1,hb']
  | none =>
   have t1:=gf l m bad [43] hl h2
   cases h3:Sl.sign [126] (l.drop m) with
   | some r =>
    obtain⟨u1,u2,u3⟩:=iY l m bad [126] hl r h3;obtain⟨b',j,j1,j2,j3,hb'⟩:=ml l (m+1) bad hl u3;refine⟨j,by rw[j1,u2],by omega,j3,?_⟩
    refine ai rfl rfl Tryz.func97 rfl Tryz.ntmps97 ⟨by simp,by simp[LK]⟩ ?_
    simp only[go_sem,reduceLT,reduceCtorEq,reduceEqDiff,Nat.reduceBEq,reduceAdd,hr,hb,s1,t1,u1,hb']
   | none =>
    have u1:=gf l m bad [126] hl h3
    obtain⟨b',j,j1,j2,j3,hb'⟩:=ml l m bad hl m3;refine⟨j,j1,by omega,j3,?_⟩
    refine ai rfl rfl Tryz.func97 rfl Tryz.ntmps97 ⟨by simp,by simp[LK]⟩ ?_
    simp only[go_sem,reduceLT,reduceCtorEq,reduceEqDiff,Nat.reduceBEq,reduceAdd,hr,hb,s1,t1,u1,hb']
attribute [local go_sem] AP vR
def Vh:List Sim→CV
 | []=>.nils
 | x::l=>.pv (.sl (Sim.encL (x::l)))
def ff:Sim→List CV
 | .mk k n v a b l=>[.pv (.int .i64 k),.pv (.str n),.pv (.str v),.pv (.int .i64 a),.pv (.int .i64 b),Vh l]
theorem aQ (k:Int)(n v:List UInt8)(a b:Int):ff (.mk k n v a b [])=[.pv (.int .i64 k),.pv (.str n),.pv (.str v),.pv (.int .i64 a),.pv (.int .i64 b),.nils]:=rfl
abbrev noB (l:List Val):List Val:=l.filter fun v => !Sl.ar v
abbrev sN (l:List Val)(i e:Nat)(acc:List Val):St :=
  { sl:=upd (upd (upd (upd bot 5 (I i)) 4 (.c (.loc 9 0))) 2 (.c (.loc 2 0))) 0 (L (encL l)),
    bx:=upd (upd nobox 9 (some [.own e (encL acc),.pv (.int .i64 0),.pv (.bool false)])) 2 (some [.pv (.int .i64 0),.pv (.str []),.pv (.str []),.pv (.int .i64 0),.pv (.int .i64 0),.own 0 []]),nt:=100 }
noncomputable def attlp:Code:=.loop (ap Tryz.f145 3)
theorem FQ:Tryz.prog.underlying 23=some (.slice 93):=(lA ak).1
theorem GB (l:List Val)(i e:Nat)(acc:List Val)(hl:l.length≤100000000)(v:Val)(hi:l[i]? = some v)(hb:Sl.ar v=true) :
  exL K 145 attlp (sN l i e acc)=exL K 145 attlp (sN l (i+1) e acc):=by
 obtain⟨k,t,c⟩:=v;have hil:i<l.length:=(List.getElem?_eq_some_iff.1 hi).1
 have hlt:decide ((i:Int)<(l.length:Int))=true:=decide_eq_true (by omega)
 have hget:=gR l i k t c hi
 have hw:IntKind.i64.wrap ((i:Int)+1)=((i+1:Nat):Int):=aX i (by omega)
 have hd:=iV k t c
 rw[hb] at hd;unfold attlp
 conv in ap _ _=>whnf
 conv in ap _ _=>whnf
 conv in exL _ _ _ (sN l i e acc)=>rw[aq]
 simp only[go_sem,reduceLT,reduceCtorEq,reduceEqDiff,Nat.reduceBEq,reduceAdd,af ak,aj ak,hlt,hget,Int.natCast_nonneg,hw,hd,aA];rw[au];simp only[go_sem,reduceCtorEq,reduceEqDiff,Nat.reduceBEq]
theorem Ll (l:List Val)(i e:Nat)(acc:List Val)(hl:l.length≤100000000)(ha:acc.length≤100000000)(he:e=93∨acc=[])(v:Val)(hi:l[i]? = some v)(hb:Sl.ar v=false) :
  exL K 145 attlp (sN l i e acc)=exL K 145 attlp (sN l (i+1) 93 (acc++[v])):=by
 obtain⟨k,t,c⟩:=v;have hil:i<l.length:=(List.getElem?_eq_some_iff.1 hi).1
 have hlt:decide ((i:Int)<(l.length:Int))=true:=decide_eq_true (by omega)
 have hget:=gR l i k t c hi
 have hw:IntKind.i64.wrap ((i:Int)+1)=((i+1:Nat):Int):=aX i (by omega)
 have hd:=iV k t c
 rw[hb] at hd;have hown:e=93∨(encL acc).isEmpty=true:=by
  rcases he with rfl|rfl
  ·exact .inl rfl
  ·exact .inr rfl
 have hlim:acc.length+1<bS:=by unfold bS;omega
 have hlv:=gg acc
 unfold attlp
 conv in ap _ _=>whnf
 conv in ap _ _=>whnf
 conv in exL _ _ _ (sN l i e acc)=>rw[aq]
 simp only[go_sem,reduceLT,reduceCtorEq,reduceEqDiff,Nat.reduceBEq,reduceAdd,reduceSub,reduceMul,af ak,aj ak,ao (len:=1) ak bh aF ⟨rfl,by decide,by decide⟩,bq cN,aU ak,hlt,hget,Int.natCast_nonneg,hw,hd,aA,OT,kL,me,nC,Eg,ixOf,stOf,ncOf,faOf,qF,rG,FQ,hown,hlim,hlv,jS,pG,NN,Value.oneCell']
 rw[au];simp only[go_sem,reduceCtorEq,reduceEqDiff,Nat.reduceBEq,pG]
end Go.Abs
namespace Go.Abs
namespace Sl
theorem rE {l r:List Val}{s:List UInt8}(h:name l=some (s,r)):∃ v,l=v::r:=by
 obtain⟨t,c,e,_,_⟩:=th h;exact⟨_,e⟩
theorem yo {g:List Val→Option (Sim×List Val)}{l r:List Val}{x:Sim}(h:colon g l=some (x,r)):∃ v,l=v::r:=by
 unfold colon at h;cases hv:eM 5 l with
 | some y =>
  obtain⟨⟨t,c⟩,q⟩:=y;have e:=nP hv
  rw[hv] at h;simp only at h;split at h
  ·rw[Option.map_eq_some_iff] at h;obtain⟨z,_,hz⟩:=h;cases hz;exact⟨_,e⟩
  ·split at h
   ·split at h
    ·split at h
     ·cases h
     ·cases h
      exact⟨_,e⟩
    ·cases h
   ·cases h
 | none =>
  rw[hv] at h;simp only at h;cases hn:name l with
  | some y =>
   obtain⟨s,q⟩:=y;rw[hn] at h;simp only at h;rw[Option.map_eq_some_iff] at h;obtain⟨z,_,hz⟩:=h;cases hz;exact rE hn
  | none=>rw[hn] at h;cases h
theorem xP:∀ (f:Nat) (first:Bool) (l:List Val) (x:Sim) (r:List Val),simple f first l=some (x,r)→r.length<l.length∧∃ p,l=p++r
 | 0,first,l,x,r,h=>by rw[simple] at h;cases h
 | f+1,first,l,x,r,h=>by
  have one:(∃ v,l=v::r)→r.length<l.length∧∃ p,l=p++r:=by
   rintro ⟨v,rfl⟩
   exact⟨by simp,[v],rfl⟩
  have two:(∃ v w,l=v::w::r)→r.length<l.length∧∃ p,l=p++r:=by
   rintro ⟨v,w,rfl⟩
   exact⟨by simp;omega,[v,w],rfl⟩
  have tok:∀ {k:Int} {t:Tok},tokK k l=some t→∃ v,l=v::l.tail:=fun {k t} ht=>by
   obtain⟨c,m,e,_⟩:=wz ht;rw[e];exact⟨_,rfl⟩
  rw[simple] at h;split at h
  ·rename_i t ht;cases h;cases first
   ·cases ht
   ·exact one (tok ht)
  split at h
  ·rename_i q hq;cases h;cases first
   ·cases hq
   ·obtain⟨v,e,_⟩:=qi hq;exact one ⟨v,e⟩
  split at h
  ·rename_i t ht;cases h;exact one (tok ht)
  split at h
  ·rename_i q hq;obtain⟨v,e,_⟩:=qi hq;rw[Option.map_eq_some_iff] at h;obtain⟨⟨s,m⟩,hn,hz⟩:=h;cases hz;obtain⟨w,e2⟩:=rE hn;exact two ⟨v,w,by rw[e,e2]⟩
  split at h
  ·rename_i q hq;obtain⟨v,e,_⟩:=qi hq;obtain⟨w,e2⟩:=yo h;exact two ⟨v,w,by rw[e,e2]⟩
  split at h
  ·rename_i y hy;obtain⟨⟨t,c⟩,q⟩:=y;have e:=nP hy
   rw[Option.map_eq_some_iff] at h;obtain⟨z,_,hz⟩:=h;cases hz;exact one ⟨_,e⟩
  ·cases h
end Sl
end Go.Abs
namespace Go.Abs
namespace Sl
open Tk (cT within)
def pE (s:List UInt8):Bool:=s==oY||(s==ph||(s==mN||s==ld))
def fewB (n:Int):Bool:=decide (-9999≤n)&&decide (n≤9999)
def oneK (k:Int)(n v:List UInt8)(a b:Int):Bool :=
 if k=1∨k=9∨k=10 then n.isEmpty&&(v.isEmpty&&(a==0&&b==0))
 else if k=2 then Tk.may ⟨1,n,0⟩&&(low n==n&&(v.isEmpty&&(a==0&&b==0)))
 else if k=3 then Tk.may ⟨4,n,0⟩&&(v.isEmpty&&(a==0&&b==0))
 else if k=4∨k=5 then Tk.may ⟨1,n,0⟩&&(v.isEmpty&&(a==0&&b==0))
 else if k=6 then Tk.may ⟨1,n,0⟩&&((Tk.may ⟨6,v,34⟩||Tk.may ⟨6,v,39⟩)&&(a==0&&b==0))
 else if k=7 then pE n&&(v.isEmpty&&(a==0&&b==0))
 else if k=8 then n.isEmpty&&(v.isEmpty&&(fewB a&&fewB b))
 else if k=11 then n.isEmpty&&(v.isEmpty&&(a==0&&b==0))
 else false
mutual
def oneB:Sim→Bool
 | .mk k n v a b l=>oneK k n v a b&&(if k=11 then(l.length==1&&oI l) else l.isEmpty)
def oI:List Sim→Bool
 | []=>true
 | x::l=>(x.kind != 11)&&(oneB x&&oI l)
end
def rK (l:List Sim):Bool:=l.all oneB&&(l.tail.all (fun x=>decide (3≤x.kind))&&decide (l.length≤8))
def jr:Bool→List Prt→List UInt8→Bool
 | _,[],_=>true
 | first,p::r,s=>(decide (0≤p.comb)&&(decide (p.comb≤4)&&((p.comb==0)==first)))&&(rK p.l&&(!(p.l.isEmpty&&(!r.isEmpty||s.isEmpty))&&jr false r s))
def qj (s:List UInt8):Bool:=s.isEmpty||(s==eH||s==fJ)
def cpxB (c:Cpx):Bool:=jr true c.parts c.pseudo&&(decide (1≤c.parts.length)&&(decide (c.parts.length≤16)&&qj c.pseudo))
def mayB (l:List Cpx):Bool:=l.all cpxB&&(decide (1≤l.length)&&decide (l.length≤32))
theorem zj (s:List UInt8):pE s=true↔jE s:=by
 unfold pE jE;simp only[Bool.or_eq_true,beq_iff_eq]
theorem vB (n:Int):fewB n=true↔few n:=by
 unfold fewB few;simp only[Bool.and_eq_true,decide_eq_true_eq]
theorem kZ (n:List UInt8):Tk.may ⟨1,n,0⟩=true↔cT n:=by
 rw[Tk.qf];exact⟨fun h=>PY h rfl,fun h=>.ident n h⟩
theorem wa (n:List UInt8):Tk.may ⟨4,n,0⟩=true↔n≠[]∧∀ b∈n,within b=true:=by
 rw[Tk.qf];exact⟨fun h=>Mf h rfl,fun h=>.hash n h.1 h.2⟩
theorem IZ (v:List UInt8)(q:UInt8)(hq:q=34∨q=39):Tk.may ⟨6,v,q.toNat⟩=true↔∀ b∈v,b≠q∧Tk.ending b=false:=by
 rw[Tk.qf];constructor
 ·intro h;generalize ht:(⟨6,v,(q.toNat:Int)⟩:Tok)=t at h;cases h with
  | str x q' hq' hx =>
   have e1:v=x:=congrArg Tok.text ht
   have e2:(q.toNat:Int)=q'.toNat:=congrArg Tok.n ht
   have e3:q=q':=UInt8.toNat_inj.1 (by omega)
   subst e1;subst e3;exact hx
  | _=>first|(have:=congrArg Tok.kind ht;simp at this;done)
 ·intro h;exact .str v q hq h
theorem has34 {v:List UInt8}(h:0≤Lib.indexByte v 34):∃ b∈v,b=34:=by
 obtain⟨o,ho⟩:∃ o:Nat,Lib.indexByte v 34=o:=⟨(Lib.indexByte v 34).toNat,by omega⟩
 exact⟨34,List.mem_of_getElem? (Lib.indexByte_some ho).1,rfl⟩
theorem tF (v:List UInt8):(Tk.may ⟨6,v,34⟩||Tk.may ⟨6,v,39⟩)=true↔(∀ b∈v,Tk.ending b=false)∧(0≤Lib.indexByte v 34→∀ b∈v,b≠39):=by
 rw[Bool.or_eq_true,show (34:Int)=((34:UInt8).toNat:Int) from rfl,show (39:Int)=((39:UInt8).toNat:Int) from rfl,IZ v 34 (.inl rfl),IZ v 39 (.inr rfl)]
 constructor
 ·rintro (h|h)
  ·refine⟨fun b hb=>(h b hb).2,fun h0 => ?_⟩
   obtain⟨b,hb,e⟩:=has34 h0;exact absurd e (h b hb).1
  ·exact⟨fun b hb=>(h b hb).2,fun _ b hb=>(h b hb).1⟩
 ·rintro ⟨h1,h2⟩
  by_cases h0:0≤Lib.indexByte v 34
  ·exact .inr fun b hb=>⟨h2 h0 b hb,h1 b hb⟩
  ·exact .inl fun b hb=>⟨qM h0 b hb,h1 b hb⟩
theorem pQ:∀ x:Sim,oneB x=true↔Gs x
 | .mk k n v a b l=>by
  rw[oneB,Bool.and_eq_true];constructor
  ·rintro ⟨h1,h2⟩
   unfold oneK at h1;split at h1
   ·rename_i hk;simp only[Bool.and_eq_true,List.isEmpty_iff,beq_iff_eq] at h1;obtain⟨rfl,rfl,rfl,rfl⟩:=h1;rw[if_neg (by omega),List.isEmpty_iff] at h2
    subst h2;rcases hk with rfl|rfl|rfl
    ·exact .any
    ·exact .root
    ·exact .empty
   split at h1
   ·rename_i hk;subst hk;simp only[Bool.and_eq_true,List.isEmpty_iff,beq_iff_eq] at h1;obtain⟨h3,h4,rfl,rfl,rfl⟩:=h1;rw[if_neg (by omega),List.isEmpty_iff] at h2
    subst h2;exact .tag n ((kZ n).1 h3) h4
   split at h1
   ·rename_i hk;subst hk;simp only[Bool.and_eq_true,List.isEmpty_iff,beq_iff_eq] at h1;obtain⟨h3,rfl,rfl,rfl⟩:=h1;rw[if_neg (by omega),List.isEmpty_iff] at h2
    subst h2;exact .id n ((wa n).1 h3).1 ((wa n).1 h3).2
   split at h1
   ·rename_i hk;simp only[Bool.and_eq_true,List.isEmpty_iff,beq_iff_eq] at h1;obtain⟨h3,rfl,rfl,rfl⟩:=h1;rw[if_neg (by omega),List.isEmpty_iff] at h2
    subst h2;rcases hk with rfl|rfl
    ·exact .cls n ((kZ n).1 h3)
    ·exact .has n ((kZ n).1 h3)
   split at h1
   ·rename_i hk;subst hk;simp only[Bool.and_eq_true,beq_iff_eq] at h1;obtain⟨h3,h4,rfl,rfl⟩:=h1;rw[if_neg (by omega),List.isEmpty_iff] at h2
    subst h2;exact .is n v ((kZ n).1 h3) ((tF v).1 h4).1 ((tF v).1 h4).2
   split at h1
   ·rename_i hk;subst hk;simp only[Bool.and_eq_true,List.isEmpty_iff,beq_iff_eq] at h1;obtain⟨h3,rfl,rfl,rfl⟩:=h1;rw[if_neg (by omega),List.isEmpty_iff] at h2
    subst h2;exact .state n ((zj n).1 h3)
   split at h1
   ·rename_i hk;subst hk;simp only[Bool.and_eq_true,List.isEmpty_iff] at h1;obtain⟨rfl,rfl,h3,h4⟩:=h1;rw[if_neg (by omega),List.isEmpty_iff] at h2
    subst h2;exact .nth a b ((vB a).1 h3) ((vB b).1 h4)
   split at h1
   ·rename_i hk;subst hk;simp only[Bool.and_eq_true,List.isEmpty_iff,beq_iff_eq] at h1;obtain⟨rfl,rfl,rfl,rfl⟩:=h1;rw[if_pos rfl,Bool.and_eq_true,beq_iff_eq] at h2;obtain⟨h3,h4⟩:=h2
    match l,h3 with
    | [y],_ =>
     rw[oI,oI,Bool.and_true,Bool.and_eq_true,bne_iff_ne] at h4;exact .not y ((pQ y).1 h4.2) h4.1
   ·cases h1
  ·intro h;cases h with
   | any=>exact⟨by decide,by decide⟩
   | tag _ h1 h2=>exact⟨by simp[oneK,(kZ n).2 h1,h2],by decide⟩
   | id _ h1 h2=>exact⟨by simp[oneK,(wa n).2 ⟨h1,h2⟩],by decide⟩
   | cls _ h1=>exact⟨by simp[oneK,(kZ n).2 h1],by decide⟩
   | has _ h1=>exact⟨by simp[oneK,(kZ n).2 h1],by decide⟩
   | is _ _ h1 h2 h3=>exact⟨by
     have:=(tF v).2 ⟨h2,h3⟩
     unfold oneK;simp only[if_neg (show ¬ ((6:Int)=1∨(6:Int)=9∨(6:Int)=10) by omega),if_neg (show ¬ (6:Int)=2 by omega),if_neg (show ¬ (6:Int)=3 by omega),if_neg (show ¬ ((6:Int)=4∨(6:Int)=5) by omega),if_true]
     rw[(kZ n).2 h1,this];rfl,by decide⟩
   | state _ h1=>exact⟨by simp[oneK,(zj n).2 h1],by decide⟩
   | nth _ _ h1 h2=>exact⟨by simp[oneK,(vB a).2 h1,(vB b).2 h2],by decide⟩
   | root=>exact⟨by decide,by decide⟩
   | empty=>exact⟨by decide,by decide⟩
   | not y h1 h2 =>
    refine⟨by decide,?_⟩
    rw[if_pos rfl,oI,oI,(pQ y).2 h1]
    simpa using h2
theorem rg (l:List Sim):rK l=true↔Gp l∧l.length≤8:=by
 unfold rK;rw[Bool.and_eq_true,Bool.and_eq_true,List.all_eq_true,List.all_eq_true,decide_eq_true_eq];cases l with
 | nil=>simp[Gp]
 | cons x r =>
  unfold Gp GsT;simp only[List.tail_cons,decide_eq_true_eq,List.mem_cons];constructor
  ·rintro ⟨h1,h2,h3⟩
   exact⟨⟨(pQ x).1 (h1 x (.inl rfl)),fun y hy=>⟨(pQ y).1 (h1 y (.inr hy)),h2 y hy⟩⟩,h3⟩
  ·rintro ⟨⟨h1,h2⟩,h3⟩
   refine⟨fun y hy => ?_,fun y hy=>(h2 y hy).2,h3⟩
   rcases hy with rfl|hy
   ·exact(pQ y).2 h1
   ·exact(pQ y).2 (h2 y hy).1
theorem xg (s:List UInt8):qj s=true↔s=[]∨(s=eH∨s=fJ):=by
 unfold qj;simp only[Bool.or_eq_true,List.isEmpty_iff,beq_iff_eq]
theorem tL {s:List UInt8}:∀ (ps:List Prt) (n:Nat) (c:Int) (first:Bool),(first=true→c=0)→(first=false→1≤c∧c≤4) →
  ((∃ p r,ps=p::r∧p.comb=c)∧ps.length≤n∧jr first ps s=true∧qj s=true↔Gc n c ps s)
 | [],n,c,first,_,_=>by
  constructor
  ·rintro ⟨⟨p,r,e,_⟩,_⟩;cases e
  ·intro h;cases h
 | p::r,0,c,first,_,_=>by
  constructor
  ·rintro ⟨_,h,_⟩;simp at h
  ·intro h;cases h
 | ⟨d,l⟩::r,n+1,c,first,hf,hn=>by
  rw[jr];have hc:(decide (0≤c)&&(decide (c≤4)&&((c==0)==first)))=true:=by
   cases first with
   | true=>have:=hf rfl;subst this;rfl
   | false =>
    have:=hn rfl
    have:(c==0)=false:=by simp;omega
    rw[this];simp;omega
  constructor
  ·rintro ⟨⟨p,r',e,hd⟩,h1,h2,h3⟩
   cases e
   simp only at hd;subst hd;simp only[Bool.and_eq_true,Bool.not_eq_true'] at h2;obtain⟨_,h4,h5,h6⟩:=h2;obtain⟨g1,g2⟩:=(rg l).1 h4;have hps:=(xg s).1 h3
   cases r with
   | nil =>
    rw[List.isEmpty_nil] at h5;rcases hps with rfl|hps
    ·refine .last g1 (fun e => ?_) g2
     subst e;simp at h5
    ·exact .pse g1 g2 hps
   | cons q r =>
    have hne:l≠[]:=fun e=>by subst e;simp at h5
    have hq:1≤q.comb∧q.comb≤4:=by
     rw[jr] at h6;simp only[Bool.and_eq_true,decide_eq_true_eq] at h6;have h7:=h6.1.2.2
     have h8:(q.comb==0)=false:=by simpa using h7
     have:q.comb≠0:=by simpa using h8
     exact⟨by have:=h6.1.1;omega,h6.1.2.1⟩
    exact .more g1 hne g2 hq ((tL (q::r) n q.comb false (fun e=>by cases e) (fun _=>hq)).1 ⟨⟨q,r,rfl,rfl⟩,by simpa using h1,h6,h3⟩)
  ·intro h;cases h with
   | last g1 g2 g3 =>
    refine⟨⟨_,_,rfl,rfl⟩,by simp,?_,rfl⟩
    have:=(rg l).2 ⟨g1,g3⟩
    simp only;rw[hc,this,jr];cases l with
    | nil=>exact absurd rfl g2
    | cons _ _=>rfl
   | pse g1 g3 hs =>
    refine⟨⟨_,_,rfl,rfl⟩,by simp,?_,(xg s).2 (.inr hs)⟩
    have:=(rg l).2 ⟨g1,g3⟩
    have hsn:s.isEmpty=false:=by
     rcases hs with rfl|rfl
     ·rfl
     ·rfl
    simp only;rw[hc,this,jr,hsn];simp
   | @more _ _ e _ _ _ g1 g2 g3 hd hg =>
    obtain⟨⟨q,r',e1,e2⟩,h2,h3,h4⟩:=(tL r n e false (fun x=>by cases x) (fun _=>hd)).2 hg
    refine⟨⟨_,_,rfl,rfl⟩,by simpa using h2,?_,h4⟩
    have:=(rg l).2 ⟨g1,g3⟩
    simp only;rw[hc,this,h3];cases l with
    | nil=>exact absurd rfl g2
    | cons _ _=>rfl
theorem Ij (c:Cpx):cpxB c=true↔ke c:=by
 unfold cpxB ke;rw[←tL c.parts 16 0 true (fun _=>rfl) (fun e=>by cases e)]
 simp only[Bool.and_eq_true,decide_eq_true_eq];constructor
 ·rintro ⟨h1,h2,h3,h4⟩
  refine⟨?_,h3,h1,h4⟩
  cases hp:c.parts with
  | nil=>rw[hp] at h2;simp at h2
  | cons p r =>
   rw[hp,jr] at h1;simp only[Bool.and_eq_true,beq_iff_eq] at h1;exact⟨p,r,rfl,h1.1.2.2⟩
 ·rintro ⟨⟨p,r,e,_⟩,h3,h1,h4⟩
  exact⟨h1,by rw[e];simp,h3,h4⟩
theorem qf (l:List Cpx):mayB l=true↔Fc l:=by
 unfold mayB Fc;simp only[Bool.and_eq_true,decide_eq_true_eq,List.all_eq_true];constructor
 ·rintro ⟨h1,h2,h3⟩
  exact⟨List.length_pos_iff.1 (by omega),h3,fun c hc=>(Ij c).1 (h1 c hc)⟩
 ·rintro ⟨h1,h2,h3⟩
  have:=List.length_pos_iff.2 h1
  exact⟨fun c hc=>(Ij c).2 (h3 c hc),by omega,h2⟩
end Sl
end Go.Abs
