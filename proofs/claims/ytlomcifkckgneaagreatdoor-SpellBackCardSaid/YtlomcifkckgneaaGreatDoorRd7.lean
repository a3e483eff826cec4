/-
  WHAT THE FUNCTIONS COMPUTE, layer 2: are values the same?
  (And 9 texts more.)
-/
import Derived.Test.YtlomcifkckgneaaGreatDoorRd6
open Nat (reduceEqDiff reduceAdd reduceLT reduceLeDiff reduceSub reduceMul)
set_option linter.unusedSimpArgs false
set_option linter.unusedVariables false
namespace Go.Abs
open Go Go.Proofs
set_option maxRecDepth 10000
attribute [local go_sem] dP bZ de cB cK dL dh du bo ck ce cE dr ci opd avOf cvOf St.degAt St.put okPV fE okAV eL eP eV dM aP if_true Bool.false_eq_true if_false Option.map_some Option.map_none Option.bind_some Option.bind_none fo fw upd List.toList_toArray cM steal bI mvB fj dK db AV.deg CV.deg AV.gv AV.isIter dG dw cJ List.length_nil List.length_cons List.filterMap_cons List.filterMap_nil beq_iff_eq List.getElem?_cons_zero List.getElem?_cons_succ Option.getD_some fM gJ Bool.false_and Bool.and_false Bool.and_self K_P iJ cI dc bL lend back idx dedup AV.ren CV.ren TV.ren AV.ptrs CV.ptrs dE AV.flat CV.flat cQ cz br dD dY gi cL bf cS bV cu cH bU gS CV.pv? content bT ownT bv reps pvs chunks co leave gj cZ eD cm bB TV.deg TV.av LK CV.plain CV.noBld dR gD bound List.map_cons List.map_nil List.all_cons List.all_nil List.any_cons List.any_nil List.contains_cons List.contains_nil List.elem_cons List.elem_nil List.cons_append List.nil_append List.append_nil List.flatMap_cons List.flatMap_nil List.zip_cons_cons List.zip_nil_left List.zip_nil_right List.take_succ_cons List.take_zero List.take_nil List.drop_succ_cons List.drop_zero List.drop_nil List.isEmpty_nil List.isEmpty_cons Bool.and_true Bool.true_and Bool.or_true Bool.true_or Bool.or_false Bool.false_or Bool.not_true Bool.not_false Nat.add_zero Nat.zero_add Option.isNone_none Option.isNone_some Option.getD_none true_and and_true not_true_eq_false not_false_eq_true decide_true decide_false Nat.le_refl and_self Bool.not_eq_true Nat.sub_self or_true true_or Option.some.injEq List.length_map List.nil_eq and_false false_and AV.live CV.live CV.liveIn gk bu Option.orElse_some Option.orElse_none head bJ bG Int.lt_irrefl List.length_append ite_self fx cF dC cf Key.clash Key.sees Key.writes Nat.lt_irrefl gt_iff_lt dt fB false_or or_false beq_self_eq_true Bool.true_beq Bool.false_beq
abbrev kX (k:Int)(t:Tok)(l:List Val):List CV:=[.pv (.int .i64 k),.pv (.int .i64 t.kind),.pv (.str t.text),.pv (.int .i64 t.n),.pv (.sl (encL l))]
attribute [local go_sem] cX cy bK bX bc cV dW aN cj fR bh dI AP LR MS Jl LH
theorem iV (k:Int)(t:Tok)(l:List Val):den K 66 [.agg (kX k t l)] []=some (.ret (B (Sl.ar (.mk k t l))) []):=by
 refine ai rfl rfl Tryz.func66 rfl Tryz.ntmps66 ⟨by simp,by simp[LK]⟩ ?_
 have hr:Tryz.f66.results=#[.tmp 2]:=rfl
 have hs:Sl.ar (.mk k t l)=((k==1)&&(t.kind==8)):=rfl
 rw[hs];cases e1:(k==1)
 ·simp only[go_sem,reduceLT,reduceEqDiff,Nat.reduceBEq,reduceAdd,reduceSub,reduceLeDiff,hr,e1]
 ·simp only[go_sem,reduceLT,reduceEqDiff,Nat.reduceBEq,reduceAdd,reduceSub,reduceLeDiff,hr,e1]
theorem jg (k:Int)(t:Tok)(l:List Val)(s:List UInt8):den K 57 [.agg (kX k t l),T s] []=some (.ret (B (Sl.aI s (.mk k t l))) []):=by
 refine ai rfl rfl Tryz.func57 rfl Tryz.ntmps57 ⟨by simp,by simp[LK]⟩ ?_
 have hr:Tryz.f57.results=#[.tmp 4]:=rfl
 have hv:decide (t=⟨7,s,0⟩)=((t.kind==7)&&((t.text==s)&&((t.n==0)&&true))):=(rA t ⟨7,s,0⟩).symm
 have hs:Sl.aI s (.mk k t l)=((k==1)&&((t.kind==7)&&((t.text==s)&&((t.n==0)&&true)))):=by rw[←hv];rfl
 rw[hs];cases e1:(k==1)
 ·simp only[go_sem,reduceLT,reduceEqDiff,Nat.reduceBEq,reduceAdd,reduceSub,reduceLeDiff,hr,e1]
 ·cases e2:(t.kind==7)
  ·simp only[go_sem,reduceLT,reduceEqDiff,Nat.reduceBEq,reduceAdd,reduceSub,reduceLeDiff,hr,e1,e2]
  ·cases e3:(t.text==s)
   ·simp only[go_sem,reduceLT,reduceEqDiff,Nat.reduceBEq,reduceAdd,reduceSub,reduceLeDiff,hr,e1,e2,e3]
   ·simp only[go_sem,reduceLT,reduceEqDiff,Nat.reduceBEq,reduceAdd,reduceSub,reduceLeDiff,hr,e1,e2,e3]
abbrev oD (l:List Val)(i j:Nat):St :=
  { sl:=upd (upd (upd bot 4 (I j)) 3 (I i)) 0 (L (encL l)),bx:=nobox,nt:=38 }
noncomputable def tlp2:Code:=.loop (ap Tryz.f34 2)
noncomputable def tlp4:Code:=.loop (ap Tryz.f34 4)
theorem KG (l:List Val)(i:Nat)(hl:l.length≤100000000)(v:Val)(hi:l[i]? = some v)(hb:Sl.ar v=true) :
  exL K 34 tlp2 (oD l i l.length)=exL K 34 tlp2 (oD l (i+1) l.length):=by
 obtain⟨k,t,c⟩:=v;have hil:i<l.length:=(List.getElem?_eq_some_iff.1 hi).1
 have hlt:decide ((i:Int)<(l.length:Int))=true:=decide_eq_true (by omega)
 have hget:=gR l i k t c hi
 have hw:IntKind.i64.wrap ((i:Int)+1)=((i+1:Nat):Int):=aX i (by omega)
 have hd:=iV k t c
 rw[hb] at hd;unfold tlp2
 conv in ap _ _=>whnf
 conv in ap _ _=>whnf
 conv in exL _ _ _ (oD l i l.length)=>rw[aq]
 simp only[go_sem,reduceLT,reduceCtorEq,reduceEqDiff,Nat.reduceBEq,reduceAdd,aj ak,hlt,hget,Int.natCast_nonneg,hw,hd];rw[au];simp only[go_sem,reduceCtorEq,reduceEqDiff]
theorem QA (l:List Val)(i:Nat)(hl:l.length≤100000000)(v:Val)(hi:l[i]? = some v)(hb:Sl.ar v=false) :
  Ends (exL K 34 tlp2 (oD l i l.length)) fun o S=>o=.exit 0∧S.nt=38∧S.sl 0=L (encL l)∧S.sl 3=I i∧S.sl 4=I l.length:=by
 obtain⟨k,t,c⟩:=v;have hil:i<l.length:=(List.getElem?_eq_some_iff.1 hi).1
 have hlt:decide ((i:Int)<(l.length:Int))=true:=decide_eq_true (by omega)
 have hget:=gR l i k t c hi
 have hd:=iV k t c
 rw[hb] at hd;unfold tlp2
 conv in ap _ _=>whnf
 rw[aq];simp only[go_sem,reduceLT,reduceCtorEq,reduceEqDiff,Nat.reduceBEq,reduceAdd,aj ak,hlt,hget,Int.natCast_nonneg,hd,aw]
theorem Lo (l:List Val):Ends (exL K 34 tlp2 (oD l l.length l.length)) fun o S=>o=.exit 0∧S.nt=38∧S.sl 0=L (encL l)∧S.sl 3=I l.length∧S.sl 4=I l.length:=by
 unfold tlp2
 conv in ap _ _=>whnf
 rw[aq];simp only[go_sem,reduceLT,reduceCtorEq,reduceEqDiff,Nat.reduceBEq,reduceAdd,aw]
theorem wS (l:List Val)(hl:l.length≤100000000):∀ (rest:List Val) (i:Nat),l.drop i=rest→i≤l.length →
  Ends (exL K 34 tlp2 (oD l i l.length)) fun o S=>o=.exit 0∧S.nt=38∧∃ j:Nat,j≤l.length∧l.drop j=rest.dropWhile Sl.ar∧S.sl 0=L (encL l)∧S.sl 3=I j∧S.sl 4=I l.length
 | [],i,hd,hi=>by
  have hin:i=l.length:=by
   have:=List.drop_eq_nil_iff.1 hd
   omega
  subst hin;refine aW (Lo l) fun o S q=>⟨q.1,q.2.1,l.length,Nat.le_refl _,?_,q.2.2⟩
  simp
 | v::rest,i,hd,hi=>by
  obtain⟨g1,g2,g3⟩:=bH hd;cases hb:Sl.ar v with
  | true =>
   rw[KG l i hl v g1 hb,List.dropWhile_cons,if_pos hb];exact wS l hl rest (i+1) g2 (by omega)
  | false =>
   refine aW (QA l i hl v g1 hb) fun o S q=>⟨q.1,q.2.1,i,hi,?_,q.2.2⟩
   rw[hd,List.dropWhile_cons,if_neg (by rw[hb];simp)]
theorem LM (l:List Val)(i j:Nat)(hl:l.length≤100000000)(hij:i≤j)(v:Val)(hi:l[j]? = some v)(hb:Sl.ar v=true) :
  exL K 34 tlp4 (oD l i (j+1))=exL K 34 tlp4 (oD l i j):=by
 obtain⟨k,t,c⟩:=v;have hil:j<l.length:=(List.getElem?_eq_some_iff.1 hi).1
 have hlt:decide ((i:Int)<((j+1:Nat):Int))=true:=decide_eq_true (by omega)
 have hget:=gR l j k t c hi
 have hw:IntKind.i64.wrap (((j+1:Nat):Int) - 1)=(j:Int):=by rw[IntWalk.i64_in _ (by omega)];omega
 have hd:=iV k t c
 rw[hb] at hd;unfold tlp4
 conv in ap _ _=>whnf
 conv in ap _ _=>whnf
 conv in exL _ _ _ (oD l i (j+1))=>rw[aq]
 simp only[go_sem,reduceLT,reduceCtorEq,reduceEqDiff,Nat.reduceBEq,reduceAdd,aj ak,hlt,hget,Int.natCast_nonneg,hw,hd];rw[au];simp only[go_sem,reduceCtorEq,reduceEqDiff]
theorem Pg (l:List Val)(i j:Nat)(hl:l.length≤100000000)(hij:i≤j)(v:Val)(hi:l[j]? = some v)(hb:Sl.ar v=false) :
  Ends (exL K 34 tlp4 (oD l i (j+1))) fun o S=>o=.exit 2∧S.nt=38∧S.sl 0=L (encL l)∧S.sl 3=I i∧S.sl 4=I ((j+1:Nat):Int):=by
 obtain⟨k,t,c⟩:=v;have hil:j<l.length:=(List.getElem?_eq_some_iff.1 hi).1
 have hlt:decide ((i:Int)<((j+1:Nat):Int))=true:=decide_eq_true (by omega)
 have hget:=gR l j k t c hi
 have hw:IntKind.i64.wrap (((j+1:Nat):Int) - 1)=(j:Int):=by rw[IntWalk.i64_in _ (by omega)];omega
 have hd:=iV k t c
 rw[hb] at hd;unfold tlp4
 conv in ap _ _=>whnf
 rw[aq];simp only[go_sem,reduceLT,reduceCtorEq,reduceEqDiff,Nat.reduceBEq,reduceAdd,aj ak,hlt,hget,Int.natCast_nonneg,hw,hd,aw]
theorem Ma (l:List Val)(i:Nat):Ends (exL K 34 tlp4 (oD l i i)) fun o S=>o=.exit 2∧S.nt=38∧S.sl 0=L (encL l)∧S.sl 3=I i∧S.sl 4=I i:=by
 unfold tlp4
 conv in ap _ _=>whnf
 rw[aq];simp only[go_sem,reduceLT,reduceCtorEq,reduceEqDiff,Nat.reduceBEq,reduceAdd,aw]
theorem wU (l:List Val)(hl:l.length≤100000000)(i:Nat):∀ (m j:Nat),j=i+m→j≤l.length →
  Ends (exL K 34 tlp4 (oD l i j)) fun o S=>o=.exit 2∧S.nt=38∧∃ e:Nat,i≤e∧e≤l.length∧(l.take e).drop i=(((l.take j).drop i).reverse.dropWhile Sl.ar).reverse∧S.sl 0=L (encL l)∧S.sl 3=I i∧S.sl 4=I e
 | 0,j,hj,hjl=>by
  obtain rfl:j=i:=by omega
  refine aW (Ma l j) fun o S q=>⟨q.1,q.2.1,j,Nat.le_refl _,hjl,?_,q.2.2⟩
  have:(l.take j).drop j=[]:=by rw[List.drop_eq_nil_iff,List.length_take];omega
  rw[this];rfl
 | m+1,j,hj,hjl=>by
  obtain rfl:j=(i+m)+1:=by omega
  have hlt:i+m<l.length:=by omega
  have hg:l[i+m]? = some l[i+m]:=List.getElem?_eq_getElem hlt
  have htk:(l.take (i+m+1)).drop i=(l.take (i+m)).drop i++[l[i+m]]:=by
   rw[List.take_add_one,hg,Option.toList_some,List.drop_append_of_le_length (by rw[List.length_take];omega)]
  generalize hv:l[i+m]=v at hg htk;cases hb:Sl.ar v with
  | true =>
   rw[LM l i (i+m) hl (by omega) v hg hb]
   refine aW (wU l hl i m (i+m) rfl (by omega)) fun o S q => ?_
   obtain⟨q1,q2,e,q3,q4,q5,q6⟩:=q;refine⟨q1,q2,e,q3,q4,?_,q6⟩
   rw[q5,htk,List.reverse_append,List.reverse_singleton,List.singleton_append,List.dropWhile_cons,if_pos hb]
  | false =>
   refine aW (Pg l i (i+m) hl (by omega) v hg hb) fun o S q=>⟨q.1,q.2.1,i+m+1,by omega,hjl,?_,q.2.2⟩
   rw[htk,List.reverse_append,List.reverse_singleton,List.singleton_append,List.dropWhile_cons,if_neg (by rw[hb];simp),List.reverse_cons,List.reverse_reverse]
theorem Nn (l:List Val)(a b:Nat):((encL l).take a).drop b=encL ((l.take a).drop b):=by
 rw[encL_map,encL_map,List.map_drop,List.map_take]
theorem Sl.trim_len (l:List Val):(Sl.trim l).length≤l.length:=by
 unfold Sl.trim;rw[List.length_reverse];have h1:=(List.dropWhile_sublist Sl.ar (l:=(l.dropWhile Sl.ar).reverse)).length_le
 have h2:=(List.dropWhile_sublist Sl.ar (l:=l)).length_le
 rw[List.length_reverse] at h1;omega
theorem pC (l:List Val)(hl:l.length≤100000000):den K 34 [L (encL l)] []=some (.ret (L (encL (Sl.trim l))) []):=by
 have h2:=wS l hl l 0 rfl (Nat.zero_le _)
 unfold tlp2 at h2
 conv at h2 in ap _ _=>whnf
 obtain⟨o,S,w,rfl,hn,j,hj,hjd,s0,s3,s4⟩:=h2;have h4:=wU l hl j (l.length - j) l.length (by omega) (Nat.le_refl _)
 unfold tlp4 at h4
 conv at h4 in ap _ _=>whnf
 obtain⟨o',S',w',rfl,hn',e,he1,he2,hed,s0',s3',s4'⟩:=h4;have hres:(l.take e).drop j=Sl.trim l:=by
  rw[hed,List.take_length,hjd];rfl
 have hlen:(Sl.trim l).length<bS:=by
  have:(Sl.trim l).length≤l.length:=by rw[←hres,List.length_drop,List.length_take];omega
  unfold bS;omega
 have hlv:=gg l
 have hlv2:=gg (Sl.trim l)
 have hb1:((0:Int)≤(e:Int)∧(e:Int)≤(l.length:Int))=True:=by rw[eq_iff_iff];simp;omega
 have hb2:((0:Int)≤(j:Int)∧(j:Int)≤(e:Int))=True:=by rw[eq_iff_iff];simp;omega
 refine ai rfl rfl Tryz.func34 rfl Tryz.ntmps34 ⟨by simp,by simp[LK]⟩ ?_
 have hr:Tryz.f34.results=#[.tmp 2]:=rfl
 simp only[go_sem,reduceLT,reduceCtorEq,reduceEqDiff,Nat.reduceBEq,reduceAdd,af ak,aA];rw[au];simp only[go_sem,reduceCtorEq,reduceEqDiff];erw [w];simp only[go_sem];rw[au];simp only[go_sem,hn,s0,s3,s4];erw [w'];simp only[go_sem,reduceLT,reduceCtorEq,reduceEqDiff,Nat.reduceBEq,reduceAdd,ao (len:=0) ak bh aF ⟨rfl,by decide,by decide⟩,fp ak bh,bq cN,aU ak,hr,hn',s0',s3',s4',aA,hb1,hb2,Int.toNat_natCast,Nn,hres,hlen,hlv,hlv2,wl]
abbrev encP (l:List (List Val)):List (List PV):=l.map fun p=>[.sl (encL p)]
theorem ww (l:List (List Val)):lens 1 (encP l)=true:=by simp[lens]
theorem yF (x:PV):lens 1 [[x]]=true:=rfl
theorem zp (out:List (List Val))(p:List Val):encP out++[[.sl (encL p)]]=encP (out++[p]):=by simp[encP]
theorem NN (acc:List Val)(k:Int)(t:Tok)(vs:List Val):encL acc++[[.int .i64 k,.int .i64 t.kind,.str t.text,.int .i64 t.n,.sl (encL vs)]]=encL (acc++[.mk k t vs]):=by
 rw[lP];rfl
abbrev atH (s:List UInt8)(l:List Val)(i e e':Nat)(out:List (List Val))(part:List Val):St :=
  { sl:=upd (upd (upd (upd (upd bot 7 (I i)) 6 (.c (.own e' (encL part)))) 5 (.c (.own e (encP out)))) 1 (T s)) 0 (L (encL l)),bx:=nobox,nt:=38 }
noncomputable def atlp:Code:=.loop (ap Tryz.f26 4)
theorem Uu (s:List UInt8)(l:List Val)(i e e':Nat)(out:List (List Val))(part:List Val)(hl:l.length≤100000000)(ho:out.length≤100000000)(he:e=23∨out=[])(v:Val)(hi:l[i]? = some v)(hb:Sl.aI s v=true) :
  exL K 26 atlp (atH s l i e e' out part)=exL K 26 atlp (atH s l (i+1) 23 93 (out++[part]) []):=by
 obtain⟨k,t,c⟩:=v;have hil:i<l.length:=(List.getElem?_eq_some_iff.1 hi).1
 have hlt:decide ((i:Int)<(l.length:Int))=true:=decide_eq_true (by omega)
 have hget:=gR l i k t c hi
 have hw:IntKind.i64.wrap ((i:Int)+1)=((i+1:Nat):Int):=aX i (by omega)
 have hd:=jg k t c s
 rw[hb] at hd;have hown:e=23∨(encP out).isEmpty=true:=by
  rcases he with rfl|rfl
  ·exact .inl rfl
  ·exact .inr rfl
 have hlim:out.length+1<bS:=by unfold bS;omega
 have hlv:=ww out
 have e0:encL []=[]:=rfl
 unfold atlp
 conv in ap _ _=>whnf
 conv in ap _ _=>whnf
 conv in exL _ _ _ (atH s l i e e' out part)=>rw[aq]
 simp only[go_sem,reduceLT,reduceCtorEq,reduceEqDiff,Nat.reduceBEq,reduceAdd,reduceMul,ao (len:=0) ak bh aF ⟨rfl,by decide,by decide⟩,af ak,aj ak,ao (len:=1) cv ee jC ⟨rfl,by decide,by decide⟩,bq mT,aU cv,ao (len:=1) ak bh aF ⟨rfl,by decide,by decide⟩,bq cN,aU ak,aA,hlt,hget,Int.natCast_nonneg,hw,hd,hown,hlim,hlv,yF,zp]
 rw[au];simp only[go_sem,reduceCtorEq,reduceEqDiff];rfl
theorem VJ (s:List UInt8)(l:List Val)(i e e':Nat)(out:List (List Val))(part:List Val)(hl:l.length≤100000000)(ho:part.length≤100000000)(he:e'=93∨part=[])(v:Val)(hi:l[i]? = some v)(hb:Sl.aI s v=false) :
  exL K 26 atlp (atH s l i e e' out part)=exL K 26 atlp (atH s l (i+1) e 93 out (part++[v])):=by
 obtain⟨k,t,c⟩:=v;have hil:i<l.length:=(List.getElem?_eq_some_iff.1 hi).1
 have hlt:decide ((i:Int)<(l.length:Int))=true:=decide_eq_true (by omega)
 have hget:=gR l i k t c hi
 have hw:IntKind.i64.wrap ((i:Int)+1)=((i+1:Nat):Int):=aX i (by omega)
 have hd:=jg k t c s
 rw[hb] at hd;have hown:e'=93∨(encL part).isEmpty=true:=by
  rcases he with rfl|rfl
  ·exact .inl rfl
  ·exact .inr rfl
 have hlim:part.length+1<bS:=by unfold bS;omega
 have hlv:=gg part
 unfold atlp
 conv in ap _ _=>whnf
 conv in ap _ _=>whnf
 conv in exL _ _ _ (atH s l i e e' out part)=>rw[aq]
 simp only[go_sem,reduceLT,reduceCtorEq,reduceEqDiff,Nat.reduceBEq,reduceAdd,reduceMul,af ak,aj ak,ao (len:=1) cv ee jC ⟨rfl,by decide,by decide⟩,bq mT,aU cv,ao (len:=1) ak bh aF ⟨rfl,by decide,by decide⟩,bq cN,aU ak,aA,hlt,hget,Int.natCast_nonneg,hw,hd,hown,hlim,hlv,jS,NN]
 rw[au];simp only[go_sem,reduceCtorEq,reduceEqDiff]
theorem Va (s:List UInt8)(l:List Val)(e e':Nat)(out:List (List Val))(part:List Val) :
  Ends (exL K 26 atlp (atH s l l.length e e' out part)) fun o S=>o=.exit 0∧S.nt=38∧S.sl 5=.c (.own e (encP out))∧S.sl 6=.c (.own e' (encL part)):=by
 unfold atlp
 conv in ap _ _=>whnf
 rw[aq];simp only[go_sem,reduceLT,reduceCtorEq,reduceEqDiff,Nat.reduceBEq,reduceAdd,af ak,aA,aw]
def atF (s:List UInt8)(part:List Val):List Val→List (List Val)
 | []=>[part]
 | v::l=>if Sl.aI s v then part::atF s [] l else atF s (part++[v]) l
theorem FF (s:List UInt8):∀ (l part:List Val), ∃ p ps,Sl.at_ s l=p::ps∧atF s part l=(part++p)::ps
 | [],part=>⟨[],[],rfl,by simp[atF]⟩
 | v::l,part=>by
  rw[Sl.at_,atF];split
  ·obtain⟨p,ps,h1,h2⟩:=FF s l [];exact⟨[],Sl.at_ s l,rfl,by rw[h1,h2];simp⟩
  ·obtain⟨p,ps,h1,h2⟩:=FF s l (part++[v]);rw[h1];exact⟨v::p,ps,rfl,by rw[h2];simp⟩
theorem Ul (s:List UInt8)(l:List Val):atF s [] l=Sl.at_ s l:=by
 obtain⟨p,ps,h1,h2⟩:=FF s l [];rw[h1,h2,List.nil_append]
theorem BU (s:List UInt8)(l:List Val)(hl:l.length≤100000000):∀ (rest:List Val) (i e e':Nat) (out:List (List Val)) (part:List Val),l.drop i=rest→i≤l.length→out.length≤i→part.length≤i→(e=23∨out=[])→(e'=93∨part=[]) →
  Ends (exL K 26 atlp (atH s l i e e' out part)) fun o S=>o=.exit 0∧S.nt=38∧∃ (f f':Nat) (out':List (List Val)) (part':List Val),S.sl 5=.c (.own f (encP out'))∧S.sl 6=.c (.own f' (encL part'))∧out'++[part']=out++atF s part rest∧out'.length≤l.length∧(f=23∨out'=[])
 | [],i,e,e',out,part,hd,hi,h1,h2,h3,h4=>by
  have hin:i=l.length:=by
   have:=List.drop_eq_nil_iff.1 hd
   omega
  subst hin;refine aW (Va s l e e' out part) fun o S q=>⟨q.1,q.2.1,e,e',out,part,q.2.2.1,q.2.2.2,rfl,h1,h3⟩
 | v::rest,i,e,e',out,part,hd,hi,h1,h2,h3,h4=>by
  obtain⟨g1,g2,g3⟩:=bH hd;cases hb:Sl.aI s v with
  | true =>
   rw[Uu s l i e e' out part hl (by omega) h3 v g1 hb]
   have:=BU s l hl rest (i+1) 23 93 (out++[part]) [] g2 (by omega) (by rw[List.length_append,List.length_singleton];omega) (Nat.zero_le _) (.inl rfl) (.inl rfl)
   rw[List.append_assoc,List.singleton_append] at this
   rw[atF,hb,if_pos rfl];exact this
  | false =>
   rw[VJ s l i e e' out part hl (by omega) h4 v g1 hb]
   have:=BU s l hl rest (i+1) e 93 out (part++[v]) g2 (by omega) (by omega) (by rw[List.length_append,List.length_singleton];omega) h3 (.inl rfl)
   rw[atF,hb,if_neg (by simp)]
   exact this
theorem Ux (l:List Val)(s:List UInt8)(hl:l.length≤100000000):den K 26 [L (encL l),T s] []=some (.ret (L (encP (Sl.at_ s l))) []):=by
 have h:=BU s l hl l 0 23 93 [] [] rfl (Nat.zero_le _) (Nat.le_refl _) (Nat.le_refl _) (.inl rfl) (.inl rfl)
 unfold atlp at h
 conv at h in ap _ _=>whnf
 obtain⟨o,S,w,rfl,hn,f,f',out,part,s5,s6,hp,hlen,hf⟩:=h;rw[List.nil_append,Ul] at hp;rw[←hp,←zp];have hown:f=23∨(encP out).isEmpty=true:=by
  rcases hf with rfl|rfl
  ·exact .inl rfl
  ·exact .inr rfl
 have hlim:out.length+1<bS:=by unfold bS;omega
 have hlv:=ww out
 have e0:encL []=[]:=rfl
 refine ai rfl rfl Tryz.func26 rfl Tryz.ntmps26 ⟨by simp,by simp[LK]⟩ ?_
 have hr:Tryz.f26.results=#[.tmp 4]:=rfl
 simp only[go_sem,reduceLT,reduceEqDiff,Nat.reduceBEq,reduceAdd,ao (len:=0) cv ee jC ⟨rfl,by decide,by decide⟩,ao (len:=0) ak bh aF ⟨rfl,by decide,by decide⟩]
 rw[au];simp only[go_sem,reduceCtorEq,reduceEqDiff];erw [w];simp only[go_sem,reduceLT,reduceCtorEq,reduceEqDiff,Nat.reduceBEq,reduceAdd,reduceMul,ao (len:=1) cv ee jC ⟨rfl,by decide,by decide⟩,bq mT,aU cv,hr,hn,s5,s6,hown,hlim,hlv,yF]
attribute [local go_sem] Rj Kk KL Pd
theorem nS (k:Int)(t:Tok)(l:List Val):den K 123 [.agg (kX k t l)] []=some (.ret (B (Sl.ar (.mk k t l))) []):=by
 refine ai rfl rfl Tryz.func123 rfl Tryz.ntmps123 ⟨by simp,by simp[LK]⟩ ?_
 have hr:Tryz.f123.results=#[.tmp 2]:=rfl
 have hs:Sl.ar (.mk k t l)=((k==1)&&(t.kind==8)):=rfl
 rw[hs];cases e1:(k==1)
 ·simp only[go_sem,reduceLT,reduceEqDiff,Nat.reduceBEq,reduceAdd,reduceSub,reduceLeDiff,hr,e1]
 ·simp only[go_sem,reduceLT,reduceEqDiff,Nat.reduceBEq,reduceAdd,reduceSub,reduceLeDiff,hr,e1]
abbrev trH (l:List Val):St := { sl:=upd bot 0 (L (encL l)),bx:=nobox,nt:=33 }
noncomputable def trlp1:Code:=.loop (ap Tryz.f70 1)
noncomputable def trlp3:Code:=.loop (ap Tryz.f70 3)
theorem wy (k:Int)(t:Tok)(c r:List Val):(encL (.mk k t c::r))[(0:Int).toNat]? = some [.int .i64 k,.int .i64 t.kind,.str t.text,.int .i64 t.n,.sl (encL c)]:=rfl
theorem Fm (v:Val)(r:List Val)(n:Nat)(h:n=r.length+1):((encL (v::r)).take n).drop (1:Int).toNat=encL r:=by
 subst h;rw[encL,List.take_of_length_le (by rw[List.length_cons,aA];omega)];rfl
theorem le00:((0:Int)≤0)=True:=by simp
theorem SO (v:Val)(r:List Val)(hl:r.length≤100000000)(hb:Sl.ar v=true) :
  exL K 70 trlp1 (trH (v::r))=exL K 70 trlp1 (trH r):=by
 obtain⟨k,t,c⟩:=v;have hlt:decide ((0:Int)<(((r.length+1:Nat)):Int))=true:=decide_eq_true (by omega)
 have hget:=wy k t c r
 have hcut:=Fm (.mk k t c) r (r.length+1) rfl
 have hb1:((0:Int)≤1∧(1:Int)≤((r.length+1:Nat):Int))=True:=by rw[eq_iff_iff];simp;omega
 have hlv:=gg (.mk k t c::r)
 have hd:=nS k t c
 rw[hb] at hd;unfold trlp1
 conv in ap _ _=>whnf
 conv in ap _ _=>whnf
 conv in exL _ _ _ (trH (.mk k t c::r))=>rw[aq]
 simp only[go_sem,reduceLT,reduceCtorEq,reduceEqDiff,Nat.reduceBEq,reduceAdd,af ak,aj ak,fp ak bh,aA,List.length_cons,hlt,hget,hd,hb1,hlv,hcut,le00];rw[au];simp only[go_sem,reduceCtorEq]
theorem Us (v:Val)(r:List Val)(hl:r.length≤100000000)(hb:Sl.ar v=false) :
  Ends (exL K 70 trlp1 (trH (v::r))) fun o S=>o=.exit 0∧S.nt=33∧S.sl 0=L (encL (v::r)):=by
 obtain⟨k,t,c⟩:=v;have hlt:decide ((0:Int)<(((r.length+1:Nat)):Int))=true:=decide_eq_true (by omega)
 have hget:=wy k t c r
 have hd:=nS k t c
 rw[hb] at hd;unfold trlp1
 conv in ap _ _=>whnf
 rw[aq];simp only[go_sem,reduceLT,reduceCtorEq,reduceEqDiff,Nat.reduceBEq,reduceAdd,af ak,aj ak,aA,List.length_cons,hlt,hget,hd,le00,aw]
theorem RB:Ends (exL K 70 trlp1 (trH [])) fun o S=>o=.exit 0∧S.nt=33∧S.sl 0=L (encL []):=by
 have hlt:decide ((0:Int)<((0:Nat):Int))=false:=rfl
 unfold trlp1
 conv in ap _ _=>whnf
 rw[aq];simp only[go_sem,reduceLT,reduceCtorEq,reduceEqDiff,Nat.reduceBEq,reduceAdd,af ak,aA,List.length_nil,hlt,aw]
theorem En:∀ (l:List Val),l.length≤100000000→Ends (exL K 70 trlp1 (trH l)) fun o S=>o=.exit 0∧S.nt=33∧S.sl 0=L (encL (l.dropWhile Sl.ar))
 | [],_=>RB
 | v::r,hl=>by
  rw[List.length_cons] at hl;cases hb:Sl.ar v with
  | true =>
   rw[SO v r (by omega) hb,List.dropWhile_cons,if_pos hb]
   exact En r (by omega)
  | false =>
   rw[List.dropWhile_cons,if_neg (by rw[hb];simp)]
   exact Us v r (by omega) hb
theorem EO (m:List Val)(k:Int)(t:Tok)(c:List Val):(encL (m++[.mk k t c]))[((m.length:Nat):Int).toNat]? = some [.int .i64 k,.int .i64 t.kind,.str t.text,.int .i64 t.n,.sl (encL c)]:=by
 exact wK (m++[.mk k t c]) m.length (.mk k t c) (by simp)
theorem Rd (m:List Val)(v:Val):(encL (m++[v])).take m.length=encL m:=by
 rw[lP,List.take_append_of_le_length (by rw[aA];exact Nat.le_refl _),List.take_of_length_le (by rw[aA];exact Nat.le_refl _)]
theorem Sg (m:List Val)(v:Val)(hl:m.length≤100000000)(hb:Sl.ar v=true) :
  exL K 70 trlp3 (trH (m++[v]))=exL K 70 trlp3 (trH m):=by
 obtain⟨k,t,c⟩:=v;have hn:(encL (m++[.mk k t c])).length=m.length+1:=by rw[aA];simp
 have hlt:decide ((0:Int)<(((m.length+1:Nat)):Int))=true:=decide_eq_true (by omega)
 have hw:IntKind.i64.wrap (((m.length+1:Nat):Int) - 1)=(m.length:Int):=by rw[IntWalk.i64_in _ (by omega)];omega
 have hget:=EO m k t c
 have hcut:=Rd m (.mk k t c)
 have hb1:((m.length:Int)≤((m.length+1:Nat):Int))=True:=by rw[eq_iff_iff];simp;omega
 have hlv:=gg (m++[.mk k t c])
 have hd:=nS k t c
 rw[hb] at hd;rw[Int.toNat_natCast] at hget;unfold trlp3
 conv in ap _ _=>whnf
 conv in ap _ _=>whnf
 conv in exL _ _ _ (trH (m++[.mk k t c]))=>rw[aq]
 simp only[go_sem,reduceLT,reduceCtorEq,reduceEqDiff,Nat.reduceBEq,reduceAdd,af ak,aj ak,fp ak bh,hn,hlt,hw,Int.natCast_nonneg,Int.toNat_natCast,hget,hd,hb1,hlv,hcut];rw[au];simp only[go_sem,reduceCtorEq]
theorem Vb (m:List Val)(v:Val)(hl:m.length≤100000000)(hb:Sl.ar v=false) :
  Ends (exL K 70 trlp3 (trH (m++[v]))) fun o S=>o=.exit 2∧S.nt=33∧S.sl 0=L (encL (m++[v])):=by
 obtain⟨k,t,c⟩:=v;have hn:(encL (m++[.mk k t c])).length=m.length+1:=by rw[aA];simp
 have hlt:decide ((0:Int)<(((m.length+1:Nat)):Int))=true:=decide_eq_true (by omega)
 have hw:IntKind.i64.wrap (((m.length+1:Nat):Int) - 1)=(m.length:Int):=by rw[IntWalk.i64_in _ (by omega)];omega
 have hget:=EO m k t c
 have hd:=nS k t c
 rw[hb] at hd;rw[Int.toNat_natCast] at hget;unfold trlp3
 conv in ap _ _=>whnf
 rw[aq];simp only[go_sem,reduceLT,reduceCtorEq,reduceEqDiff,Nat.reduceBEq,reduceAdd,af ak,aj ak,hn,hlt,hw,Int.natCast_nonneg,Int.toNat_natCast,hget,hd,aw]
theorem Td:Ends (exL K 70 trlp3 (trH [])) fun o S=>o=.exit 2∧S.nt=33∧S.sl 0=L (encL []):=by
 have hlt:decide ((0:Int)<((0:Nat):Int))=false:=rfl
 unfold trlp3
 conv in ap _ _=>whnf
 rw[aq];simp only[go_sem,reduceLT,reduceCtorEq,reduceEqDiff,Nat.reduceBEq,reduceAdd,af ak,aA,List.length_nil,hlt,aw]
theorem DA:∀ (n:Nat) (l:List Val),l.length=n→l.length≤100000000→Ends (exL K 70 trlp3 (trH l)) fun o S=>o=.exit 2∧S.nt=33∧S.sl 0=L (encL (l.reverse.dropWhile Sl.ar).reverse)
 | 0,l,h,_=>by
  obtain rfl:l=[]:=List.eq_nil_of_length_eq_zero h;exact Td
 | n+1,l,h,hl=>by
  obtain⟨m,v,rfl⟩:∃ m v,l=m++[v]:=⟨l.dropLast,l.getLast (fun e=>by rw[e] at h;simp at h),(List.dropLast_concat_getLast _).symm⟩
  rw[List.length_append,List.length_singleton] at h hl;rw[List.reverse_append,List.reverse_singleton,List.singleton_append];cases hb:Sl.ar v with
  | true =>
   rw[Sg m v (by omega) hb,List.dropWhile_cons,if_pos hb]
   exact DA n m (by omega) (by omega)
  | false =>
   rw[List.dropWhile_cons,if_neg (by rw[hb];simp),List.reverse_cons,List.reverse_reverse]
   exact Vb m v (by omega) hb
theorem MC (l:List Val)(hl:l.length≤1000000000):den K 124 [L (encL l)] []=some (.ret (L (encL l)) []):=by
 refine eX (F:=Bb) rfl ?_
 show (if (encL l).length≤1000000000∧(encL l).all (fun el=>el.length==5) then _ else none)=_
 have h2:(encL l).all (fun el=>el.length==5)=true:=gg l
 rw[if_pos ⟨by rw[aA];exact hl,h2⟩]
theorem lD (l:List Val)(hl:l.length≤100000000):den K 70 [L (encL l)] []=some (.ret (L (encL (Sl.trim l))) []):=by
 have h1:=En l hl
 have hlen:=(List.dropWhile_sublist Sl.ar (l:=l)).length_le
 have h3:=DA _ (l.dropWhile Sl.ar) rfl (by omega)
 unfold trlp1 at h1
 conv at h1 in ap _ _=>whnf
 obtain⟨o,S,w,rfl,hn,s0⟩:=h1;unfold trlp3 at h3
 conv at h3 in ap _ _=>whnf
 obtain⟨o',S',w',rfl,hn',s0'⟩:=h3;have hc:=MC (Sl.trim l) (by have:=Sl.trim_len l;omega)
 have e:(((l.dropWhile Sl.ar).reverse).dropWhile Sl.ar).reverse=Sl.trim l:=rfl
 rw[e] at s0'
 refine ai rfl rfl Tryz.func70 rfl Tryz.ntmps70 ⟨by simp,by simp[LK]⟩ ?_
 have hr:Tryz.f70.results=#[.tmp 2]:=rfl
 simp only[go_sem,reduceLT,Nat.reduceBEq];rw[au];simp only[go_sem,reduceCtorEq];erw [w];simp only[go_sem];rw[au];simp only[go_sem,hn,s0];erw [w'];simp only[go_sem,reduceLT,reduceEqDiff,Nat.reduceBEq,reduceAdd,hr,hn',s0',hc]
theorem Kc (s:List UInt8):SR.aI s=Sl.aI s:=by funext v;cases v;rfl
theorem FY:SR.ar=Sl.ar:=by funext v;cases v;rfl
theorem xw (p:Val→Bool):∀ l:List Val,cutL p l=Sl.cut p l
 | []=>rfl
 | v::l=>by
  rw[cutL,Sl.cut,xw p l]
  all_goals (cases Sl.cut p l<;>rfl)
theorem BJ (s:List UInt8):∀ l:List Val,Sl.cut (Sl.aI s) l=Sl.at_ s l
 | []=>rfl
 | v::l=>by
  rw[Sl.cut,Sl.at_,BJ s l]
  all_goals (cases Sl.at_ s l<;>rfl)
theorem SB (l:List Val)(s:List UInt8)(hl:Ne.size l≤100000000):den K 45 [L (encL l),T s] []=some (.ret (L (encP (Sl.at_ s l))) []):=by
 refine eX (F:=pAt) rfl ?_
 have hlen:=Ne.bD l
 show (match rV (encL l) with|some vs=>if vs.length≤100000000 then some ((.c (.pv (.sl (zb (cutL (SR.aI s) vs)))):AV),([]:List (List CV))) else none|none=>none)=_
 rw[Ez l (by omega)]
 simp only;rw[if_pos (by omega),Kc,xw,BJ]
theorem HQ (l:List Val)(hl:Ne.size l≤100000000):den K 206 [L (encL l)] []=some (.ret (L (encP (Sl.words l))) []):=by
 refine eX (F:=BG) rfl ?_
 have hlen:=Ne.bD l
 show (match rV (encL l) with|some vs=>if vs.length≤100000000 then some ((.c (.pv (.sl (zb (full (cutL SR.ar vs))))):AV),([]:List (List CV))) else none|none=>none)=_
 rw[Ez l (by omega)]
 simp only;rw[if_pos (by omega),FY,xw];rfl
end Go.Abs
namespace Go.Abs
open Go Go.Proofs
theorem CW (c:UInt8):lowB c=Sl.low1 c:=by
 have e1:(65:UInt8)≤c↔65≤c.toNat:=UInt8.le_iff_toNat_le
 have e2:c≤(90:UInt8)↔c.toNat≤90:=UInt8.le_iff_toNat_le
 unfold lowB Sl.low1;by_cases h:65≤c.toNat∧c.toNat≤90
 ·rw[if_pos h,if_pos ⟨e1.2 h.1,e2.2 h.2⟩]
 ·rw[if_neg h,if_neg (fun k=>h ⟨e1.1 k.1,e2.1 k.2⟩)]
theorem Jt (s:List UInt8)(h:s.length<1000000000):den K 142 [T s] []=some (.ret (T (Sl.low s)) []):=by
 have e:Sl.low s=s.map lowB:=by unfold Sl.low;exact List.map_congr_left fun c _=>(CW c).symm
 rw[e];exact eX (F:=pLow) rfl (by unfold pLow;simp only;rw[if_pos (by unfold bN;omega)])
end Go.Abs
namespace Go.Abs
open Go Go.Proofs
set_option maxRecDepth 10000
attribute [local go_sem] dP bZ de cB cK dL dh du bo ck ce cE dr ci opd avOf cvOf St.degAt St.put okPV fE okAV eL eP eV dM aP if_true Bool.false_eq_true if_false Option.map_some Option.map_none Option.bind_some Option.bind_none fo fw upd List.toList_toArray cM steal bI mvB fj dK db AV.deg CV.deg AV.gv AV.isIter dG dw cJ List.length_nil List.length_cons List.filterMap_cons List.filterMap_nil beq_iff_eq List.getElem?_cons_zero List.getElem?_cons_succ Option.getD_some fM gJ Bool.false_and Bool.and_false Bool.and_self K_P iJ cI dc bL lend back idx dedup AV.ren CV.ren TV.ren AV.ptrs CV.ptrs dE AV.flat CV.flat cQ cz br dD dY gi cL bf cS bV cu cH bU gS CV.pv? content bT ownT bv reps pvs chunks co leave gj cZ eD cm bB TV.deg TV.av LK CV.plain CV.noBld dR gD bound List.map_cons List.map_nil List.all_cons List.all_nil List.any_cons List.any_nil List.contains_cons List.contains_nil List.elem_cons List.elem_nil List.cons_append List.nil_append List.append_nil List.flatMap_cons List.flatMap_nil List.zip_cons_cons List.zip_nil_left List.zip_nil_right List.take_succ_cons List.take_zero List.take_nil List.drop_succ_cons List.drop_zero List.drop_nil List.isEmpty_nil List.isEmpty_cons Bool.and_true Bool.true_and Bool.or_true Bool.true_or Bool.or_false Bool.false_or Bool.not_true Bool.not_false Nat.add_zero Nat.zero_add Option.isNone_none Option.isNone_some Option.getD_none true_and and_true not_true_eq_false not_false_eq_true decide_true decide_false Nat.le_refl and_self Bool.not_eq_true Nat.sub_self or_true true_or Option.some.injEq List.length_map List.nil_eq and_false false_and AV.live CV.live CV.liveIn gk bu Option.orElse_some Option.orElse_none head bJ bG Int.lt_irrefl List.length_append ite_self fx cF dC cf Key.clash Key.sees Key.writes Nat.lt_irrefl gt_iff_lt dt fB false_or or_false beq_self_eq_true Bool.true_beq Bool.false_beq Pj wD HD
abbrev U (c:UInt8):AV:=.c (.pv (.int .u8 c.toNat))
theorem Od (c:UInt8):Tk.digit c=(decide ((48:Int)≤(c.toNat:Int))&&decide ((c.toNat:Int)≤57)):=by
 unfold Tk.digit;rw[←Bool.decide_and];exact decide_eq_decide.2 (by omega)
theorem Lq (c:UInt8):Tk.begins c=((decide ((97:Int)≤(c.toNat:Int))&&decide ((c.toNat:Int)≤122))||(decide ((65:Int)≤(c.toNat:Int))&&decide ((c.toNat:Int)≤90))||((c.toNat:Int)==95)||decide ((128:Int)≤(c.toNat:Int))):=by
 have e:((c.toNat:Int)==95)=decide ((c.toNat:Int)=95):=by
  by_cases h:(c.toNat:Int)=95<;>simp[h]
 rw[e];unfold Tk.begins;rw[←Bool.decide_and,←Bool.decide_and,←Bool.decide_or,←Bool.decide_or,←Bool.decide_or];exact decide_eq_decide.2 (by omega)
theorem fA (c d:UInt8):((c.toNat:Int)==(d.toNat:Int))=(c==d):=by
 by_cases e:c=d
 ·subst e;simp
 ·have:c.toNat≠d.toNat:=fun h2=>e (UInt8.toNat_inj.1 h2)
  rw[beq_eq_false_iff_ne.2 e,beq_eq_false_iff_ne.2 (by omega)]
theorem pZ (c:UInt8):den K 185 [U c] []=some (.ret (B (Tk.digit c)) []):=by
 refine ai rfl rfl Tryz.func185 rfl Tryz.ntmps185 ⟨by simp,by simp[LK]⟩ ?_
 have hr:Tryz.f185.results=#[.tmp 2]:=rfl
 rw[Od];cases b1:decide ((48:Int)≤(c.toNat:Int))<;>cases b2:decide ((c.toNat:Int)≤57)<;>simp only[go_sem,reduceLT,reduceCtorEq,reduceEqDiff,Nat.reduceBEq,reduceAdd,hr,b1,b2]
set_option maxHeartbeats 8000000 in
theorem qR (c:UInt8):den K 209 [U c] []=some (.ret (B (Tk.begins c)) []):=by
 refine ai rfl rfl Tryz.func209 rfl Tryz.ntmps209 ⟨by simp,by simp[LK]⟩ ?_
 have hr:Tryz.f209.results=#[.tmp 2]:=rfl
 rw[Lq];cases b1:decide ((97:Int)≤(c.toNat:Int))<;>cases b2:decide ((c.toNat:Int)≤122)<;>cases b3:decide ((65:Int)≤(c.toNat:Int))<;>cases b4:decide ((c.toNat:Int)≤90)<;>cases b5:((c.toNat:Int)==95)<;>cases b6:decide ((128:Int)≤(c.toNat:Int))<;>simp only[go_sem,reduceLT,reduceCtorEq,reduceEqDiff,Nat.reduceBEq,reduceAdd,hr,b1,b2,b3,b4,b5,b6]
theorem vS (c:UInt8):den K 184 [U c] []=some (.ret (B (Tk.within c)) []):=by
 have d1:=qR c
 have d2:=pZ c
 have e45:((c.toNat:Int)==45)=(c==45):=fA c 45
 refine ai rfl rfl Tryz.func184 rfl Tryz.ntmps184 ⟨by simp,by simp[LK]⟩ ?_
 have hr:Tryz.f184.results=#[.tmp 2]:=rfl
 unfold Tk.within;cases b1:Tk.begins c<;>cases b2:Tk.digit c<;>cases b3:(c==45)<;>rw[b1] at d1<;>rw[b2] at d2<;>rw[b3] at e45<;>simp only[go_sem,reduceLT,reduceCtorEq,reduceEqDiff,Nat.reduceBEq,reduceAdd,hr,d1,d2,e45]
theorem Cv (s:List UInt8)(i:Nat):(s[i]? = none∧Tk.at0 (s.drop i)=0∧s.length≤i)∨(i<s.length∧s[i]? = some (Tk.at0 (s.drop i))):=by
 by_cases h:i<s.length
 ·right
  refine⟨h,?_⟩
  rw[List.drop_eq_getElem_cons h,Tk.kW,List.getElem?_eq_getElem h]
 ·left
  refine⟨List.getElem?_eq_none (by omega),?_,by omega⟩
  rw[List.drop_eq_nil_of_le (by omega)];rfl
theorem qO (s:List UInt8)(i:Nat)(hs:s.length<1000000000000):den K 175 [T s,I i] []=some (.ret (U (Tk.at0 (s.drop i))) []):=by
 refine ai rfl rfl Tryz.func175 rfl Tryz.ntmps175 ⟨by simp,by simp[LK]⟩ ?_
 have hr:Tryz.f175.results=#[.tmp 4]:=rfl
 rcases Cv s i with⟨h1,h2,h3⟩|⟨h1,h2⟩
 ·have hlt:decide ((i:Int)<(s.length:Int))=false:=decide_eq_false (by omega)
  rw[h2];simp only[go_sem,reduceLT,reduceCtorEq,reduceEqDiff,Nat.reduceBEq,reduceAdd,aE aB,bd aB,hr,hlt];rfl
 ·have hlt:decide ((i:Int)<(s.length:Int))=true:=decide_eq_true (by omega)
  simp only[go_sem,reduceLT,reduceCtorEq,reduceEqDiff,Nat.reduceBEq,reduceAdd,aE aB,bd aB,hr,hlt,Int.natCast_nonneg,Int.toNat_natCast,h2]
abbrev FN (f:Nat):AV:=.c (.fn f [])
abbrev runH (s:List UInt8)(from_:Nat)(f n:Nat):St := { sl:=upd (upd (upd (upd bot 7 (I n)) 2 (FN f)) 1 (I from_)) 0 (T s),bx:=upd nobox 100000 none,nt:=26 }
theorem OI (s:List UInt8)(hs:s.length<1000000000000)(p:UInt8→Bool)(f:Nat)(hg:K.good f=true)(hown:K.ownRet f=false)(hf:∀ c,den K f [U c] []=some (.ret (B (p c)) []))(from_:Nat):∀ (rest:List UInt8) (n:Nat),s.drop (from_+n)=rest→from_+n≤s.length →
  Ends (exL K 182 (.loop (ap Tryz.f182 2)) (runH s from_ f n)) fun o S=>o=.exit 0∧S.sl 7=I (n+Tk.run p rest:Nat)∧S.nt=26:=by
 intro rest
 induction rest with
 | nil =>
  intro n hd hn;have hin:from_+n=s.length:=by
   have:=List.drop_eq_nil_iff.1 hd
   omega
  have w1:IntKind.i64.wrap ((from_:Int)+(n:Int))=((from_+n:Nat):Int):=by rw[IntWalk.i64_in _ (by omega)];rfl
  have hlt:decide (((from_+n:Nat):Int)<(s.length:Int))=false:=decide_eq_false (by omega)
  conv in ap _ _=>whnf
  rw[aq];simp only[go_sem,reduceLT,reduceCtorEq,reduceEqDiff,Nat.reduceBEq,reduceAdd,aE aB,aw,w1,hlt,Tk.vv]
 | cons c rest ih =>
  intro n hd hn;obtain⟨g1,g2,g3⟩:=bH hd;have w1:IntKind.i64.wrap ((from_:Int)+(n:Int))=((from_+n:Nat):Int):=by rw[IntWalk.i64_in _ (by omega)];rfl
  have hlt:decide (((from_+n:Nat):Int)<(s.length:Int))=true:=decide_eq_true (by omega)
  have hc:=hf c
  have ih':=ih (n+1) g2 (by omega)
  conv at ih' in ap _ _=>whnf
  conv in ap _ _=>whnf
  rw[aq];cases hp:p c
  ·rw[hp] at hc;have hv:Tk.run p (c::rest)=0:=by rw[Tk.run,if_neg (by simp[hp])]
   simp only[go_sem,reduceLT,reduceCtorEq,reduceEqDiff,Nat.reduceBEq,reduceAdd,aE aB,bd aB,aw,w1,hlt,hg,hown,hc,Int.natCast_nonneg,Int.toNat_natCast,g1,hv]
  ·rw[hp] at hc;have hv:n+1+Tk.run p rest=n+Tk.run p (c::rest):=by rw[Tk.run,if_pos hp];omega
   rw[hv] at ih';simp only[go_sem,reduceLT,reduceCtorEq,reduceEqDiff,Nat.reduceBEq,reduceAdd,aE aB,bd aB,w1,hlt,hg,hown,hc,Int.natCast_nonneg,Int.toNat_natCast,g1,aX n (by omega)]
   rw[au];simp only[go_sem,reduceCtorEq,reduceEqDiff];exact ih'
theorem vr (s:List UInt8)(hs:s.length<1000000000000)(p:UInt8→Bool)(f:Nat)(hg:K.good f=true)(hown:K.ownRet f=false)(hf:∀ c,den K f [U c] []=some (.ret (B (p c)) []))(from_:Nat)(h:from_≤s.length):den K 182 [T s,I from_,FN f] []=some (.ret (I (Tk.run p (s.drop from_):Nat)) []):=by
 refine ai rfl rfl Tryz.func182 rfl Tryz.ntmps182 ⟨by simp,by simp[LK]⟩ ?_
 have hr:Tryz.f182.results=#[.tmp 6]:=rfl
 have hnext:=OI s hs p f hg hown hf from_ (s.drop from_) 0 rfl (by omega)
 conv at hnext in ap _ _=>whnf
 obtain⟨o,S',e,rfl,h7,hn⟩:=hnext;rw[Nat.zero_add] at h7;simp only[go_sem,reduceLT,Nat.reduceBEq];rw[au];simp only[go_sem,reduceCtorEq,reduceEqDiff];erw [e];simp only[go_sem,reduceLT,reduceEqDiff,Nat.reduceBEq,reduceAdd,hr,h7,hn]
attribute [local go_sem] vY wn ix mH kK mM fC eB PP
theorem wP (s:List UInt8)(hs:s.length<4000000000)(i:Nat)(h:i≤s.length):den K 176 [T s,I i] []=some (.ret (I (Tk.name (s.drop i):Nat)) []):=by
 have d1:=qO s i (by omega)
 have d2:=qO s (i+1) (by omega)
 have ht:(s.drop i).tail=s.drop (i+1):=List.tail_drop
 have hrun:=vr s (by omega) Tk.within 184 CT rfl vS i h
 unfold Tk.name Tk.eS;rw[ht];generalize Tk.at0 (s.drop i)=c at d1
 generalize Tk.at0 (s.drop (i+1))=d at d2
 have b1:=qR c
 have b2:=qR d
 have e1:((c.toNat:Int)==45)=(c==45):=fA c 45
 have e2:((d.toNat:Int)==45)=(d==45):=fA d 45
 refine ai rfl rfl Tryz.func176 rfl Tryz.ntmps176 ⟨by simp,by simp[LK]⟩ ?_
 have hr:Tryz.f176.results=#[.tmp 4]:=rfl
 cases h1:Tk.begins c
 ·rw[h1] at b1
  cases h2:(c==45)
  ·rw[h2] at e1
   simp only[go_sem,reduceLT,reduceCtorEq,reduceEqDiff,Nat.reduceBEq,reduceAdd,hr,d1,d2,b1,e1,aX i (by omega)]
   rfl
  ·rw[h2] at e1
   cases h3:Tk.begins d
   ·rw[h3] at b2
    cases h4:(d==45)
    ·rw[h4] at e2
     simp only[go_sem,reduceLT,reduceCtorEq,reduceEqDiff,Nat.reduceBEq,reduceAdd,hr,d1,d2,b1,b2,e1,e2,aX i (by omega)]
     rfl
    ·rw[h4] at e2
     simp only[go_sem,reduceLT,reduceCtorEq,reduceEqDiff,Nat.reduceBEq,reduceAdd,hr,d1,d2,b1,b2,e1,e2,hrun,aX i (by omega)]
   ·rw[h3] at b2
    simp only[go_sem,reduceLT,reduceCtorEq,reduceEqDiff,Nat.reduceBEq,reduceAdd,hr,d1,d2,b1,b2,e1,hrun,aX i (by omega)]
 ·rw[h1] at b1
  simp only[go_sem,reduceLT,reduceCtorEq,reduceEqDiff,Nat.reduceBEq,reduceAdd,hr,d1,d2,b1,hrun,aX i (by omega)]
inductive TS where
 | nils
 | live
 | wr (l:List Tok)
def TS.toks:TS→List Tok
 | .wr l=>l
 | _=>[]
def TS.cell:TS→CV
 | .nils=>.nils
 | .live=>.own 0 []
 | .wr l=>.own 91 (l.map Tok.enc)
abbrev scan (s:List UInt8)(x:TS):List CV:=[.pv (.str s),x.cell]
theorem DS (a b c:PV):lens 3 [[a,b,c]]=true:=rfl
theorem lG (l:List Tok):lens 3 (l.map Tok.enc)=true:=by simp[lens,Tok.enc]
theorem vT (s:List UInt8)(x:TS)(n:Nat)(h:n≤s.length):den K 210 [P0,I n] [scan s x]=some (.ret (.tup []) [scan (s.drop n) x]):=by
 refine ai rfl rfl Tryz.func210 rfl Tryz.ntmps210 ⟨by simp,by simp[LK]⟩ ?_
 have hr:Tryz.f210.results=#[]:=rfl
 have hb:((0:Int)≤(n:Int)∧(n:Int)≤(s.length:Int))=True:=eq_true (by omega)
 have hd:(s.take s.length).drop n=s.drop n:=by rw[List.take_length]
 cases x<;>simp only[TS.cell,scan,go_sem,reduceLT,reduceCtorEq,reduceEqDiff,Nat.reduceBEq,reduceAdd,reduceLeDiff,ax aB,hr,hb,Int.toNat_natCast,hd]
theorem Jx (s:List UInt8)(x:TS)(n:Nat)(kind:Int)(text:List UInt8)(v:Int)(h:n≤s.length)(hx:x.toks.length<4000000000) :
  den K 181 [P0,I n,I kind,T text,I v] [scan s x]=some (.ret (.tup []) [scan (s.drop n) (.wr (x.toks++[⟨kind,text,v⟩]))]):=by
 refine ai rfl rfl Tryz.func181 rfl Tryz.ntmps181 ⟨by simp,by simp[LK]⟩ ?_
 have hr:Tryz.f181.results=#[]:=rfl
 have hsk:=vT s (.wr (x.toks++[⟨kind,text,v⟩])) n h
 have hl:x.toks.length+1<bS:=by simp[bS];omega
 cases x<;>simp only[TS.cell,TS.toks,scan,List.map_append,List.map_cons,List.map_nil,Tok.enc,List.nil_append,List.length_nil] at hsk hl ⊢ <;>
  simp only[go_sem,reduceLT,reduceCtorEq,reduceEqDiff,Nat.reduceBEq,reduceAdd,reduceLeDiff,reduceMul,aa ag al,ao (len:=1) aG bc ag ⟨rfl,by decide,by decide⟩,bq mQ,aU aG,hr,hsk,hl,wl,DS,lG]
attribute [local go_sem] NC QC Cg Nj
def Fv (r:List UInt8):Int:=match Tk.shut r with|some n=>(n:Int) - 2|none => -1
def mS (c:UInt8)(r:List UInt8):Int:=match Tk.inner c r with|some n=>(n:Int)|none => -1
theorem xy:∀ r:List UInt8,Lib.index r [42,47]=Fv r
 | []=>rfl
 | b::l=>by
  have ih:=xy l
  have e:Lib.index (b::l) [42,47]=if [42,47].isPrefixOf (b::l) then 0 else if Lib.index l [42,47] == -1 then -1 else Lib.index l [42,47]+1:=rfl
  rw[e,ih];have hp:([42,47].isPrefixOf (b::l)=true)↔(b=42∧Tk.at0 l=47):=by
   cases l with
   | nil =>
    refine⟨fun h => ?_,fun h=>absurd h.2 (by decide)⟩
    simp[List.isPrefixOf] at h
   | cons d l =>
    simp only[List.isPrefixOf,Bool.and_true,Bool.and_eq_true,beq_iff_eq,Tk.at0];exact⟨fun h=>⟨h.1.symm,h.2.symm⟩,fun h=>⟨h.1.symm,h.2.symm⟩⟩
  by_cases h:b=42∧Tk.at0 l=47
  ·rw[if_pos (hp.2 h),Fv,Tk.shut,if_pos h];rfl
  ·rw[if_neg (fun x=>h (hp.1 x)),Fv,Fv,Tk.shut,if_neg h]
   cases hs:Tk.shut l with
   | none=>rfl
   | some n =>
    have:=Tk.vg hs
    simp only[Option.map_some];rw[if_neg (by rw[beq_iff_eq];omega)]
    omega
theorem yA (b:UInt8):([10,12,13]:List UInt8).contains b=Tk.ending b:=by
 unfold Tk.ending;simp only[List.contains_cons,List.contains_nil,Bool.or_false,Bool.or_assoc]
theorem tl (b:UInt8)(l:List UInt8):Lib.containsAny (b::l) [10,12,13]=(Tk.ending b||Lib.containsAny l [10,12,13]):=by
 unfold Lib.containsAny;have e:Lib.indexAny (b::l) [10,12,13]=if ([10,12,13]:List UInt8).contains b then 0 else if Lib.indexAny l [10,12,13] == -1 then -1 else Lib.indexAny l [10,12,13]+1:=rfl
 rw[e,yA];have hge:=Lib.indexAny_ge [10,12,13] l
 cases Tk.ending b
 ·simp only[Bool.false_eq_true,if_false,Bool.false_or];by_cases h:Lib.indexAny l [10,12,13] = -1
  ·rw[if_pos (by rw[h];rfl),h]
  ·rw[if_neg (by simpa using h)]
   exact decide_eq_decide.2 (by omega)
 ·rfl
theorem kO (b:UInt8)(l:List UInt8)(c:UInt8):Lib.indexByte (b::l) c=if b==c then 0 else if Lib.indexByte l c == -1 then -1 else Lib.indexByte l c+1:=rfl
theorem qZ (c:UInt8):∀ r:List UInt8,0≤Lib.indexByte r c→Lib.indexByte r c<(r.length:Int)
 | [],h=>absurd (show (0:Int) ≤ -1 from h) (by decide)
 | b::l,h=>by
  have ih:=qZ c l
  have hge:=Lib.indexByte_ge l c
  rw[kO] at h ⊢;simp only[List.length_cons];split at h
  ·omega
  ·split at h
   ·omega
   ·rename_i h2;have:Lib.indexByte l c ≠ -1:=by simpa using h2
    have:=ih (by omega)
    rw[if_neg h2];omega
theorem zT (c:UInt8):∀ r:List UInt8,mS c r=if 0≤Lib.indexByte r c∧Lib.containsAny (r.take (Lib.indexByte r c).toNat) [10,12,13]=true then -1 else Lib.indexByte r c
 | []=>rfl
 | b::l=>by
  have ih:=zT c l
  have hge:=Lib.indexByte_ge l c
  by_cases hb:b=c
  ·have e:Lib.indexByte (b::l) c=0:=by rw[kO,if_pos (by simp[hb])]
   have hc0:Lib.containsAny ((b::l).take (0:Int).toNat) [10,12,13]=false:=rfl
   rw[e,mS,Tk.inner,if_pos hb,hc0];rfl
  ·by_cases hm:Lib.indexByte l c = -1
   ·have e:Lib.indexByte (b::l) c = -1:=by rw[kO,if_neg (by simpa using hb),hm];rfl
    rw[hm,if_neg (by omega)] at ih
    rw[e,if_neg (by omega),mS,Tk.inner,if_neg hb]
    unfold mS at ih;cases hi:Tk.inner c l with
    | none=>cases Tk.ending b<;>rfl
    | some n=>rw[hi] at ih;simp only at ih;omega
   ·have e:Lib.indexByte (b::l) c=Lib.indexByte l c+1:=by rw[kO,if_neg (by simpa using hb),if_neg (by simpa using hm)]
    have ht:(Lib.indexByte l c+1).toNat=(Lib.indexByte l c).toNat+1:=by omega
    rw[e,ht,List.take_succ_cons,tl,mS,Tk.inner,if_neg hb];unfold mS at ih;cases he:Tk.ending b
    ·simp only[Bool.false_or,Bool.false_eq_true,if_false];by_cases hc:Lib.containsAny (l.take (Lib.indexByte l c).toNat) [10,12,13]=true
     ·rw[if_pos ⟨by omega,hc⟩]
      rw[if_pos ⟨by omega,hc⟩] at ih
      cases hi:Tk.inner c l with
      | none=>rfl
      | some n=>rw[hi] at ih;simp only at ih;omega
     ·rw[if_neg (fun x=>hc x.2)]
      rw[if_neg (fun x=>hc x.2)] at ih
      cases hi:Tk.inner c l with
      | none=>rw[hi] at ih;simp only at ih;omega
      | some n=>rw[hi] at ih;simp only at ih ⊢;simp only[Option.map_some];omega
    ·rw[Bool.true_or,if_pos (⟨by omega,rfl⟩:0≤Lib.indexByte l c+1∧true=true)]
     rfl
theorem LF (s p:List UInt8)(h:s.length<4294967281):den K 193 [T s,T p] []=some (.ret (I (Lib.index s p)) []):=by
 refine eX (F:=vU) rfl ?_
 simp[vU,h]
theorem kN (s:List UInt8)(c:UInt8):den K 179 [T s,U c] []=some (.ret (I (Lib.indexByte s c)) []):=by
 refine eX (F:=jH) rfl ?_
 simp[jH]
theorem ym (s p:List UInt8):den K 177 [T s,T p] []=some (.ret (B (Lib.hasPrefix s p)) []):=eX (F:=nT) rfl rfl
theorem AA (s:List UInt8)(h:s.length<4294967281):den K 230 [T s,T [10,12,13]] []=some (.ret (I (Lib.indexAny s [10,12,13])) []):=by
 refine eX (F:=nb) rfl ?_
 simp[nb,h]
theorem uS (s:List UInt8)(h:s.length<4294967281):den K 212 [T s,T [10,12,13]] []=some (.ret (B (Lib.containsAny s [10,12,13])) []):=by
 have d:=AA s h
 unfold Lib.containsAny;refine ai rfl rfl Tryz.func212 rfl Tryz.ntmps212 ⟨by simp,by simp[LK]⟩ ?_
 have hr:Tryz.f212.results=#[.tmp 4]:=rfl
 simp only[go_sem,reduceLT,reduceCtorEq,reduceEqDiff,Nat.reduceBEq,reduceAdd,hr,d]
theorem Cq (s:List UInt8)(x:TS)(hs:s.length<4000000000)(h:2≤s.length):den K 178 [P0] [scan s x]=some (.ret (.tup []) [scan (s.drop (Tk.comment (s.drop 2))) x]):=by
 have hi:=LF (s.drop 2) [42,47] (by simp;omega)
 rw[xy] at hi;unfold Fv at hi;refine ai rfl rfl Tryz.func178 rfl Tryz.ntmps178 ⟨by simp,by simp[LK]⟩ ?_
 have hr:Tryz.f178.results=#[]:=rfl
 have hb:((0:Int)≤2∧(2:Int)≤(s.length:Int))=True:=eq_true (by omega)
 have hd:(s.take s.length).drop 2=s.drop 2:=by rw[List.take_length]
 have t2:Int.toNat 2=2:=rfl
 unfold Tk.comment;cases hc:Tk.shut (s.drop 2) with
 | none =>
  rw[hc] at hi;have hsk:=vT s x s.length (Nat.le_refl _)
  have hn:decide ((-1:Int)<0)=true:=by decide
  have hlen:(s.drop 2).length+2=s.length:=by simp;omega
  rw[hlen];cases x<;>simp only[TS.cell,scan] at hsk ⊢ <;> simp only[go_sem,reduceLT,reduceCtorEq,reduceEqDiff,Nat.reduceBEq,reduceAdd,ax aB,aE aB,hr,hi,hb,t2,hd,hn,hsk]
 | some n =>
  rw[hc] at hi;have hle:=Tk.vg hc
  simp only[List.length_drop] at hle;have hsk:=vT s x (n+2) (by omega)
  have hn:decide ((n:Int) - 2<0)=false:=decide_eq_false (by omega)
  have w1:IntKind.i64.wrap (2+((n:Int) - 2))=(n:Int):=by rw[IntWalk.i64_in _ (by omega)];omega
  have w2:IntKind.i64.wrap ((n:Int)+2)=((n+2:Nat):Int):=by rw[IntWalk.i64_in _ (by omega)];rfl
  cases x<;>simp only[TS.cell,scan] at hsk ⊢ <;> simp only[go_sem,reduceLT,reduceCtorEq,reduceEqDiff,Nat.reduceBEq,reduceAdd,ax aB,aE aB,hr,hi,hb,t2,hd,hn,w1,w2,hsk]
theorem KC (s:List UInt8)(c:UInt8)(r:List UInt8)(x:TS)(hsr:s=c::r)(hs:s.length<4000000000):den K 183 [P0] [scan s x]=some (.ret (I (mS c r)) [scan s x]):=by
 have hb:((0:Int)≤1∧(1:Int)≤(s.length:Int))=True:=eq_true (by rw[hsr];simp;omega)
 have hd:(s.take s.length).drop 1=r:=by rw[List.take_length,hsr];rfl
 have hcell:s[(0:Int).toNat]? = some c:=by rw[hsr];rfl
 have hrs:r.length≤s.length:=by rw[hsr];simp
 clear hsr;have hi:=kN r c
 have hge:=Lib.indexByte_ge r c
 have hlt:=qZ c r
 rw[zT];generalize Lib.indexByte r c=n at hi hge hlt;refine ai rfl rfl Tryz.func183 rfl Tryz.ntmps183 ⟨by simp,by simp[LK]⟩ ?_
 have hr:Tryz.f183.results=#[.tmp 2]:=rfl
 have t1:Int.toNat 1=1:=rfl
 by_cases h0:0≤n
 ·have hc:=uS (r.take n.toNat) (by rw[List.length_take];omega)
  have hn:decide (0≤n)=true:=decide_eq_true h0
  have hb2:((0:Int)≤n∧n≤(r.length:Int))=True:=eq_true (by have:=hlt h0;omega)
  cases hv:Lib.containsAny (r.take n.toNat) [10,12,13]
  ·rw[hv] at hc;rw[if_neg (fun e=>by cases e.2)]
   cases x<;>simp only[TS.cell,scan]<;>simp only[go_sem,reduceLT,reduceCtorEq,reduceEqDiff,Nat.reduceBEq,reduceAdd,ax aB,bd aB,ax am,hr,hi,hb,hd,hn,t1,hb2,hc,hcell,Int.le_refl]
  ·rw[hv] at hc;rw[if_pos ⟨h0,rfl⟩];cases x<;>simp only[TS.cell,scan]<;>simp only[go_sem,reduceLT,reduceCtorEq,reduceEqDiff,Nat.reduceBEq,reduceAdd,ax aB,bd aB,ax am,hr,hi,hb,hd,hn,t1,hb2,hc,hcell,Int.le_refl]
 ·have hn:decide (0≤n)=false:=decide_eq_false h0
  rw[if_neg (fun e=>h0 e.1)]
  cases x<;>simp only[TS.cell,scan]<;>simp only[go_sem,reduceLT,reduceCtorEq,reduceEqDiff,Nat.reduceBEq,reduceAdd,ax aB,bd aB,hr,hi,hb,hd,hn,t1,hcell,Int.le_refl]
end Go.Abs
namespace Go.Abs.Tk
open Go
theorem Em (l:List UInt8):(l.take (unit l)).length≤l.length:=by rw[List.length_take];omega
theorem KA {c:UInt8}{r:List UInt8}{t:Tok}(h:(step c r).1=some t):t.text.length≤r.length+1:=by
 unfold step at h;split at h
 ·cases h
 split at h
 ·cases h;simp
 split at h
 ·cases h;simp only[List.length_take];omega
 split at h
 ·cases h;simp only[List.length_take];omega
 split at h
 ·cases h;simp only[List.length_take];omega
 split at h
 ·cases h
  have:=Em ((c::r).drop (run digit (c::r)))
  simp only[List.length_drop,List.length_cons] at this
  simp only[number];omega
 split at h
 ·cases h
  have:=Em (r.drop (run digit r))
  simp only[List.length_drop] at this
  simp only[number];omega
 split at h
 ·split at h
  ·cases h;simp only[List.length_take,List.length_cons];omega
  ·cases h;simp only[List.length_take,List.length_cons];omega
 ·cases h;simp
theorem CA (l:List UInt8):∀ t∈all l,t.text.length≤l.length:=by
 refine rM (Q:=fun l=>∀ t∈all l,t.text.length≤l.length) (fun t h=>by simp[all_nil] at h) (fun c r ih t ht => ?_) l
 rw[all_cons] at ht;rcases List.mem_append.1 ht with ht|ht
 ·have:=KA (by simpa[Option.mem_toList] using ht)
  simpa using this
 ·have:=ih t ht
  rw[List.length_drop] at this
  omega
end Go.Abs.Tk
namespace Go.Abs.Sl
theorem mb {n:Nat}:∀ {l:List Val},Ne.depth l≤n↔∀ v∈l,Ne.fH v≤n
 | []=>by rw[Ne.depth];simp
 | v::l=>by
  rw[Ne.depth,Nat.max_le,mb (l:=l)];simp
theorem Mv {l:List Val}{v:Val}(h:v∈trim l):v∈l:=by
 unfold trim at h;have h1:=List.mem_reverse.1 h
 have h2:=(List.dropWhile_sublist _).subset h1
 exact(List.dropWhile_sublist _).subset (List.mem_reverse.1 h2)
def OV (s:List UInt8):Option (List Val):=(Ne.parse 60 (Tk.all s)).map trim
end Go.Abs.Sl
namespace Go.Abs
namespace Sl
open Tk (cT sep within digit begins at0 all)
def GsT (l:List Sim):Prop:=∀ x∈l,Gs x∧3≤x.kind
def Gp:List Sim→Prop
 | []=>True
 | x::r=>Gs x∧GsT r
inductive Gc:Nat→Int→List Prt→List UInt8→Prop
 | last {n:Nat} {c:Int} {l:List Sim}:Gp l→l≠[]→l.length≤8→Gc (n+1) c [⟨c,l⟩] []
 | pse {n:Nat} {c:Int} {l:List Sim} {s:List UInt8}:Gp l→l.length≤8→(s=eH∨s=fJ)→Gc (n+1) c [⟨c,l⟩] s
 | more {n:Nat} {c d:Int} {l:List Sim} {ps:List Prt} {s:List UInt8}:Gp l→l≠[]→l.length≤8→1≤d∧d≤4→Gc n d ps s→Gc (n+1) c (⟨c,l⟩::ps) s
def ke (c:Cpx):Prop:=Gc 16 0 c.parts c.pseudo
def Fc (l:List Cpx):Prop:=l≠[]∧l.length≤32∧∀ c∈l,ke c
theorem ON {x:Sim}(h:Gs x)(hk:3≤x.kind)(z:List UInt8):eI (simS x++z):=by
 cases h with
 | any=>simp[Sim.kind] at hk
 | tag n hn hl=>simp[Sim.kind] at hk
 | id n hn hw=>rw[simS];exact n35 _
 | cls n hn=>rw[simS];exact n46 _
 | has n hn=>rw[simS];exact n91 _
 | is n v hn h1 h2=>rw[simS];exact n91 _
 | state n hn=>rw[simS];exact n58 _
 | nth a b ha hb=>rw[simS];exact n58 _
 | root=>rw[simS];exact n58 _
 | empty=>rw[simS];exact n58 _
 | not x hx hk=>rw[simS];exact n58 _
theorem LD {n:List UInt8}(h:cT n)(z:List UInt8):Tk.blank (at0 (n++z))=false:=by
 cases n with
 | nil=>exact absurd rfl (Tk.kH h)
 | cons c r =>
  have hw:=h.2 c (by simp)
  have e:at0 (c::r++z)=c:=rfl
  rw[e];cases hb:Tk.blank c with
  | false=>rfl
  | true =>
   have key:∀ b:Fin 256,Tk.blank (UInt8.ofNat b.1)=true→within (UInt8.ofNat b.1)=false:=by
    set_option maxRecDepth 100000 in decide
   have:=key ⟨c.toNat,c.toNat_lt⟩ (by simpa using hb)
   rw[UInt8.ofNat_toNat] at this
   rw[this] at hw;cases hw
theorem Po {x:Sim}(h:Gs x)(z:List UInt8):Tk.blank (at0 (simS x++z))=false:=by
 cases h with
 | any=>rfl
 | tag n hn hl=>rw[simS];exact LD hn z
 | id n hn hw=>rfl
 | cls n hn=>rfl
 | has n hn=>rfl
 | is n v hn h1 h2=>rfl
 | state n hn=>rfl
 | nth a b ha hb=>rfl
 | root=>rfl
 | empty=>rfl
 | not x hx hk=>rfl
theorem Au:∀ {l:List Sim},GsT l→∀ {y:List UInt8},eI y→eI (eY l++y)
 | [],_,y,hy=>by rw[eY];exact hy
 | x::l,h,y,hy=>by
  rw[eY,List.append_assoc];exact ON (h x (by simp)).1 (h x (by simp)).2 _
theorem wC:∀ {l:List Sim},GsT l→∀ {y:List UInt8},eI y→all (eY l++y)=Ne.flat (dq l)++all y
 | [],_,y,hy=>by rw[eY,dq,dl];rfl
 | x::l,h,y,hy=>by
  have hl:GsT l:=fun z hz=>h z (by simp[hz])
  rw[eY,dq,List.append_assoc,Dg (h x (by simp)).1 (Au hl hy),wC hl hy,jA,List.append_assoc]
theorem tQ:∀ {l:List Sim},Gp l→∀ {y:List UInt8},eI y→all (eY l++y)=Ne.flat (dq l)++all y
 | [],_,y,hy=>by rw[eY,dq,dl];rfl
 | x::l,h,y,hy=>by
  rw[eY,dq,List.append_assoc,Dg h.1 (Au h.2 hy),wC h.2 hy,jA,List.append_assoc]
theorem tj {c:Int}(hc:0≤c∧c≤4){z:List UInt8}(h:Tk.blank (at0 z)=false):all (lZ c++z)=Ne.flat (fG c)++all z:=by
 have:c=0∨c=1∨c=2∨c=3∨c=4:=by omega
 rcases this with rfl|rfl|rfl|rfl|rfl
 ·show all z=Ne.flat []++all z
  rw[dl];rfl
 ·show all (32::z)=Ne.flat [tv ⟨8,[10],0⟩]++all z
  rw[bW,dl,jX,a32 h];rfl
 ·show all (62::z)=Ne.flat [dv 62]++all z
  rw[bW,dl,jj,a62];rfl
 ·show all (43::z)=Ne.flat [dv 43]++all z
  rw[bW,dl,jj,a43];rfl
 ·show all (126::z)=Ne.flat [dv 126]++all z
  rw[bW,dl,jj,a126];rfl
theorem tR {c:Int}(hc:1≤c∧c≤4)(z:List UInt8):eI (lZ c++z):=by
 have:c=1∨c=2∨c=3∨c=4:=by omega
 rcases this with rfl|rfl|rfl|rfl
 ·exact BQ z
 ·exact n62 z
 ·exact n43 z
 ·exact n126 z
theorem Dt {s:List UInt8}(h:s=eH∨s=fJ):cT s:=by
 rcases h with rfl|rfl
 ·exact Ea
 ·exact HU
theorem tB {s:List UInt8}(h:s=eH∨s=fJ):s≠[]:=Tk.kH (Dt h)
theorem Pa {s:List UInt8}(h:s=eH∨s=fJ){y:List UInt8}(hy:eI y):all (pseS s++y)=Ne.flat (pseV s)++all y:=by
 unfold pseS pseV;rw[if_neg (tB h),if_neg (tB h),bW,bW,bW,dl,jj,mA,List.cons_append,List.cons_append,a58,a58,jN (Dt h) hy];rfl
theorem sS {l:List Sim}(h:Gp l)(hne:l≠[])(z:List UInt8):Tk.blank (at0 (eY l++z))=false:=by
 cases l with
 | nil=>exact absurd rfl hne
 | cons x r=>rw[eY,List.append_assoc];exact Po h.1 _
theorem GY {n:Nat}{c:Int}{ps:List Prt}{s:List UInt8}(h:Gc n c ps s):0≤c∧c≤4→∀ {y:List UInt8},eI y→all (ps.flatMap prtS++pseS s++y)=Ne.flat (ps.flatMap prtV++pseV s)++all y:=by
 induction h with
 | @last n c l hl hne hlen =>
  intro hc y hy;have e:[Prt.mk c l].flatMap prtS++pseS []++y=lZ c++(eY l++y):=by simp[prtS,pseS]
  have e2:[Prt.mk c l].flatMap prtV++pseV []=fG c++dq l:=by simp[prtV,pseV]
  rw[e,e2,tj hc (sS hl hne y),tQ hl hy,jA,List.append_assoc]
 | @pse n c l s hl hlen hs =>
  intro hc y hy;have e:[Prt.mk c l].flatMap prtS++pseS s++y=lZ c++(eY l++(pseS s++y)):=by simp[prtS]
  have e2:[Prt.mk c l].flatMap prtV++pseV s=fG c++(dq l++pseV s):=by simp[prtV]
  have hp:pseS s++y=58::58::(s++y):=by unfold pseS;rw[if_neg (tB hs)];rfl
  have hn:eI (pseS s++y):=by rw[hp];exact n58 _
  have hh:Tk.blank (at0 (eY l++(pseS s++y)))=false:=by
   cases l with
   | nil=>rw[eY,hp];rfl
   | cons x r=>exact sS hl (by simp) _
  rw[e,e2,tj hc hh,tQ hl hn,Pa hs hy,jA,jA,List.append_assoc,List.append_assoc]
 | @more n c d l ps s hl hne hlen hd hr ih =>
  intro hc y hy;have e:(Prt.mk c l::ps).flatMap prtS++pseS s++y=lZ c++(eY l++(ps.flatMap prtS++pseS s++y)):=by simp[prtS,List.flatMap_cons]
  have e2:(Prt.mk c l::ps).flatMap prtV++pseV s=fG c++(dq l++(ps.flatMap prtV++pseV s)):=by simp[prtV,List.flatMap_cons]
  have hn:eI (ps.flatMap prtS++pseS s++y):=by
   cases hr with
   | last h1 h2 h3=>simp only[List.flatMap_cons,List.flatMap_nil,List.append_nil,List.append_assoc,prtS];exact tR hd _
   | pse h1 h2 h3=>simp only[List.flatMap_cons,List.flatMap_nil,List.append_nil,List.append_assoc,prtS];exact tR hd _
   | more h1 h2 h3 h4 h5=>simp only[List.flatMap_cons,List.append_assoc,prtS];exact tR hd _
  rw[e,e2,tj hc (sS hl hne _),tQ hl hn,ih (by omega) hy,jA (fG c),jA (dq l),List.append_assoc,List.append_assoc]
theorem DR {c:Cpx}(h:ke c){y:List UInt8}(hy:eI y):all (cpxS c++y)=Ne.flat (cpxV c)++all y :=
 GY h (by decide) hy
theorem zm (l:List Cpx):eI (oM l):=by
 cases l with
 | nil=>exact FE
 | cons c l=>exact n44 _
theorem Ae:∀ {l:List Cpx},(∀ c∈l,ke c)→all (oM l)=Ne.flat (ia l)
 | [],_=>by show all []=Ne.flat [];rw[dl];rfl
 | c::l,h=>by
  have e:oM (c::l)=44::(cpxS c++oM l):=by simp[oM,List.flatMap_cons]
  have e2:ia (c::l)=dv 44::(cpxV c++ia l):=by simp[ia,List.flatMap_cons]
  rw[e,e2,a44,DR (h c (by simp)) (zm l),Ae (fun x hx=>h x (by simp[hx])),bW,jj,jA]
  rfl
theorem KU {c:Cpx}{l:List Cpx}(hc:ke c)(hl:∀ c∈l,ke c):all (cpxS c++oM l)=Ne.flat (cpxV c++ia l):=by
 rw[DR hc (zm l),Ae hl,jA]
end Sl
end Go.Abs
