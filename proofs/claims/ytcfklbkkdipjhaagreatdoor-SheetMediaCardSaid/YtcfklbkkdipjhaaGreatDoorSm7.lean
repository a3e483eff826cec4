/-
  WHAT THE FUNCTIONS COMPUTE, layer 2: are values the same?
  (And 14 texts more.)
-/
import Derived.Lib.Join
import Derived.Test.YtcfklbkkdipjhaaGreatDoorSm6
set_option maxHeartbeats 8000000
open Nat (reduceEqDiff reduceAdd reduceLT reduceLeDiff reduceSub reduceMul)
set_option linter.unusedSimpArgs false
set_option linter.unusedVariables false
namespace Go.Abs
open Go Go.Proofs
set_option maxRecDepth 10000
attribute [local go_sem] cG bA cj bF bH cF cf ce ay aV aR bw bU bg opd avOf cvOf St.degAt St.put okPV dr okAV cQ cR cP cv aj if_true Bool.false_eq_true if_false Option.map_some Option.map_none Option.bind_some Option.bind_none du dh upd List.toList_toArray bC steal aH mvB cX cw bR AV.deg CV.deg AV.gv AV.isIter co cg bG List.length_nil List.length_cons List.filterMap_cons List.filterMap_nil beq_iff_eq List.getElem?_cons_zero List.getElem?_cons_succ Option.getD_some eG fh Bool.false_and Bool.and_false Bool.and_self K_P fT bv bO aJ lend back idx dedup AV.ren CV.ren TV.ren AV.ptrs CV.ptrs ck AV.flat CV.flat bL bu az bV cz dK bD ar bK aQ bd bt aP dV CV.pv? content aN ownT aD reps pvs chunks aZ leave dT bW cN bf aK TV.deg TV.av LK CV.plain CV.noBld cq dS bound List.map_cons List.map_nil List.all_cons List.all_nil List.any_cons List.any_nil List.contains_cons List.contains_nil List.elem_cons List.elem_nil List.cons_append List.nil_append List.append_nil List.flatMap_cons List.flatMap_nil List.zip_cons_cons List.zip_nil_left List.zip_nil_right List.take_succ_cons List.take_zero List.take_nil List.drop_succ_cons List.drop_zero List.drop_nil List.isEmpty_nil List.isEmpty_cons Bool.and_true Bool.true_and Bool.or_true Bool.true_or Bool.or_false Bool.false_or Bool.not_true Bool.not_false Nat.add_zero Nat.zero_add Option.isNone_none Option.isNone_some Option.getD_none true_and and_true not_true_eq_false not_false_eq_true decide_true decide_false Nat.le_refl and_self Bool.not_eq_true Nat.sub_self or_true true_or Option.some.injEq List.length_map List.nil_eq and_false false_and AV.live CV.live CV.liveIn dX ax Option.orElse_some Option.orElse_none head aI aF Int.lt_irrefl List.length_append ite_self dt br bZ aY Key.clash Key.sees Key.writes Nat.lt_irrefl gt_iff_lt ci dp false_or or_false beq_self_eq_true Bool.true_beq Bool.false_beq
abbrev vG (k:Int) (t:Tok) (l:List Val):List CV:=[.pv (.int .i64 k),.pv (.int .i64 t.kind),.pv (.str t.text),.pv (.int .i64 t.n),.pv (.sl (encL l))]
theorem Sl.trim_len (l:List Val):(Sl.trim l).length≤l.length:=by
 unfold Sl.trim;rw[List.length_reverse];have h1:=(List.dropWhile_sublist Sl.aG (l:=(l.dropWhile Sl.aG).reverse)).length_le
 have h2:=(List.dropWhile_sublist Sl.aG (l:=l)).length_le
 rw[List.length_reverse] at h1;omega
abbrev encP (l:List (List Val)):List (List PV):=l.map fun p=>[.sl (encL p)]
attribute [local go_sem] cu cB bJ aW aq eF aU bS Cd xg wz Ce
theorem iz (k:Int) (t:Tok) (l:List Val):den K 96 [.agg (vG k t l)] []=some (.ret (B (Sl.aG (.mk k t l))) []):=by
 refine ak rfl rfl Tryz.func96 rfl Tryz.ntmps96 ⟨by simp,by simp[LK]⟩ ?_
 have hr:Tryz.f96.results=#[.tmp 2]:=rfl
 have hs:Sl.aG (.mk k t l)=((k==1)&&(t.kind==8)):=rfl
 rw[hs];cases e1:(k==1)
 ·simp only[go_sem,reduceLT,reduceEqDiff,Nat.reduceBEq,reduceAdd,reduceSub,reduceLeDiff,hr,e1]
 ·simp only[go_sem,reduceLT,reduceEqDiff,Nat.reduceBEq,reduceAdd,reduceSub,reduceLeDiff,hr,e1]
abbrev trH (l:List Val):St := { sl:=upd bot 0 (L (encL l)),bx:=nobox,nt:=33 }
noncomputable def trlp1:Code:=.loop (aO Tryz.f50 1)
noncomputable def trlp3:Code:=.loop (aO Tryz.f50 3)
theorem jo (k:Int) (t:Tok) (c r:List Val):(encL (.mk k t c::r))[(0:Int).toNat]? = some [.int .i64 k,.int .i64 t.kind,.str t.text,.int .i64 t.n,.sl (encL c)]:=rfl
theorem zA (v:Val) (r:List Val) (n:Nat) (h:n=r.length+1):((encL (v::r)).take n).drop (1:Int).toNat=encL r:=by
 subst h;rw[encL,List.take_of_length_le (by rw[List.length_cons,bc];omega)];rfl
theorem le00:((0:Int)≤0)=True:=by simp
theorem Bv (v:Val) (r:List Val) (hl:r.length≤100000000) (hb:Sl.aG v=true) :
  exL K 50 trlp1 (trH (v::r))=exL K 50 trlp1 (trH r):=by
 obtain⟨k,t,c⟩:=v;have hlt:decide ((0:Int)<(((r.length+1:Nat)):Int))=true:=decide_eq_true (by omega)
 have hget:=jo k t c r
 have hcut:=zA (.mk k t c) r (r.length+1) rfl
 have hb1:((0:Int)≤1∧(1:Int)≤((r.length+1:Nat):Int))=True:=by rw[eq_iff_iff];simp;omega
 have hlv:=kM (.mk k t c::r)
 have hd:=iz k t c
 rw[hb] at hd;unfold trlp1
 conv in aO _ _=>whnf
 conv in aO _ _=>whnf
 conv in exL _ _ _ (trH (.mk k t c::r))=>rw[aB]
 simp only[go_sem,reduceLT,reduceCtorEq,reduceEqDiff,Nat.reduceBEq,reduceAdd,ah af,ag af,cS af aU,bc,List.length_cons,hlt,hget,hd,hb1,hlv,hcut,le00];rw[bN];simp only[go_sem,reduceCtorEq]
theorem CY (v:Val) (r:List Val) (hl:r.length≤100000000) (hb:Sl.aG v=false) :
  Ends (exL K 50 trlp1 (trH (v::r))) fun o S=>o=.exit 0∧S.nt=33∧S.sl 0=L (encL (v::r)):=by
 obtain⟨k,t,c⟩:=v;have hlt:decide ((0:Int)<(((r.length+1:Nat)):Int))=true:=decide_eq_true (by omega)
 have hget:=jo k t c r
 have hd:=iz k t c
 rw[hb] at hd;unfold trlp1
 conv in aO _ _=>whnf
 rw[aB];simp only[go_sem,reduceLT,reduceCtorEq,reduceEqDiff,Nat.reduceBEq,reduceAdd,ah af,ag af,bc,List.length_cons,hlt,hget,hd,le00,aX]
theorem Bz:Ends (exL K 50 trlp1 (trH [])) fun o S=>o=.exit 0∧S.nt=33∧S.sl 0=L (encL []):=by
 have hlt:decide ((0:Int)<((0:Nat):Int))=false:=rfl
 unfold trlp1
 conv in aO _ _=>whnf
 rw[aB];simp only[go_sem,reduceLT,reduceCtorEq,reduceEqDiff,Nat.reduceBEq,reduceAdd,ah af,bc,List.length_nil,hlt,aX]
theorem ta:∀ (l:List Val),l.length≤100000000→Ends (exL K 50 trlp1 (trH l)) fun o S=>o=.exit 0∧S.nt=33∧S.sl 0=L (encL (l.dropWhile Sl.aG))
 | [],_=>Bz
 | v::r,hl=>by
  rw[List.length_cons] at hl;cases hb:Sl.aG v with
  | true =>
   rw[Bv v r (by omega) hb,List.dropWhile_cons,if_pos hb]
   exact ta r (by omega)
  | false =>
   rw[List.dropWhile_cons,if_neg (by rw[hb];simp)]
   exact CY v r (by omega) hb
theorem rX (m:List Val) (k:Int) (t:Tok) (c:List Val):(encL (m++[.mk k t c]))[((m.length:Nat):Int).toNat]? = some [.int .i64 k,.int .i64 t.kind,.str t.text,.int .i64 t.n,.sl (encL c)]:=by
 exact rY (m++[.mk k t c]) m.length (.mk k t c) (by simp)
theorem yZ (m:List Val) (v:Val):(encL (m++[v])).take m.length=encL m:=by
 rw[sX,List.take_append_of_le_length (by rw[bc];exact Nat.le_refl _),List.take_of_length_le (by rw[bc];exact Nat.le_refl _)]
theorem Bx (m:List Val) (v:Val) (hl:m.length≤100000000) (hb:Sl.aG v=true) :
  exL K 50 trlp3 (trH (m++[v]))=exL K 50 trlp3 (trH m):=by
 obtain⟨k,t,c⟩:=v;have hn:(encL (m++[.mk k t c])).length=m.length+1:=by rw[bc];simp
 have hlt:decide ((0:Int)<(((m.length+1:Nat)):Int))=true:=decide_eq_true (by omega)
 have hw:IntKind.i64.wrap (((m.length+1:Nat):Int) - 1)=(m.length:Int):=by rw[IntWalk.i64_in _ (by omega)];omega
 have hget:=rX m k t c
 have hcut:=yZ m (.mk k t c)
 have hb1:((m.length:Int)≤((m.length+1:Nat):Int))=True:=by rw[eq_iff_iff];simp;omega
 have hlv:=kM (m++[.mk k t c])
 have hd:=iz k t c
 rw[hb] at hd;rw[Int.toNat_natCast] at hget;unfold trlp3
 conv in aO _ _=>whnf
 conv in aO _ _=>whnf
 conv in exL _ _ _ (trH (m++[.mk k t c]))=>rw[aB]
 simp only[go_sem,reduceLT,reduceCtorEq,reduceEqDiff,Nat.reduceBEq,reduceAdd,ah af,ag af,cS af aU,hn,hlt,hw,Int.natCast_nonneg,Int.toNat_natCast,hget,hd,hb1,hlv,hcut];rw[bN];simp only[go_sem,reduceCtorEq]
theorem Cq (m:List Val) (v:Val) (hl:m.length≤100000000) (hb:Sl.aG v=false) :
  Ends (exL K 50 trlp3 (trH (m++[v]))) fun o S=>o=.exit 2∧S.nt=33∧S.sl 0=L (encL (m++[v])):=by
 obtain⟨k,t,c⟩:=v;have hn:(encL (m++[.mk k t c])).length=m.length+1:=by rw[bc];simp
 have hlt:decide ((0:Int)<(((m.length+1:Nat)):Int))=true:=decide_eq_true (by omega)
 have hw:IntKind.i64.wrap (((m.length+1:Nat):Int) - 1)=(m.length:Int):=by rw[IntWalk.i64_in _ (by omega)];omega
 have hget:=rX m k t c
 have hd:=iz k t c
 rw[hb] at hd;rw[Int.toNat_natCast] at hget;unfold trlp3
 conv in aO _ _=>whnf
 rw[aB];simp only[go_sem,reduceLT,reduceCtorEq,reduceEqDiff,Nat.reduceBEq,reduceAdd,ah af,ag af,hn,hlt,hw,Int.natCast_nonneg,Int.toNat_natCast,hget,hd,aX]
theorem BJ:Ends (exL K 50 trlp3 (trH [])) fun o S=>o=.exit 2∧S.nt=33∧S.sl 0=L (encL []):=by
 have hlt:decide ((0:Int)<((0:Nat):Int))=false:=rfl
 unfold trlp3
 conv in aO _ _=>whnf
 rw[aB];simp only[go_sem,reduceLT,reduceCtorEq,reduceEqDiff,Nat.reduceBEq,reduceAdd,ah af,bc,List.length_nil,hlt,aX]
theorem tu:∀ (n:Nat) (l:List Val),l.length=n→l.length≤100000000→Ends (exL K 50 trlp3 (trH l)) fun o S=>o=.exit 2∧S.nt=33∧S.sl 0=L (encL (l.reverse.dropWhile Sl.aG).reverse)
 | 0,l,h,_=>by
  obtain rfl:l=[]:=List.eq_nil_of_length_eq_zero h;exact BJ
 | n+1,l,h,hl=>by
  obtain⟨m,v,rfl⟩:∃ m v,l=m++[v]:=⟨l.dropLast,l.getLast (fun e=>by rw[e] at h;simp at h),(List.dropLast_concat_getLast _).symm⟩
  rw[List.length_append,List.length_singleton] at h hl;rw[List.reverse_append,List.reverse_singleton,List.singleton_append];cases hb:Sl.aG v with
  | true =>
   rw[Bx m v (by omega) hb,List.dropWhile_cons,if_pos hb]
   exact tu n m (by omega) (by omega)
  | false =>
   rw[List.dropWhile_cons,if_neg (by rw[hb];simp),List.reverse_cons,List.reverse_reverse]
   exact Cq m v (by omega) hb
theorem wB (l:List Val) (hl:l.length≤1000000000):den K 97 [L (encL l)] []=some (.ret (L (encL l)) []):=by
 refine ff (F:=rg) rfl ?_
 show (if (encL l).length≤1000000000∧(encL l).all (fun el=>el.length==5) then _ else none)=_
 have h2:(encL l).all (fun el=>el.length==5)=true:=kM l
 rw[if_pos ⟨by rw[bc];exact hl,h2⟩]
theorem gb (l:List Val) (hl:l.length≤100000000):den K 50 [L (encL l)] []=some (.ret (L (encL (Sl.trim l))) []):=by
 have h1:=ta l hl
 have hlen:=(List.dropWhile_sublist Sl.aG (l:=l)).length_le
 have h3:=tu _ (l.dropWhile Sl.aG) rfl (by omega)
 unfold trlp1 at h1
 conv at h1 in aO _ _=>whnf
 obtain⟨o,S,w,rfl,hn,s0⟩:=h1;unfold trlp3 at h3
 conv at h3 in aO _ _=>whnf
 obtain⟨o',S',w',rfl,hn',s0'⟩:=h3;have hc:=wB (Sl.trim l) (by have:=Sl.trim_len l;omega)
 have e:(((l.dropWhile Sl.aG).reverse).dropWhile Sl.aG).reverse=Sl.trim l:=rfl
 rw[e] at s0'
 refine ak rfl rfl Tryz.func50 rfl Tryz.ntmps50 ⟨by simp,by simp[LK]⟩ ?_
 have hr:Tryz.f50.results=#[.tmp 2]:=rfl
 simp only[go_sem,reduceLT,Nat.reduceBEq];rw[bN];simp only[go_sem,reduceCtorEq];erw [w];simp only[go_sem];rw[bN];simp only[go_sem,hn,s0];erw [w'];simp only[go_sem,reduceLT,reduceEqDiff,Nat.reduceBEq,reduceAdd,hr,hn',s0',hc]
theorem xL (s:List UInt8):SR.cD s=Sl.cD s:=by funext v;cases v;rfl
theorem uE:SR.aG=Sl.aG:=by funext v;cases v;rfl
theorem nF (p:Val→Bool):∀ l:List Val,cutL p l=Sl.cut p l
 | []=>rfl
 | v::l=>by
  rw[cutL,Sl.cut,nF p l]
  all_goals (cases Sl.cut p l<;>rfl)
theorem ru (s:List UInt8):∀ l:List Val,Sl.cut (Sl.cD s) l=Sl.at_ s l
 | []=>rfl
 | v::l=>by
  rw[Sl.cut,Sl.at_,ru s l]
  all_goals (cases Sl.at_ s l<;>rfl)
theorem BO (l:List Val) (s:List UInt8) (hl:Ne.size l≤100000000):den K 177 [L (encL l),T s] []=some (.ret (L (encP (Sl.at_ s l))) []):=by
 refine ff (F:=pAt) rfl ?_
 have hlen:=Ne.ed l
 show (match kX (encL l) with|some vs=>if vs.length≤100000000 then some ((.c (.pv (.sl (qq (cutL (SR.cD s) vs)))):AV),([]:List (List CV))) else none|none=>none)=_
 rw[sZ l (by omega)]
 simp only;rw[if_pos (by omega),xL,nF,ru]
theorem up (l:List Val) (hl:Ne.size l≤100000000):den K 175 [L (encL l)] []=some (.ret (L (encP (Sl.words l))) []):=by
 refine ff (F:=rE) rfl ?_
 have hlen:=Ne.ed l
 show (match kX (encL l) with|some vs=>if vs.length≤100000000 then some ((.c (.pv (.sl (qq (full (cutL SR.aG vs))))):AV),([]:List (List CV))) else none|none=>none)=_
 rw[sZ l (by omega)]
 simp only;rw[if_pos (by omega),uE,nF];rfl
theorem jg (a:List (List Val)):(encP a).length=a.length:=List.length_map ..
theorem AX (a:List (List Val)) (i:Nat) (p:List Val) (h:a[i]? = some p):(encP a)[(i:Int).toNat]? = some [.sl (encL p)]:=by
 rw[Int.toNat_natCast,List.getElem?_map,h];rfl
end Go.Abs
namespace Go.Abs
open Go Go.Proofs
theorem yl (c:UInt8):lowB c=Sl.low1 c:=by
 have e1:(65:UInt8)≤c↔65≤c.toNat:=UInt8.le_iff_toNat_le
 have e2:c≤(90:UInt8)↔c.toNat≤90:=UInt8.le_iff_toNat_le
 unfold lowB Sl.low1;by_cases h:65≤c.toNat∧c.toNat≤90
 ·rw[if_pos h,if_pos ⟨e1.2 h.1,e2.2 h.2⟩]
 ·rw[if_neg h,if_neg (fun k=>h ⟨e1.1 k.1,e2.1 k.2⟩)]
end Go.Abs
namespace Go.Abs
open Go Go.Proofs
set_option maxRecDepth 10000
attribute [local go_sem] cG bA cj bF bH cF cf ce ay aV aR bw bU bg opd avOf cvOf St.degAt St.put okPV dr okAV cQ cR cP cv aj if_true Bool.false_eq_true if_false Option.map_some Option.map_none Option.bind_some Option.bind_none du dh upd List.toList_toArray bC steal aH mvB cX cw bR AV.deg CV.deg AV.gv AV.isIter co cg bG List.length_nil List.length_cons List.filterMap_cons List.filterMap_nil beq_iff_eq List.getElem?_cons_zero List.getElem?_cons_succ Option.getD_some eG fh Bool.false_and Bool.and_false Bool.and_self K_P fT bv bO aJ lend back idx dedup AV.ren CV.ren TV.ren AV.ptrs CV.ptrs ck AV.flat CV.flat bL bu az bV cz dK bD ar bK aQ bd bt aP dV CV.pv? content aN ownT aD reps pvs chunks aZ leave dT bW cN bf aK TV.deg TV.av LK CV.plain CV.noBld cq dS bound List.map_cons List.map_nil List.all_cons List.all_nil List.any_cons List.any_nil List.contains_cons List.contains_nil List.elem_cons List.elem_nil List.cons_append List.nil_append List.append_nil List.flatMap_cons List.flatMap_nil List.zip_cons_cons List.zip_nil_left List.zip_nil_right List.take_succ_cons List.take_zero List.take_nil List.drop_succ_cons List.drop_zero List.drop_nil List.isEmpty_nil List.isEmpty_cons Bool.and_true Bool.true_and Bool.or_true Bool.true_or Bool.or_false Bool.false_or Bool.not_true Bool.not_false Nat.add_zero Nat.zero_add Option.isNone_none Option.isNone_some Option.getD_none true_and and_true not_true_eq_false not_false_eq_true decide_true decide_false Nat.le_refl and_self Bool.not_eq_true Nat.sub_self or_true true_or Option.some.injEq List.length_map List.nil_eq and_false false_and AV.live CV.live CV.liveIn dX ax Option.orElse_some Option.orElse_none head aI aF Int.lt_irrefl List.length_append ite_self dt br bZ aY Key.clash Key.sees Key.writes Nat.lt_irrefl gt_iff_lt ci dp false_or or_false beq_self_eq_true Bool.true_beq Bool.false_beq zp ov uL
abbrev U (c:UInt8):AV:=.c (.pv (.int .u8 c.toNat))
theorem yN (c:UInt8):Tk.digit c=(decide ((48:Int)≤(c.toNat:Int))&&decide ((c.toNat:Int)≤57)):=by
 unfold Tk.digit;rw[←Bool.decide_and];exact decide_eq_decide.2 (by omega)
theorem wV (c:UInt8):Tk.begins c=((decide ((97:Int)≤(c.toNat:Int))&&decide ((c.toNat:Int)≤122))||(decide ((65:Int)≤(c.toNat:Int))&&decide ((c.toNat:Int)≤90))||((c.toNat:Int)==95)||decide ((128:Int)≤(c.toNat:Int))):=by
 have e:((c.toNat:Int)==95)=decide ((c.toNat:Int)=95):=by
  by_cases h:(c.toNat:Int)=95<;>simp[h]
 rw[e];unfold Tk.begins;rw[←Bool.decide_and,←Bool.decide_and,←Bool.decide_or,←Bool.decide_or,←Bool.decide_or];exact decide_eq_decide.2 (by omega)
theorem iL (c d:UInt8):((c.toNat:Int)==(d.toNat:Int))=(c==d):=by
 by_cases e:c=d
 ·subst e;simp
 ·have:c.toNat≠d.toNat:=fun h2=>e (UInt8.toNat_inj.1 h2)
  rw[beq_eq_false_iff_ne.2 e,beq_eq_false_iff_ne.2 (by omega)]
theorem jO (c:UInt8):den K 161 [U c] []=some (.ret (B (Tk.digit c)) []):=by
 refine ak rfl rfl Tryz.func161 rfl Tryz.ntmps161 ⟨by simp,by simp[LK]⟩ ?_
 have hr:Tryz.f161.results=#[.tmp 2]:=rfl
 rw[yN];cases b1:decide ((48:Int)≤(c.toNat:Int))<;>cases b2:decide ((c.toNat:Int)≤57)<;>simp only[go_sem,reduceLT,reduceCtorEq,reduceEqDiff,Nat.reduceBEq,reduceAdd,hr,b1,b2]
theorem kD (c:UInt8):den K 209 [U c] []=some (.ret (B (Tk.begins c)) []):=by
 refine ak rfl rfl Tryz.func209 rfl Tryz.ntmps209 ⟨by simp,by simp[LK]⟩ ?_
 have hr:Tryz.f209.results=#[.tmp 2]:=rfl
 rw[wV];cases b1:decide ((97:Int)≤(c.toNat:Int))<;>cases b2:decide ((c.toNat:Int)≤122)<;>cases b3:decide ((65:Int)≤(c.toNat:Int))<;>cases b4:decide ((c.toNat:Int)≤90)<;>cases b5:((c.toNat:Int)==95)<;>cases b6:decide ((128:Int)≤(c.toNat:Int))<;>simp only[go_sem,reduceLT,reduceCtorEq,reduceEqDiff,Nat.reduceBEq,reduceAdd,hr,b1,b2,b3,b4,b5,b6]
theorem pu (c:UInt8):den K 160 [U c] []=some (.ret (B (Tk.within c)) []):=by
 have d1:=kD c
 have d2:=jO c
 have e45:((c.toNat:Int)==45)=(c==45):=iL c 45
 refine ak rfl rfl Tryz.func160 rfl Tryz.ntmps160 ⟨by simp,by simp[LK]⟩ ?_
 have hr:Tryz.f160.results=#[.tmp 2]:=rfl
 unfold Tk.within;cases b1:Tk.begins c<;>cases b2:Tk.digit c<;>cases b3:(c==45)<;>rw[b1] at d1<;>rw[b2] at d2<;>rw[b3] at e45<;>simp only[go_sem,reduceLT,reduceCtorEq,reduceEqDiff,Nat.reduceBEq,reduceAdd,hr,d1,d2,e45]
theorem zg (s:List UInt8) (i:Nat):(s[i]? = none∧Tk.at0 (s.drop i)=0∧s.length≤i)∨(i<s.length∧s[i]? = some (Tk.at0 (s.drop i))):=by
 by_cases h:i<s.length
 ·right
  refine⟨h,?_⟩
  rw[List.drop_eq_getElem_cons h,Tk.gz,List.getElem?_eq_getElem h]
 ·left
  refine⟨List.getElem?_eq_none (by omega),?_,by omega⟩
  rw[List.drop_eq_nil_of_le (by omega)];rfl
theorem kO (s:List UInt8) (i:Nat) (hs:s.length<1000000000000):den K 151 [T s,I i] []=some (.ret (U (Tk.at0 (s.drop i))) []):=by
 refine ak rfl rfl Tryz.func151 rfl Tryz.ntmps151 ⟨by simp,by simp[LK]⟩ ?_
 have hr:Tryz.f151.results=#[.tmp 4]:=rfl
 rcases zg s i with⟨h1,h2,h3⟩|⟨h1,h2⟩
 ·have hlt:decide ((i:Int)<(s.length:Int))=false:=decide_eq_false (by omega)
  rw[h2];simp only[go_sem,reduceLT,reduceCtorEq,reduceEqDiff,Nat.reduceBEq,reduceAdd,cy ae,fk ae,hr,hlt];rfl
 ·have hlt:decide ((i:Int)<(s.length:Int))=true:=decide_eq_true (by omega)
  simp only[go_sem,reduceLT,reduceCtorEq,reduceEqDiff,Nat.reduceBEq,reduceAdd,cy ae,fk ae,hr,hlt,Int.natCast_nonneg,Int.toNat_natCast,h2]
abbrev FN (f:Nat):AV:=.c (.fn f [])
abbrev runH (s:List UInt8) (from_:Nat) (f n:Nat):St := { sl:=upd (upd (upd (upd bot 7 (I n)) 2 (FN f)) 1 (I from_)) 0 (T s),bx:=upd nobox 100000 none,nt:=26 }
theorem zn (s:List UInt8) (hs:s.length<1000000000000) (p:UInt8→Bool) (f:Nat) (hg:K.good f=true) (hown:K.ownRet f=false) (hf:∀ c,den K f [U c] []=some (.ret (B (p c)) [])) (from_:Nat):∀ (rest:List UInt8) (n:Nat),s.drop (from_+n)=rest→from_+n≤s.length →
  Ends (exL K 158 (.loop (aO Tryz.f158 2)) (runH s from_ f n)) fun o S=>o=.exit 0∧S.sl 7=I (n+Tk.run p rest:Nat)∧S.nt=26:=by
 intro rest
 induction rest with
 | nil =>
  intro n hd hn;have hin:from_+n=s.length:=by
   have:=List.drop_eq_nil_iff.1 hd
   omega
  have w1:IntKind.i64.wrap ((from_:Int)+(n:Int))=((from_+n:Nat):Int):=by rw[IntWalk.i64_in _ (by omega)];rfl
  have hlt:decide (((from_+n:Nat):Int)<(s.length:Int))=false:=decide_eq_false (by omega)
  conv in aO _ _=>whnf
  rw[aB];simp only[go_sem,reduceLT,reduceCtorEq,reduceEqDiff,Nat.reduceBEq,reduceAdd,cy ae,aX,w1,hlt,Tk.Bu]
 | cons c rest ih =>
  intro n hd hn;obtain⟨g1,g2,g3⟩:=ij hd;have w1:IntKind.i64.wrap ((from_:Int)+(n:Int))=((from_+n:Nat):Int):=by rw[IntWalk.i64_in _ (by omega)];rfl
  have hlt:decide (((from_+n:Nat):Int)<(s.length:Int))=true:=decide_eq_true (by omega)
  have hc:=hf c
  have ih':=ih (n+1) g2 (by omega)
  conv at ih' in aO _ _=>whnf
  conv in aO _ _=>whnf
  rw[aB];cases hp:p c
  ·rw[hp] at hc;have hv:Tk.run p (c::rest)=0:=by rw[Tk.run,if_neg (by simp[hp])]
   simp only[go_sem,reduceLT,reduceCtorEq,reduceEqDiff,Nat.reduceBEq,reduceAdd,cy ae,fk ae,aX,w1,hlt,hg,hown,hc,Int.natCast_nonneg,Int.toNat_natCast,g1,hv]
  ·rw[hp] at hc;have hv:n+1+Tk.run p rest=n+Tk.run p (c::rest):=by rw[Tk.run,if_pos hp];omega
   rw[hv] at ih';simp only[go_sem,reduceLT,reduceCtorEq,reduceEqDiff,Nat.reduceBEq,reduceAdd,cy ae,fk ae,w1,hlt,hg,hown,hc,Int.natCast_nonneg,Int.toNat_natCast,g1,fN n (by omega)]
   rw[bN];simp only[go_sem,reduceCtorEq,reduceEqDiff];exact ih'
theorem ni (s:List UInt8) (hs:s.length<1000000000000) (p:UInt8→Bool) (f:Nat) (hg:K.good f=true) (hown:K.ownRet f=false) (hf:∀ c,den K f [U c] []=some (.ret (B (p c)) [])) (from_:Nat) (h:from_≤s.length):den K 158 [T s,I from_,FN f] []=some (.ret (I (Tk.run p (s.drop from_):Nat)) []):=by
 refine ak rfl rfl Tryz.func158 rfl Tryz.ntmps158 ⟨by simp,by simp[LK]⟩ ?_
 have hr:Tryz.f158.results=#[.tmp 6]:=rfl
 have hnext:=zn s hs p f hg hown hf from_ (s.drop from_) 0 rfl (by omega)
 conv at hnext in aO _ _=>whnf
 obtain⟨o,S',e,rfl,h7,hn⟩:=hnext;rw[Nat.zero_add] at h7;simp only[go_sem,reduceLT,Nat.reduceBEq];rw[bN];simp only[go_sem,reduceCtorEq,reduceEqDiff];erw [e];simp only[go_sem,reduceLT,reduceEqDiff,Nat.reduceBEq,reduceAdd,hr,h7,hn]
attribute [local go_sem] oc nN fo jK gV gD cM cm yT
theorem nW (s:List UInt8) (hs:s.length<4000000000) (i:Nat) (h:i≤s.length):den K 152 [T s,I i] []=some (.ret (I (Tk.name (s.drop i):Nat)) []):=by
 have d1:=kO s i (by omega)
 have d2:=kO s (i+1) (by omega)
 have ht:(s.drop i).tail=s.drop (i+1):=List.tail_drop
 have hrun:=ni s (by omega) Tk.within 160 sy rfl pu i h
 unfold Tk.name Tk.dJ;rw[ht];generalize Tk.at0 (s.drop i)=c at d1
 generalize Tk.at0 (s.drop (i+1))=d at d2
 have b1:=kD c
 have b2:=kD d
 have e1:((c.toNat:Int)==45)=(c==45):=iL c 45
 have e2:((d.toNat:Int)==45)=(d==45):=iL d 45
 refine ak rfl rfl Tryz.func152 rfl Tryz.ntmps152 ⟨by simp,by simp[LK]⟩ ?_
 have hr:Tryz.f152.results=#[.tmp 4]:=rfl
 cases h1:Tk.begins c
 ·rw[h1] at b1
  cases h2:(c==45)
  ·rw[h2] at e1
   simp only[go_sem,reduceLT,reduceCtorEq,reduceEqDiff,Nat.reduceBEq,reduceAdd,hr,d1,d2,b1,e1,fN i (by omega)]
   rfl
  ·rw[h2] at e1
   cases h3:Tk.begins d
   ·rw[h3] at b2
    cases h4:(d==45)
    ·rw[h4] at e2
     simp only[go_sem,reduceLT,reduceCtorEq,reduceEqDiff,Nat.reduceBEq,reduceAdd,hr,d1,d2,b1,b2,e1,e2,fN i (by omega)]
     rfl
    ·rw[h4] at e2
     simp only[go_sem,reduceLT,reduceCtorEq,reduceEqDiff,Nat.reduceBEq,reduceAdd,hr,d1,d2,b1,b2,e1,e2,hrun,fN i (by omega)]
   ·rw[h3] at b2
    simp only[go_sem,reduceLT,reduceCtorEq,reduceEqDiff,Nat.reduceBEq,reduceAdd,hr,d1,d2,b1,b2,e1,hrun,fN i (by omega)]
 ·rw[h1] at b1
  simp only[go_sem,reduceLT,reduceCtorEq,reduceEqDiff,Nat.reduceBEq,reduceAdd,hr,d1,d2,b1,hrun,fN i (by omega)]
inductive TS where
 | nils
 | live
 | wr (l:List Tok)
def TS.toks:TS→List Tok
 | .wr l=>l
 | _=>[]
def TS.cell:TS→CV
 | .nils=>.nils
 | .live=>.own 0 []
 | .wr l=>.own 56 (l.map Tok.enc)
abbrev scan (s:List UInt8) (x:TS):List CV:=[.pv (.str s),x.cell]
theorem yJ (a b c:PV):lens 3 [[a,b,c]]=true:=rfl
theorem ik (l:List Tok):lens 3 (l.map Tok.enc)=true:=by simp[lens,Tok.enc]
theorem nU (s:List UInt8) (x:TS) (n:Nat) (h:n≤s.length):den K 212 [P0,I n] [scan s x]=some (.ret (.tup []) [scan (s.drop n) x]):=by
 refine ak rfl rfl Tryz.func212 rfl Tryz.ntmps212 ⟨by simp,by simp[LK]⟩ ?_
 have hr:Tryz.f212.results=#[]:=rfl
 have hb:((0:Int)≤(n:Int)∧(n:Int)≤(s.length:Int))=True:=eq_true (by omega)
 have hd:(s.take s.length).drop n=s.drop n:=by rw[List.take_length]
 cases x<;>simp only[TS.cell,scan,go_sem,reduceLT,reduceCtorEq,reduceEqDiff,Nat.reduceBEq,reduceAdd,reduceLeDiff,ai ae,hr,hb,Int.toNat_natCast,hd]
theorem vV (s:List UInt8) (x:TS) (n:Nat) (kind:Int) (text:List UInt8) (v:Int) (h:n≤s.length) (hx:x.toks.length<4000000000) :
  den K 157 [P0,I n,I kind,T text,I v] [scan s x]=some (.ret (.tup []) [scan (s.drop n) (.wr (x.toks++[⟨kind,text,v⟩]))]):=by
 refine ak rfl rfl Tryz.func157 rfl Tryz.ntmps157 ⟨by simp,by simp[LK]⟩ ?_
 have hr:Tryz.f157.results=#[]:=rfl
 have hsk:=nU s (.wr (x.toks++[⟨kind,text,v⟩])) n h
 have hl:x.toks.length+1<fg:=by simp[fg];omega
 cases x<;>simp only[TS.cell,TS.toks,scan,List.map_append,List.map_cons,List.map_nil,Tok.enc,List.nil_append,List.length_nil] at hsk hl ⊢ <;>
  simp only[go_sem,reduceLT,reduceCtorEq,reduceEqDiff,Nat.reduceBEq,reduceAdd,reduceLeDiff,reduceMul,bh ao ee,bo (len:=1) au aq ao ⟨rfl,by decide,by decide⟩,eZ py,dk au,hr,hsk,hl,yX,yJ,ik]
attribute [local go_sem] zH yU tx AH
def tV (r:List UInt8):Int:=match Tk.shut r with|some n=>(n:Int) - 2|none => -1
def gS (c:UInt8) (r:List UInt8):Int:=match Tk.inner c r with|some n=>(n:Int)|none => -1
theorem nJ:∀ r:List UInt8,Lib.index r [42,47]=tV r
 | []=>rfl
 | b::l=>by
  have ih:=nJ l
  have e:Lib.index (b::l) [42,47]=if [42,47].isPrefixOf (b::l) then 0 else if Lib.index l [42,47] == -1 then -1 else Lib.index l [42,47]+1:=rfl
  rw[e,ih];have hp:([42,47].isPrefixOf (b::l)=true)↔(b=42∧Tk.at0 l=47):=by
   cases l with
   | nil =>
    refine⟨fun h => ?_,fun h=>absurd h.2 (by decide)⟩
    simp[List.isPrefixOf] at h
   | cons d l =>
    simp only[List.isPrefixOf,Bool.and_true,Bool.and_eq_true,beq_iff_eq,Tk.at0];exact⟨fun h=>⟨h.1.symm,h.2.symm⟩,fun h=>⟨h.1.symm,h.2.symm⟩⟩
  by_cases h:b=42∧Tk.at0 l=47
  ·rw[if_pos (hp.2 h),tV,Tk.shut,if_pos h];rfl
  ·rw[if_neg (fun x=>h (hp.1 x)),tV,tV,Tk.shut,if_neg h]
   cases hs:Tk.shut l with
   | none=>rfl
   | some n =>
    have:=Tk.nw hs
    simp only[Option.map_some];rw[if_neg (by rw[beq_iff_eq];omega)]
    omega
theorem pH (b:UInt8):([10,12,13]:List UInt8).contains b=Tk.ending b:=by
 unfold Tk.ending;simp only[List.contains_cons,List.contains_nil,Bool.or_false,Bool.or_assoc]
theorem mq (b:UInt8) (l:List UInt8):Lib.containsAny (b::l) [10,12,13]=(Tk.ending b||Lib.containsAny l [10,12,13]):=by
 unfold Lib.containsAny;have e:Lib.indexAny (b::l) [10,12,13]=if ([10,12,13]:List UInt8).contains b then 0 else if Lib.indexAny l [10,12,13] == -1 then -1 else Lib.indexAny l [10,12,13]+1:=rfl
 rw[e,pH];have hge:=Lib.indexAny_ge [10,12,13] l
 cases Tk.ending b
 ·simp only[Bool.false_eq_true,if_false,Bool.false_or];by_cases h:Lib.indexAny l [10,12,13] = -1
  ·rw[if_pos (by rw[h];rfl),h]
  ·rw[if_neg (by simpa using h)]
   exact decide_eq_decide.2 (by omega)
 ·rfl
theorem fH (b:UInt8) (l:List UInt8) (c:UInt8):Lib.indexByte (b::l) c=if b==c then 0 else if Lib.indexByte l c == -1 then -1 else Lib.indexByte l c+1:=rfl
theorem lv (c:UInt8):∀ r:List UInt8,0≤Lib.indexByte r c→Lib.indexByte r c<(r.length:Int)
 | [],h=>absurd (show (0:Int) ≤ -1 from h) (by decide)
 | b::l,h=>by
  have ih:=lv c l
  have hge:=Lib.indexByte_ge l c
  rw[fH] at h ⊢;simp only[List.length_cons];split at h
  ·omega
  ·split at h
   ·omega
   ·rename_i h2;have:Lib.indexByte l c ≠ -1:=by simpa using h2
    have:=ih (by omega)
    rw[if_neg h2];omega
theorem pX (c:UInt8):∀ r:List UInt8,gS c r=if 0≤Lib.indexByte r c∧Lib.containsAny (r.take (Lib.indexByte r c).toNat) [10,12,13]=true then -1 else Lib.indexByte r c
 | []=>rfl
 | b::l=>by
  have ih:=pX c l
  have hge:=Lib.indexByte_ge l c
  by_cases hb:b=c
  ·have e:Lib.indexByte (b::l) c=0:=by rw[fH,if_pos (by simp[hb])]
   have hc0:Lib.containsAny ((b::l).take (0:Int).toNat) [10,12,13]=false:=rfl
   rw[e,gS,Tk.inner,if_pos hb,hc0];rfl
  ·by_cases hm:Lib.indexByte l c = -1
   ·have e:Lib.indexByte (b::l) c = -1:=by rw[fH,if_neg (by simpa using hb),hm];rfl
    rw[hm,if_neg (by omega)] at ih
    rw[e,if_neg (by omega),gS,Tk.inner,if_neg hb]
    unfold gS at ih;cases hi:Tk.inner c l with
    | none=>cases Tk.ending b<;>rfl
    | some n=>rw[hi] at ih;simp only at ih;omega
   ·have e:Lib.indexByte (b::l) c=Lib.indexByte l c+1:=by rw[fH,if_neg (by simpa using hb),if_neg (by simpa using hm)]
    have ht:(Lib.indexByte l c+1).toNat=(Lib.indexByte l c).toNat+1:=by omega
    rw[e,ht,List.take_succ_cons,mq,gS,Tk.inner,if_neg hb];unfold gS at ih;cases he:Tk.ending b
    ·simp only[Bool.false_or,Bool.false_eq_true,if_false];by_cases hc:Lib.containsAny (l.take (Lib.indexByte l c).toNat) [10,12,13]=true
     ·rw[if_pos ⟨by omega,hc⟩]
      rw[if_pos ⟨by omega,hc⟩] at ih
      cases hi:Tk.inner c l with
      | none=>rfl
      | some n=>rw[hi] at ih;simp only at ih;omega
     ·rw[if_neg (fun x=>hc x.2)]
      rw[if_neg (fun x=>hc x.2)] at ih
      cases hi:Tk.inner c l with
      | none=>rw[hi] at ih;simp only at ih;omega
      | some n=>rw[hi] at ih;simp only at ih ⊢;simp only[Option.map_some];omega
    ·rw[Bool.true_or,if_pos (⟨by omega,rfl⟩:0≤Lib.indexByte l c+1∧true=true)]
     rfl
theorem ww (s p:List UInt8) (h:s.length<4294967281):den K 211 [T s,T p] []=some (.ret (I (Lib.index s p)) []):=by
 refine ff (F:=oZ) rfl ?_
 simp[oZ,h]
theorem fE (s:List UInt8) (c:UInt8):den K 155 [T s,U c] []=some (.ret (I (Lib.indexByte s c)) []):=by
 refine ff (F:=eR) rfl ?_
 simp[eR]
theorem pG (s p:List UInt8):den K 153 [T s,T p] []=some (.ret (B (Lib.hasPrefix s p)) []):=ff (F:=iE) rfl rfl
theorem rr (s:List UInt8) (h:s.length<4294967281):den K 252 [T s,T [10,12,13]] []=some (.ret (I (Lib.indexAny s [10,12,13])) []):=by
 refine ff (F:=ip) rfl ?_
 simp[ip,h]
theorem nb (s:List UInt8) (h:s.length<4294967281):den K 214 [T s,T [10,12,13]] []=some (.ret (B (Lib.containsAny s [10,12,13])) []):=by
 have d:=rr s h
 unfold Lib.containsAny;refine ak rfl rfl Tryz.func214 rfl Tryz.ntmps214 ⟨by simp,by simp[LK]⟩ ?_
 have hr:Tryz.f214.results=#[.tmp 4]:=rfl
 simp only[go_sem,reduceLT,reduceCtorEq,reduceEqDiff,Nat.reduceBEq,reduceAdd,hr,d]
theorem sj (s:List UInt8) (x:TS) (hs:s.length<4000000000) (h:2≤s.length):den K 154 [P0] [scan s x]=some (.ret (.tup []) [scan (s.drop (Tk.comment (s.drop 2))) x]):=by
 have hi:=ww (s.drop 2) [42,47] (by simp;omega)
 rw[nJ] at hi;unfold tV at hi;refine ak rfl rfl Tryz.func154 rfl Tryz.ntmps154 ⟨by simp,by simp[LK]⟩ ?_
 have hr:Tryz.f154.results=#[]:=rfl
 have hb:((0:Int)≤2∧(2:Int)≤(s.length:Int))=True:=eq_true (by omega)
 have hd:(s.take s.length).drop 2=s.drop 2:=by rw[List.take_length]
 have t2:Int.toNat 2=2:=rfl
 unfold Tk.comment;cases hc:Tk.shut (s.drop 2) with
 | none =>
  rw[hc] at hi;have hsk:=nU s x s.length (Nat.le_refl _)
  have hn:decide ((-1:Int)<0)=true:=by decide
  have hlen:(s.drop 2).length+2=s.length:=by simp;omega
  rw[hlen];cases x<;>simp only[TS.cell,scan] at hsk ⊢ <;> simp only[go_sem,reduceLT,reduceCtorEq,reduceEqDiff,Nat.reduceBEq,reduceAdd,ai ae,cy ae,hr,hi,hb,t2,hd,hn,hsk]
 | some n =>
  rw[hc] at hi;have hle:=Tk.nw hc
  simp only[List.length_drop] at hle;have hsk:=nU s x (n+2) (by omega)
  have hn:decide ((n:Int) - 2<0)=false:=decide_eq_false (by omega)
  have w1:IntKind.i64.wrap (2+((n:Int) - 2))=(n:Int):=by rw[IntWalk.i64_in _ (by omega)];omega
  have w2:IntKind.i64.wrap ((n:Int)+2)=((n+2:Nat):Int):=by rw[IntWalk.i64_in _ (by omega)];rfl
  cases x<;>simp only[TS.cell,scan] at hsk ⊢ <;> simp only[go_sem,reduceLT,reduceCtorEq,reduceEqDiff,Nat.reduceBEq,reduceAdd,ai ae,cy ae,hr,hi,hb,t2,hd,hn,w1,w2,hsk]
theorem wX (s:List UInt8) (c:UInt8) (r:List UInt8) (x:TS) (hsr:s=c::r) (hs:s.length<4000000000):den K 159 [P0] [scan s x]=some (.ret (I (gS c r)) [scan s x]):=by
 have hb:((0:Int)≤1∧(1:Int)≤(s.length:Int))=True:=eq_true (by rw[hsr];simp;omega)
 have hd:(s.take s.length).drop 1=r:=by rw[List.take_length,hsr];rfl
 have hcell:s[(0:Int).toNat]? = some c:=by rw[hsr];rfl
 have hrs:r.length≤s.length:=by rw[hsr];simp
 clear hsr;have hi:=fE r c
 have hge:=Lib.indexByte_ge r c
 have hlt:=lv c r
 rw[pX];generalize Lib.indexByte r c=n at hi hge hlt;refine ak rfl rfl Tryz.func159 rfl Tryz.ntmps159 ⟨by simp,by simp[LK]⟩ ?_
 have hr:Tryz.f159.results=#[.tmp 2]:=rfl
 have t1:Int.toNat 1=1:=rfl
 by_cases h0:0≤n
 ·have hc:=nb (r.take n.toNat) (by rw[List.length_take];omega)
  have hn:decide (0≤n)=true:=decide_eq_true h0
  have hb2:((0:Int)≤n∧n≤(r.length:Int))=True:=eq_true (by have:=hlt h0;omega)
  cases hv:Lib.containsAny (r.take n.toNat) [10,12,13]
  ·rw[hv] at hc;rw[if_neg (fun e=>by cases e.2)]
   cases x<;>simp only[TS.cell,scan]<;>simp only[go_sem,reduceLT,reduceCtorEq,reduceEqDiff,Nat.reduceBEq,reduceAdd,ai ae,fk ae,ai ek,hr,hi,hb,hd,hn,t1,hb2,hc,hcell,Int.le_refl]
  ·rw[hv] at hc;rw[if_pos ⟨h0,rfl⟩];cases x<;>simp only[TS.cell,scan]<;>simp only[go_sem,reduceLT,reduceCtorEq,reduceEqDiff,Nat.reduceBEq,reduceAdd,ai ae,fk ae,ai ek,hr,hi,hb,hd,hn,t1,hb2,hc,hcell,Int.le_refl]
 ·have hn:decide (0≤n)=false:=decide_eq_false h0
  rw[if_neg (fun e=>h0 e.1)]
  cases x<;>simp only[TS.cell,scan]<;>simp only[go_sem,reduceLT,reduceCtorEq,reduceEqDiff,Nat.reduceBEq,reduceAdd,ai ae,fk ae,hr,hi,hb,hd,hn,t1,hcell,Int.le_refl]
end Go.Abs
namespace Go.Abs
structure Dcl where
 name:List UInt8
 l:List Val
 imp:Bool
namespace Sl
def BG:List UInt8→Bool
 | a::b::_=>a==45&&b==45
 | _=>false
def proper (s:List UInt8):List UInt8:=if BG s then s else low s
def vY:Val→Bool
 | .mk k t _=>k==1&&t.kind==1
def Af:Val→List UInt8
 | .mk _ t _=>t.text
def uy:List UInt8:=[105,109,112,111,114,116,97,110,116]
def Cj:List Val→Option (List Val)
 | v::r=>if vY v&&low (Af v)==uy then(match r.dropWhile aG with
   | w::r2=>if cD [33] w then some (r2.dropWhile aG).reverse else none
   | []=>none) else none
 | []=>none
def strong (l:List Val):Option (List Val):=Cj l.reverse
def AQ (s:List UInt8) (l:List Val):Bool:=l.any (cD s)
def fits (l:List Val):Bool := !l.isEmpty&&(!AQ [33] l&&decide (Ne.depth l≤56))
def AD (name:List UInt8) (b:List Val):Dcl:=match strong b with
 | some y=>⟨proper name,y,true⟩
 | none=>⟨proper name,b,false⟩
def Dr (v:List Val):Option Dcl:=match trim v with
 | x::r=>if vY x then(match r.dropWhile aG with
   | c::r2=>if cD [58] c then(if fits (AD (Af x) (trim r2)).l then some (AD (Af x) (trim r2)) else none) else none
   | []=>none) else none
 | []=>none
def zX (l:List Val):List Dcl:=(at_ [59] l).filterMap Dr
end Sl
end Go.Abs
namespace Go.Abs
inductive Itm where
 | mk (kind:Int) (sels:List Cpx) (decls:List Dcl) (names:List (List UInt8)) (min max:Int) (vals:List Val) (l:List Itm)
namespace Sh
open Sl (cD aG trim at_ low words dv iv tv)
def Dz:Val→Int
 | .mk k _ _=>k
def inner:Val→List Val
 | .mk _ _ l=>l
def tokV:Val→Tok
 | .mk _ t _=>t
def isK (kind:Int):Val→Bool
 | .mk k t _=>k==1&&t.kind==kind
structure Stm where
 isAt:Bool
 name:List UInt8
 pre:List Val
 block:List Val
 ends:Bool
def word (l:List Val):List UInt8:=match trim l with
 | [v]=>if isK 1 v then(tokV v).text else []
 | _=>[]
def jC:List UInt8:=[109,101,100,105,97]
def minT:List UInt8:=[109,105,110,45,119,105,100,116,104]
def maxT:List UInt8:=[109,97,120,45,119,105,100,116,104]
def andT:List UInt8:=[97,110,100]
def pxT:List UInt8:=[112,120]
def cond (v:Val):Option (List UInt8×Int) :=
 if Dz v=2 then match at_ [58] (inner v) with
  | [a,b]=>if word a=[] then none else(match trim b with
   | [n]=>if isK 5 n=true∧(tokV n).text=pxT∧0≤(tokV n).n∧(tokV n).n≤100000 then some (word a,(tokV n).n) else none
   | _=>none)
  | _=>none
 else none
def narrow (mn mx:Int) (v:Val):Option (Int×Int):=match cond v with
 | none=>none
 | some (s,n)=>if s=minT then some (max mn n,mx) else if s=maxT then some (mn,if mx<0 then n else min mx n) else none
def conds:Bool→Int→Int→List (List Val)→Option (Int×Int)
 | _,mn,mx,[]=>some (mn,mx)
 | true,mn,mx,w::ws=>match w with
  | [v]=>if isK 1 v=true∧low (tokV v).text=andT then conds false mn mx ws else none
  | _=>none
 | false,mn,mx,w::ws=>match w with
  | [v]=>(match narrow mn mx v with
   | some (a,b)=>conds true a b ws
   | none=>none)
  | _=>none
def rule (s:Stm):Option Itm:=match Sl.parse (trim s.pre) with
 | some l=>if (Sl.zX s.block).isEmpty then none else some (.mk 1 l (Sl.zX s.block) [] 0 0 [] [])
 | none=>none
def whV:Val:=tv ⟨8,[10],0⟩
end Sh
end Go.Abs
namespace Go.Abs
open Go Go.Proofs
set_option maxRecDepth 10000
attribute [local go_sem] cG bA cj bF bH cF cf ce ay aV aR bw bU bg opd avOf cvOf St.degAt St.put okPV dr okAV cQ cR cP cv aj if_true Bool.false_eq_true if_false Option.map_some Option.map_none Option.bind_some Option.bind_none du dh upd List.toList_toArray bC steal aH mvB cX cw bR AV.deg CV.deg AV.gv AV.isIter co cg bG List.length_nil List.length_cons List.filterMap_cons List.filterMap_nil beq_iff_eq List.getElem?_cons_zero List.getElem?_cons_succ Option.getD_some eG fh Bool.false_and Bool.and_false Bool.and_self K_P fT bv bO aJ lend back idx dedup AV.ren CV.ren TV.ren AV.ptrs CV.ptrs ck AV.flat CV.flat bL bu az bV cz dK bD ar bK aQ bd bt aP dV CV.pv? content aN ownT aD reps pvs chunks aZ leave dT bW cN bf aK TV.deg TV.av LK CV.plain CV.noBld cq dS bound List.map_cons List.map_nil List.all_cons List.all_nil List.any_cons List.any_nil List.contains_cons List.contains_nil List.elem_cons List.elem_nil List.cons_append List.nil_append List.append_nil List.flatMap_cons List.flatMap_nil List.zip_cons_cons List.zip_nil_left List.zip_nil_right List.take_succ_cons List.take_zero List.take_nil List.drop_succ_cons List.drop_zero List.drop_nil List.isEmpty_nil List.isEmpty_cons Bool.and_true Bool.true_and Bool.or_true Bool.true_or Bool.or_false Bool.false_or Bool.not_true Bool.not_false Nat.add_zero Nat.zero_add Option.isNone_none Option.isNone_some Option.getD_none true_and and_true not_true_eq_false not_false_eq_true decide_true decide_false Nat.le_refl and_self Bool.not_eq_true Nat.sub_self or_true true_or Option.some.injEq List.length_map List.nil_eq and_false false_and AV.live CV.live CV.liveIn dX ax Option.orElse_some Option.orElse_none head aI aF Int.lt_irrefl List.length_append ite_self dt br bZ aY Key.clash Key.sees Key.writes Nat.lt_irrefl gt_iff_lt ci dp false_or or_false beq_self_eq_true Bool.true_beq Bool.false_beq cu cB bJ aW aq eF ng aU bS oP fu fa cU
theorem uk (s:List UInt8) (h:s.length<1000000000):den K 102 [T s] []=some (.ret (T (Sl.low s)) []):=by
 have e:Sl.low s=s.map lowB:=by unfold Sl.low;exact List.map_congr_left fun c _=>(yl c).symm
 rw[e];exact ff (F:=lA) rfl (by unfold lA;simp only;rw[if_pos (by unfold bz;omega)])
theorem ji (k:Int) (t:Tok) (l:List Val) (n:Int):den K 101 [.agg (vG k t l),I n] []=some (.ret (B (Sh.isK n (.mk k t l))) []):=by
 have hr:Tryz.f101.results=#[.tmp 4]:=rfl
 refine ak rfl rfl Tryz.func101 rfl Tryz.ntmps101 ⟨by simp,by simp[LK]⟩ ?_
 have hs:Sh.isK n (.mk k t l)=((k==1)&&(t.kind==n)):=rfl
 rw[hs];cases e1:(k==1)
 ·simp only[go_sem,reduceLT,reduceEqDiff,Nat.reduceBEq,reduceAdd,reduceSub,reduceLeDiff,hr,e1]
 ·simp only[go_sem,reduceLT,reduceEqDiff,Nat.reduceBEq,reduceAdd,reduceSub,reduceLeDiff,hr,e1]
theorem xE (l:List Val) (hl:l.length≤100000000):den K 173 [L (encL l)] []=some (.ret (.tup [.c (.pv (.str (Sh.word l))),.c (.pv (.bool (!(Sh.word l==[]))))]) []):=by
 have hr:Tryz.f173.results=#[.tmp 2,.tmp 3]:=rfl
 have ht:=gb l hl
 unfold Sh.word;generalize Sl.trim l=m at ht
 match m,ht with
 | [],ht =>
  have e1:((((encL []).length:Nat):Int)==1)=false:=rfl
  have e2:(([]:List UInt8)==[])=true:=rfl
  refine ak rfl rfl Tryz.func173 rfl Tryz.ntmps173 ⟨by simp,by simp[LK]⟩ ?_
  simp only[go_sem,reduceLT,reduceCtorEq,reduceEqDiff,Nat.reduceBEq,reduceAdd,ah af,hr,ht,e1,e2,bne]
 | v::w::r,ht =>
  have e1:((((encL (v::w::r)).length:Nat):Int)==1)=false:=by rw[bc,List.length_cons,List.length_cons,beq_eq_false_iff_ne];omega
  have e2:(([]:List UInt8)==[])=true:=rfl
  refine ak rfl rfl Tryz.func173 rfl Tryz.ntmps173 ⟨by simp,by simp[LK]⟩ ?_
  simp only[go_sem,reduceLT,reduceCtorEq,reduceEqDiff,Nat.reduceBEq,reduceAdd,ah af,hr,ht,e1,e2,bne]
 | [.mk k t c],ht =>
  have e1:((((encL [Val.mk k t c]).length:Nat):Int)==1)=true:=rfl
  have e2:(([]:List UInt8)==[])=true:=rfl
  have hget:=jo k t c []
  have hk:=ji k t c 1
  simp only;cases e3:Sh.isK 1 (.mk k t c)
  ·rw[e3] at hk;rw[if_neg (by simp)]
   refine ak rfl rfl Tryz.func173 rfl Tryz.ntmps173 ⟨by simp,by simp[LK]⟩ ?_
   simp only[go_sem,reduceLT,reduceCtorEq,reduceEqDiff,Nat.reduceBEq,reduceAdd,ah af,ag af,hr,ht,e1,e2,hget,hk,le00,bne]
  ·rw[e3] at hk;rw[if_pos rfl];have e4:Sh.tokV (.mk k t c)=t:=rfl
   rw[e4];refine ak rfl rfl Tryz.func173 rfl Tryz.ntmps173 ⟨by simp,by simp[LK]⟩ ?_
   simp only[go_sem,reduceLT,reduceCtorEq,reduceEqDiff,Nat.reduceBEq,reduceAdd,ah af,ag af,hr,ht,e1,hget,hk,le00,bne]
   all_goals (repeat (first|(rw[wU];rotate_left;(· kernel_rfl))|(first|rw[tB]|rw[reach_if2]|rw[reach_if3];rotate_left;(· kernel_rfl);simp only[go_sem,reduceLT,reduceCtorEq,reduceEqDiff,Nat.reduceBEq,reduceAdd,reduceSub,reduceLeDiff,reduceMul,ah af,ag af,hr,ht,e1,e2,hget,hk,le00,bne])))
def Stm.cells (s:Sh.Stm):List CV:=[.pv (.bool s.isAt),.pv (.str s.name),.pv (.sl (encL s.pre)),.pv (.sl (encL s.block)),.pv (.bool s.ends)]
theorem vU (a b:Int):od [I a,I b]=some (.int .i64 (max a b)):=by
 simp only[od,fW,if_true,Option.map_some,List.foldl_cons,List.foldl_nil];rw[Int.max_def]
 congr 2
 split<;>split<;>omega
end Go.Abs
namespace Go.Abs
open Go Go.Proofs
theorem zL (s:List UInt8) (l:List Val):∀ q∈Sl.at_ s l,Ne.size q≤Ne.size l:=by
 rw[←ru];exact ke _ l
theorem xB (s:List UInt8) (l:List Val):(Sl.at_ s l).length≤l.length+1:=by
 rw[←ru];exact Sl.nK _ l
end Go.Abs
namespace Go.Abs
open Go Go.Proofs
set_option maxRecDepth 10000
attribute [local go_sem] cG bA cj bF bH cF cf ce ay aV aR bw bU bg opd avOf cvOf St.degAt St.put okPV dr okAV cQ cR cP cv aj if_true Bool.false_eq_true if_false Option.map_some Option.map_none Option.bind_some Option.bind_none du dh upd List.toList_toArray bC steal aH mvB cX cw bR AV.deg CV.deg AV.gv AV.isIter co cg bG List.length_nil List.length_cons List.filterMap_cons List.filterMap_nil beq_iff_eq List.getElem?_cons_zero List.getElem?_cons_succ Option.getD_some eG fh Bool.false_and Bool.and_false Bool.and_self K_P fT bv bO aJ lend back idx dedup AV.ren CV.ren TV.ren AV.ptrs CV.ptrs ck AV.flat CV.flat bL bu az bV cz dK bD ar bK aQ bd bt aP dV CV.pv? content aN ownT aD reps pvs chunks aZ leave dT bW cN bf aK TV.deg TV.av LK CV.plain CV.noBld cq dS bound List.map_cons List.map_nil List.all_cons List.all_nil List.any_cons List.any_nil List.contains_cons List.contains_nil List.elem_cons List.elem_nil List.cons_append List.nil_append List.append_nil List.flatMap_cons List.flatMap_nil List.zip_cons_cons List.zip_nil_left List.zip_nil_right List.take_succ_cons List.take_zero List.take_nil List.drop_succ_cons List.drop_zero List.drop_nil List.isEmpty_nil List.isEmpty_cons Bool.and_true Bool.true_and Bool.or_true Bool.true_or Bool.or_false Bool.false_or Bool.not_true Bool.not_false Nat.add_zero Nat.zero_add Option.isNone_none Option.isNone_some Option.getD_none true_and and_true not_true_eq_false not_false_eq_true decide_true decide_false Nat.le_refl and_self Bool.not_eq_true Nat.sub_self or_true true_or Option.some.injEq List.length_map List.nil_eq and_false false_and AV.live CV.live CV.liveIn dX ax Option.orElse_some Option.orElse_none head aI aF Int.lt_irrefl List.length_append ite_self dt br bZ aY Key.clash Key.sees Key.writes Nat.lt_irrefl gt_iff_lt ci dp false_or or_false beq_self_eq_true Bool.true_beq Bool.false_beq eC gl lI zr cu cB bJ zm ng aU bS oP aW aq fu fa cU ma Ab fA fD
def qL (v:Val) (r:Option Res):Prop:=match Sh.cond v with
 | some (s,n)=>r=some (.ret (.tup [.c (.pv (.str s)),.c (.pv (.int .i64 n)),.c (.pv (.bool true))]) [])
 | none=>∃ s n,r=some (.ret (.tup [.c (.pv (.str s)),.c (.pv (.int .i64 n)),.c (.pv (.bool false))]) [])
theorem px (k:Int) (t:Tok) (c:List Val) (hc:Ne.size c≤1000000):qL (.mk k t c) (den K 221 [.agg (vG k t c)] []):=by
 have hr:Tryz.f221.results=#[.tmp 2,.tmp 3,.tmp 4]:=rfl
 have ha:=BO c [58] (by omega)
 have hal:=xB [58] c
 have hls:=Ne.ed c
 have ec:Sh.cond (.mk k t c)=if k=2 then match Sl.at_ [58] c with
  | [a,b]=>if Sh.word a=[] then none else(match Sl.trim b with
   | [n]=>if Sh.isK 5 n=true∧(Sh.tokV n).text=Sh.pxT∧0≤(Sh.tokV n).n∧(Sh.tokV n).n≤100000 then some (Sh.word a,(Sh.tokV n).n) else none
   | _=>none)
  | _=>none
 else none:=rfl
 unfold qL;rw[ec];by_cases hk:k=2
 rotate_left
 ·rw[if_neg hk];have z1:(k != 2)=true:=by simpa using hk
  refine⟨[],0,?_⟩
  refine ak rfl rfl Tryz.func221 rfl Tryz.ntmps221 ⟨by simp,by simp[LK]⟩ ?_
  simp only[go_sem,reduceLT,reduceEqDiff,Nat.reduceBEq,reduceAdd,reduceSub,reduceLeDiff,hr,ha,z1]
 subst hk;rw[if_pos rfl];have z1:((2:Int) != 2)=false:=rfl
 generalize hA:Sl.at_ [58] c=A at ha hal;have hsz:∀ q∈A,Ne.size q≤Ne.size c:=by rw[←hA];exact zL [58] c
 match A,ha,hal,hsz with
 | [],ha,hal,hsz =>
  have z2:(((0:Nat):Int) != 2)=true:=rfl
  refine⟨[],0,?_⟩
  refine ak rfl rfl Tryz.func221 rfl Tryz.ntmps221 ⟨by simp,by simp[LK]⟩ ?_
  simp only[go_sem,reduceLT,reduceEqDiff,Nat.reduceBEq,reduceAdd,reduceSub,reduceLeDiff,ah al,hr,ha,z1,z2]
 | [a],ha,hal,hsz =>
  have z2:(((1:Nat):Int) != 2)=true:=rfl
  refine⟨[],0,?_⟩
  refine ak rfl rfl Tryz.func221 rfl Tryz.ntmps221 ⟨by simp,by simp[LK]⟩ ?_
  simp only[go_sem,reduceLT,reduceEqDiff,Nat.reduceBEq,reduceAdd,reduceSub,reduceLeDiff,ah al,hr,ha,z1,z2]
 | a::b::d::r,ha,hal,hsz =>
  have z2:(((r.length+1+1+1:Nat):Int) != 2)=true:=by rw[bne_iff_ne];omega
  refine⟨[],0,?_⟩
  refine ak rfl rfl Tryz.func221 rfl Tryz.ntmps221 ⟨by simp,by simp[LK]⟩ ?_
  simp only[go_sem,reduceLT,reduceEqDiff,Nat.reduceBEq,reduceAdd,reduceSub,reduceLeDiff,ah al,hr,ha,z1,z2]
 | [a,b],ha,hal,hsz =>
  have z2:(((2:Nat):Int) != 2)=false:=rfl
  have sa:=hsz a (by simp)
  have sb:=hsz b (by simp)
  have la:=Ne.ed a
  have lb:=Ne.ed b
  have hw:=xE a (by omega)
  have ht:=gb b (by omega)
  have g0:([[.sl (encL a)],[.sl (encL b)]]:List (List PV))[(0:Int).toNat]? = some [.sl (encL a)]:=rfl
  have g1:([[.sl (encL a)],[.sl (encL b)]]:List (List PV))[(1:Int).toNat]? = some [.sl (encL b)]:=rfl
  have le1:((0:Int)≤1)=True:=by simp
  simp only;cases hwe:(Sh.word a==[])
  case true =>
   have hwn:Sh.word a=[]:=by simpa using hwe
   rw[hwe,Bool.not_true] at hw;rw[if_pos hwn];refine⟨[],0,?_⟩
   refine ak rfl rfl Tryz.func221 rfl Tryz.ntmps221 ⟨by simp,by simp[LK]⟩ ?_
   simp only[go_sem,reduceLT,reduceEqDiff,Nat.reduceBEq,reduceAdd,reduceSub,reduceLeDiff,ah al,ag al,hr,ha,z1,z2,g0,g1,le00,le1,hw,ht,TV.flat]
  have hwn:Sh.word a≠[]:=by simpa using hwe
  rw[hwe,Bool.not_false] at hw;rw[if_neg hwn];generalize Sl.trim b=B at ht
  match B,ht with
  | [],ht =>
   have z3:((((encL []).length:Nat):Int) != 1)=true:=rfl
   refine⟨[],0,?_⟩
   refine ak rfl rfl Tryz.func221 rfl Tryz.ntmps221 ⟨by simp,by simp[LK]⟩ ?_
   simp only[go_sem,reduceLT,reduceEqDiff,Nat.reduceBEq,reduceAdd,reduceSub,reduceLeDiff,ah al,ag al,ah af,hr,ha,z1,z2,g0,g1,le00,le1,hw,ht,z3,TV.flat]
  | v::w::r,ht =>
   have z3:((((encL (v::w::r)).length:Nat):Int) != 1)=true:=by rw[bc,List.length_cons,List.length_cons,bne_iff_ne];omega
   refine⟨[],0,?_⟩
   refine ak rfl rfl Tryz.func221 rfl Tryz.ntmps221 ⟨by simp,by simp[LK]⟩ ?_
   simp only[go_sem,reduceLT,reduceEqDiff,Nat.reduceBEq,reduceAdd,reduceSub,reduceLeDiff,ah al,ag al,ah af,hr,ha,z1,z2,g0,g1,le00,le1,hw,ht,z3,TV.flat]
  | [.mk q u e],ht =>
   have z3:((((encL [Val.mk q u e]).length:Nat):Int) != 1)=false:=rfl
   have hget:=jo q u e []
   have hik:=ji q u e 5
   have eT:Sh.tokV (.mk q u e)=u:=rfl
   simp only;rw[eT];cases h5:Sh.isK 5 (.mk q u e)
   ·rw[h5] at hik;rw[if_neg (by simp)]
    refine⟨[],0,?_⟩
    refine ak rfl rfl Tryz.func221 rfl Tryz.ntmps221 ⟨by simp,by simp[LK]⟩ ?_
    simp only[go_sem,reduceLT,reduceEqDiff,Nat.reduceBEq,reduceAdd,reduceSub,reduceLeDiff,ah al,ag al,ah af,ag af,hr,ha,z1,z2,g0,g1,le00,le1,hw,ht,z3,hget,hik,TV.flat]
   rw[h5] at hik;by_cases hpx:u.text=Sh.pxT
   rotate_left
   ·have z4:(u.text != [112,120])=true:=by simpa[Sh.pxT] using hpx
    rw[if_neg (fun h=>hpx h.2.1)]
    refine⟨[],0,?_⟩
    refine ak rfl rfl Tryz.func221 rfl Tryz.ntmps221 ⟨by simp,by simp[LK]⟩ ?_
    simp only[go_sem,reduceLT,reduceEqDiff,Nat.reduceBEq,reduceAdd,reduceSub,reduceLeDiff,ah al,ag al,ah af,ag af,hr,ha,z1,z2,g0,g1,le00,le1,hw,ht,z3,hget,hik,z4,TV.flat]
   have z4:(u.text != [112,120])=false:=by simpa[Sh.pxT] using hpx
   by_cases hn0:0≤u.n
   rotate_left
   ·have d0:decide ((0:Int)≤u.n)=false:=decide_eq_false hn0
    rw[if_neg (fun h=>hn0 h.2.2.1)]
    refine⟨Sh.word a,u.n,?_⟩
    refine ak rfl rfl Tryz.func221 rfl Tryz.ntmps221 ⟨by simp,by simp[LK]⟩ ?_
    simp only[go_sem,reduceLT,reduceEqDiff,Nat.reduceBEq,reduceAdd,reduceSub,reduceLeDiff,ah al,ag al,ah af,ag af,hr,ha,z1,z2,g0,g1,le00,le1,hw,ht,z3,hget,hik,z4,d0,TV.flat]
   have d0:decide ((0:Int)≤u.n)=true:=decide_eq_true hn0
   by_cases hn1:u.n≤100000
   ·have d1:decide (u.n≤100000)=true:=decide_eq_true hn1
    rw[if_pos ⟨rfl,hpx,hn0,hn1⟩]
    show den K _ _ _=_
    refine ak rfl rfl Tryz.func221 rfl Tryz.ntmps221 ⟨by simp,by simp[LK]⟩ ?_
    simp only[go_sem,reduceLT,reduceEqDiff,Nat.reduceBEq,reduceAdd,reduceSub,reduceLeDiff,ah al,ag al,ah af,ag af,hr,ha,z1,z2,g0,g1,le00,le1,hw,ht,z3,hget,hik,z4,d0,d1,TV.flat]
   ·have d1:decide (u.n≤100000)=false:=decide_eq_false hn1
    rw[if_neg (fun h=>hn1 h.2.2.2)]
    refine⟨Sh.word a,u.n,?_⟩
    refine ak rfl rfl Tryz.func221 rfl Tryz.ntmps221 ⟨by simp,by simp[LK]⟩ ?_
    simp only[go_sem,reduceLT,reduceEqDiff,Nat.reduceBEq,reduceAdd,reduceSub,reduceLeDiff,ah al,ag al,ah af,ag af,hr,ha,z1,z2,g0,g1,le00,le1,hw,ht,z3,hget,hik,z4,d0,d1,TV.flat]
theorem AG (a b:Int):lP [I a,I b]=some (.int .i64 (min a b)):=by
 simp only[lP,fW,if_true,Option.map_some,List.foldl_cons,List.foldl_nil]
 congr 2
 by_cases h:b<a
 ·rw[if_pos h];omega
 ·rw[if_neg h];omega
abbrev medB (mn mx:Int):List CV:=[.pv (.int .i64 2),.own 0 [],.own 0 [],.own 0 [],.pv (.int .i64 mn),.pv (.int .i64 mx),.own 0 [],.own 0 []]
def CL (o:Option (Int×Int)) (mn mx:Int) (r:Option Res):Prop:=match o with
 | some (a,b)=>r=some (.ret (B true) [medB a b])
 | none=>r=some (.ret (B false) [medB mn mx])
theorem ui (k:Int) (t:Tok) (c:List Val) (hc:Ne.size c≤1000000) (mn mx:Int):CL (Sh.narrow mn mx (.mk k t c)) mn mx (den K 176 [P0,.agg (vG k t c)] [medB mn mx]):=by
 have hr:Tryz.f176.results=#[.tmp 4]:=rfl
 have h:=px k t c hc
 unfold qL at h;unfold Sh.narrow;cases hq:Sh.cond (.mk k t c) with
 | none =>
  rw[hq] at h;obtain⟨s,n,h⟩:=h
  show den K _ _ _=_
  refine ak rfl rfl Tryz.func176 rfl Tryz.ntmps176 ⟨by simp,by simp[LK]⟩ ?_
  simp only[go_sem,reduceLT,reduceCtorEq,reduceEqDiff,Nat.reduceBEq,reduceAdd,reduceSub,reduceLeDiff,hr,h,TV.flat]
 | some p =>
  obtain⟨s,n⟩:=p;rw[hq] at h;simp only at h ⊢;by_cases h1:s=Sh.minT
  ·have q1:(s==[109,105,110,45,119,105,100,116,104])=true:=by simpa[Sh.minT] using h1
   rw[if_pos h1]
   show den K _ _ _=_
   refine ak rfl rfl Tryz.func176 rfl Tryz.ntmps176 ⟨by simp,by simp[LK]⟩ ?_
   simp only[go_sem,reduceLT,reduceCtorEq,reduceEqDiff,Nat.reduceBEq,reduceAdd,reduceSub,reduceLeDiff,hr,h,TV.flat,q1,vU]
  have q1:(s==[109,105,110,45,119,105,100,116,104])=false:=by simpa[Sh.minT] using h1
  rw[if_neg h1];by_cases h2:s=Sh.maxT
  ·have q2:(s==[109,97,120,45,119,105,100,116,104])=true:=by simpa[Sh.maxT] using h2
   rw[if_pos h2];by_cases h3:mx<0
   ·have q3:decide (mx<0)=true:=decide_eq_true h3
    rw[if_pos h3]
    show den K _ _ _=_
    refine ak rfl rfl Tryz.func176 rfl Tryz.ntmps176 ⟨by simp,by simp[LK]⟩ ?_
    simp only[go_sem,reduceLT,reduceCtorEq,reduceEqDiff,Nat.reduceBEq,reduceAdd,reduceSub,reduceLeDiff,hr,h,TV.flat,q1,q2,q3]
   ·have q3:decide (mx<0)=false:=decide_eq_false h3
    rw[if_neg h3]
    show den K _ _ _=_
    refine ak rfl rfl Tryz.func176 rfl Tryz.ntmps176 ⟨by simp,by simp[LK]⟩ ?_
    simp only[go_sem,reduceLT,reduceCtorEq,reduceEqDiff,Nat.reduceBEq,reduceAdd,reduceSub,reduceLeDiff,hr,h,TV.flat,q1,q2,q3,AG]
  ·have q2:(s==[109,97,120,45,119,105,100,116,104])=false:=by simpa[Sh.maxT] using h2
   rw[if_neg h2]
   show den K _ _ _=_
   refine ak rfl rfl Tryz.func176 rfl Tryz.ntmps176 ⟨by simp,by simp[LK]⟩ ?_
   simp only[go_sem,reduceLT,reduceCtorEq,reduceEqDiff,Nat.reduceBEq,reduceAdd,reduceSub,reduceLeDiff,hr,h,TV.flat,q1,q2]
end Go.Abs
namespace Go.Abs
namespace Sh
open Tk (all cW at0)
open Sl (dv iv tv trim gR words)
theorem uI {n:Int} (h : -200000≤n∧n≤200000) {y:List UInt8} (hy:gR y):all (Lib.itoa n++(pxT++y))=⟨5,pxT,n⟩::all y:=by
 have hn:cW pxT:=⟨rfl,by decide⟩
 obtain⟨h1,h2⟩:=Tk.tI (n:=n) (.inr (.inr hn)) (hy ⟨5,pxT,n⟩ (by simp))
 exact Tk.vJ (by omega) (by omega) h1 h2
theorem a40 (y:List UInt8):all (40::y)=⟨7,[40],0⟩::all y:=Sl.ib (Sl.gq (by decide) (by decide) (by decide)) (by decide) (by decide) (Sl.ii (by decide) (by decide) (by decide) (by decide) y)
theorem a123 (y:List UInt8):all (123::y)=⟨7,[123],0⟩::all y:=Sl.ib (Sl.gq (by decide) (by decide) (by decide)) (by decide) (by decide) (Sl.ii (by decide) (by decide) (by decide) (by decide) y)
theorem a125 (y:List UInt8):all (125::y)=⟨7,[125],0⟩::all y:=Sl.ib (Sl.gq (by decide) (by decide) (by decide)) (by decide) (by decide) (Sl.ii (by decide) (by decide) (by decide) (by decide) y)
theorem n123 (y:List UInt8):gR (123::y):=Sl.gF (c:=123) rfl (by decide) (by decide) (by decide) (by decide) (by decide)
theorem n125 (y:List UInt8):gR (125::y):=Sl.gF (c:=125) rfl (by decide) (by decide) (by decide) (by decide) (by decide)
theorem Df {n y:List UInt8} (h:cW n) (hy:gR y):all (64::(n++y))=⟨3,n,0⟩::all y:=by
 have:=Tk.qU (y:=y) (.word n h) (hy _ (by simp))
 exact this
def andU:List UInt8:=[65,78,68]
def medS (a b c:Int):List UInt8 :=
 64::(jC++(32::40::(minT++(58::(Lib.itoa a++(pxT++(41::32::(andT++(32::40::32::(maxT++(32::58::32::(Lib.itoa b++(pxT++(32::41::32::(andU++(32::40::(minT++(58::(Lib.itoa c++(pxT++(41::123::([97]++(123::([98]++(58::([99]++[125,125]))))))))))))))))))))))))))
def inM (n:Int):Val:=.mk 2 Ne.tok0 [iv minT,dv 58,tv ⟨5,pxT,n⟩]
def inX (n:Int):Val:=.mk 2 Ne.tok0 [whV,iv maxT,whV,dv 58,whV,tv ⟨5,pxT,n⟩,whV]
def blkM:List Val:=[iv [97],.mk 4 Ne.tok0 [iv [98],dv 58,iv [99]]]
def preM (a b c:Int):List Val:=[whV,inM a,whV,iv andT,whV,inX b,whV,iv andU,whV,inM c]
def medV (a b c:Int):List Val:=tv ⟨3,jC,0⟩::(preM a b c++[.mk 4 Ne.tok0 blkM])
theorem AU {a b c:Int} (ha : -200000≤a∧a≤200000) (hb : -200000≤b∧b≤200000) (hc : -200000≤c∧c≤200000):all (medS a b c)=Ne.flat (medV a b c):=by
 have nMedia:cW jC:=⟨rfl,by decide⟩
 have nMin:cW minT:=⟨rfl,by decide⟩
 have nMax:cW maxT:=⟨rfl,by decide⟩
 have nAnd:cW andT:=⟨rfl,by decide⟩
 have nAnd2:cW andU:=⟨rfl,by decide⟩
 have n97:cW [97]:=⟨rfl,by decide⟩
 have n98:cW [98]:=⟨rfl,by decide⟩
 have n99:cW [99]:=⟨rfl,by decide⟩
 unfold medS;rw[Df nMedia (Sl.fc _),Sl.a32 (by rfl),a40,Sl.eS nMin (Sl.n58 _),Sl.a58,uI ha (Sl.n41 _),Sl.a41,Sl.a32 (by rfl),
  Sl.eS nAnd (Sl.fc _),Sl.a32 (by rfl),a40,Sl.a32 (by rfl),Sl.eS nMax (Sl.fc _),Sl.a32 (by rfl),Sl.a58]
 have hd:Tk.blank (at0 (Lib.itoa b++(pxT++(32::41::32::(andU++(32::40::(minT++(58::(Lib.itoa c++(pxT++(41::123::([97]++(123::([98]++(58::([99]++[125,125]))))))))))))))))=false:=by
  rw[Tk.np (Tk.Be b)];rcases Tk.xe b with h|h
  ·cases hbl:Tk.blank (at0 (Lib.itoa b)) with
   | false=>rfl
   | true =>
    exfalso
    generalize at0 (Lib.itoa b)=x at h hbl;unfold Tk.blank at hbl;simp only[Bool.or_eq_true,beq_iff_eq] at hbl;rcases hbl with(((rfl|rfl)|rfl)|rfl)|rfl<;>exact absurd h (by decide)
  ·rw[h];decide
 rw[Sl.a32 hd,uI hb (Sl.fc _),Sl.a32 (by rfl),Sl.a41,Sl.a32 (by rfl),Sl.eS nAnd2 (Sl.fc _),Sl.a32 (by rfl),a40,Sl.eS nMin (Sl.n58 _),Sl.a58,uI hc (Sl.n41 _),Sl.a41,a123,
  Sl.eS n97 (n123 _),a123,Sl.eS n98 (Sl.n58 _),Sl.a58,Sl.eS n99 (n125 _),a125,a125]
 rfl
theorem yF {a b c:Int} (ha : -200000≤a∧a≤200000) (hb : -200000≤b∧b≤200000) (hc : -200000≤c∧c≤200000):Sl.kT (medS a b c)=some (medV a b c):=by
 unfold Sl.kT;rw[AU ha hb hc,Ne.un (show Ne.good 0 (medV a b c)=true from rfl),if_pos (show Ne.depth (medV a b c)≤60 from(by rw[show Ne.depth (medV a b c)=2 from rfl];decide))]
 rfl
abbrev okW (n:Int):Prop:=0≤n∧n≤100000
theorem Ap (n:Int):cond (inM n)=if 0≤n∧n≤100000 then some (minT,n) else none:=by
 have e:cond (inM n)=if isK 5 (tv ⟨5,pxT,n⟩)=true∧pxT=pxT∧0≤n∧n≤100000 then some (minT,n) else none:=rfl
 rw[e];have e2:isK 5 (tv ⟨5,pxT,n⟩)=true:=rfl
 simp[e2]
theorem zq (n:Int):cond (inX n)=if 0≤n∧n≤100000 then some (maxT,n) else none:=by
 have e:cond (inX n)=if isK 5 (tv ⟨5,pxT,n⟩)=true∧pxT=pxT∧0≤n∧n≤100000 then some (maxT,n) else none:=rfl
 rw[e];have e2:isK 5 (tv ⟨5,pxT,n⟩)=true:=rfl
 simp[e2]
theorem po (p q n:Int):narrow p q (inM n)=if 0≤n∧n≤100000 then some (max p n,q) else none:=by
 unfold narrow;rw[Ap];by_cases h:0≤n∧n≤100000
 ·rw[if_pos h,if_pos h];rfl
 ·rw[if_neg h,if_neg h]
theorem uf (p q n:Int):narrow p q (inX n)=if 0≤n∧n≤100000 then some (p,if q<0 then n else min q n) else none:=by
 unfold narrow;rw[zq];by_cases h:0≤n∧n≤100000
 ·rw[if_pos h,if_pos h];rfl
 ·rw[if_neg h,if_neg h]
theorem jZ (a b c:Int):words (preM a b c)=[[inM a],[iv andT],[inX b],[iv andU],[inM c]]:=rfl
theorem qh (x:List Val) (hx:x=[iv andT]∨x=[iv andU]) (p q:Int) (ws:List (List Val)):conds true p q (x::ws)=conds false p q ws:=by
 have h1:isK 1 (iv andT)=true∧Sl.low (tokV (iv andT)).text=andT:=⟨rfl,rfl⟩
 have h2:isK 1 (iv andU)=true∧Sl.low (tokV (iv andU)).text=andT:=⟨rfl,rfl⟩
 rcases hx with rfl|rfl
 ·rw[conds,if_pos h1]
 ·rw[conds,if_pos h2]
theorem wq {a b c:Int} (hc:okW c):conds false 0 (-1) (words (preM a b c))=if okW a∧okW b then some (max a c,b) else none:=by
 unfold okW at *
 rw[jZ,conds,po];by_cases ha:0≤a∧a≤100000
 ·rw[if_pos ha];simp only;rw[qh _ (.inl rfl),conds,uf];by_cases hb:0≤b∧b≤100000
  ·rw[if_pos hb];simp only;rw[qh _ (.inr rfl),conds,po,if_pos hc];simp only;rw[conds,if_pos (show (-1:Int)<0 by decide),if_pos (show (0≤a∧a≤100000)∧0≤b∧b≤100000 from⟨ha,hb⟩)]
   have:max (0:Int) a=a:=by omega
   rw[this]
  ·rw[if_neg hb,if_neg fun h=>hb h.2]
 ·rw[if_neg ha,if_neg fun h=>ha h.1]
end Sh
end Go.Abs
