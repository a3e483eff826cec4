/-
  WHAT THE FUNCTIONS COMPUTE, layer 8: conditions and words between, in a row; an at-rule of media.
  (And 5 texts more.)
-/
import Derived.Test.YtcfklbkkdipjhaaGreatDoorSm7
set_option maxHeartbeats 16000000
open Nat (reduceEqDiff reduceAdd reduceLT reduceLeDiff reduceSub reduceMul)
set_option linter.unusedSimpArgs false
set_option linter.unusedVariables false
namespace Go.Abs
open Go Go.Proofs
set_option maxRecDepth 10000
attribute [local go_sem] cG bA cj bF bH cF cf ce ay aV aR bw bU bg opd avOf cvOf St.degAt St.put okPV dr okAV cQ cR cP cv aj if_true Bool.false_eq_true if_false Option.map_some Option.map_none Option.bind_some Option.bind_none du dh upd List.toList_toArray bC steal aH mvB cX cw bR AV.deg CV.deg AV.gv AV.isIter co cg bG List.length_nil List.length_cons List.filterMap_cons List.filterMap_nil beq_iff_eq List.getElem?_cons_zero List.getElem?_cons_succ Option.getD_some eG fh Bool.false_and Bool.and_false Bool.and_self K_P fT bv bO aJ lend back idx dedup AV.ren CV.ren TV.ren AV.ptrs CV.ptrs ck AV.flat CV.flat bL bu az bV cz dK bD ar bK aQ bd bt aP dV CV.pv? content aN ownT aD reps pvs chunks aZ leave dT bW cN bf aK TV.deg TV.av LK CV.plain CV.noBld cq dS bound List.map_cons List.map_nil List.all_cons List.all_nil List.any_cons List.any_nil List.contains_cons List.contains_nil List.elem_cons List.elem_nil List.cons_append List.nil_append List.append_nil List.flatMap_cons List.flatMap_nil List.zip_cons_cons List.zip_nil_left List.zip_nil_right List.take_succ_cons List.take_zero List.take_nil List.drop_succ_cons List.drop_zero List.drop_nil List.isEmpty_nil List.isEmpty_cons Bool.and_true Bool.true_and Bool.or_true Bool.true_or Bool.or_false Bool.false_or Bool.not_true Bool.not_false Nat.add_zero Nat.zero_add Option.isNone_none Option.isNone_some Option.getD_none true_and and_true not_true_eq_false not_false_eq_true decide_true decide_false Nat.le_refl and_self Bool.not_eq_true Nat.sub_self or_true true_or Option.some.injEq List.length_map List.nil_eq and_false false_and AV.live CV.live CV.liveIn dX ax Option.orElse_some Option.orElse_none head aI aF Int.lt_irrefl List.length_append ite_self dt br bZ aY Key.clash Key.sees Key.writes Nat.lt_irrefl gt_iff_lt ci dp false_or or_false beq_self_eq_true Bool.true_beq Bool.false_beq ue dY gl lI aU bS oP aW aq fu fa cU zZ Aj aE mb Al lG lO rq fw kL iT
abbrev Co:List CV:=[.pv (.int .i64 0),.own 0 [],.own 0 [],.own 0 [],.pv (.int .i64 0),.pv (.int .i64 0),.own 0 [],.own 0 []]
abbrev vP:List CV:=[.pv (.int .i64 0),.nils,.nils,.nils,.pv (.int .i64 0),.pv (.int .i64 0),.nils,.nils]
noncomputable def mdlp:Code:=.loop (aO Tryz.f109 4)
abbrev mdH (sB:List CV) (ws:List (List Val)) (i:Nat) (mn mx:Int):St :=
  { sl:=upd (upd (upd (upd (upd (upd (upd bot 15 (I i)) 14 (I ws.length)) 13 (L (encP ws))) 5 (L (encP ws))) 4 (.c (.loc 4 0))) 2 (.c (.loc 2 0))) 1 (.c (.loc 1 0)),bx:=upd (upd (upd nobox 4 (some (medB mn mx))) 2 (some Co)) 1 (some sB),nt:=79 }
def MdOk (ws:List (List Val)):Prop:=∀ w∈ws, ∀ k t c,w=[.mk k t c]→t.text.length<1000000000∧Ne.size c≤1000000
structure MdOut (sB:List CV) (ws:List (List Val)) (o:Option (Int×Int)) (x:Out) (S:St):Prop where
 nt:S.nt=79
 s2:S.sl 2=.c (.loc 2 0)
 out:match o with
  | some (a,b)=>x=.exit 0∧S.sl 1=.c (.loc 1 0)∧S.sl 4=.c (.loc 4 0)∧S.sl 5=L (encP ws)∧S.bx 1=some sB∧S.bx 2=some Co∧S.bx 4=some (medB a b)
  | none=>x=.ret∧S.sl 3=B false∧S.bx 2=some vP
theorem zw (i:Nat) (h:i % 2=1):(((i:Int).tmod 2)==1)=true∧(((i:Int).tmod 2)==0)=false∧decide ((i+1) % 2=1)=false:=by
 have:(i:Int).tmod 2=((i % 2:Nat):Int):=rfl
 rw[this,h];exact⟨rfl,rfl,decide_eq_false (by omega)⟩
theorem vK (i:Nat) (h:i % 2≠1):(((i:Int).tmod 2)==1)=false∧(((i:Int).tmod 2)==0)=true∧decide ((i+1) % 2=1)=true:=by
 have:(i:Int).tmod 2=((i % 2:Nat):Int):=rfl
 rw[this,show i % 2=0 by omega]
 exact⟨rfl,rfl,decide_eq_true (by omega)⟩
theorem jp:((2:Int)=0)=False:=by simp
theorem vz (a e:Bool) (n:List UInt8) (p b:List (List PV)) (ws:List (List Val)) (hl:ws.length≤1000000000) (hw:MdOk ws):∀ (rest:List (List Val)) (i:Nat) (mn mx:Int),ws.drop i=rest→i≤ws.length →
  Ends (exL K 109 mdlp (mdH [.pv (.bool a),.pv (.str n),.pv (.sl p),.pv (.sl b),.pv (.bool e)] ws i mn mx)) (MdOut [.pv (.bool a),.pv (.str n),.pv (.sl p),.pv (.sl b),.pv (.bool e)] ws (Sh.conds (decide (i % 2=1)) mn mx rest))
 | [],i,mn,mx,hd,hi=>by
  have hin:i=ws.length:=by
   have:=List.drop_eq_nil_iff.1 hd
   omega
  subst hin;have hlt:decide ((ws.length:Int)<(ws.length:Int))=false:=decide_eq_false (by omega)
  have hc:Sh.conds (decide (ws.length % 2=1)) mn mx []=some (mn,mx):=by
   cases decide (ws.length % 2=1)<;>rfl
  rw[hc];unfold mdlp
  conv in aO _ _=>whnf
  rw[aB];simp only[go_sem,reduceLT,reduceEqDiff,Nat.reduceBEq,aX];exact⟨rfl,rfl,rfl,rfl,rfl,rfl,rfl,rfl,rfl⟩
 | w::rest,i,mn,mx,hd,hi=>by
  obtain⟨g1,g2,g3⟩:=ij hd;have hlt:decide ((i:Int)<(ws.length:Int))=true:=decide_eq_true (by omega)
  have hget:=AX ws i w g1
  have hm2:=fun q r=>vz a e n p b ws hl hw rest (i+1) q r g2 (by omega)
  have hws:IntKind.i64.wrap ((i:Int)+1)=((i+1:Nat):Int):=fN i (by omega)
  have hwm:w∈ws:=List.mem_of_getElem? g1
  unfold mdlp at hm2 ⊢
  conv at hm2 in aO _ _=>whnf
  conv in aO _ _=>whnf
  match w,hget,hwm with
  | [],hget,hwm =>
   have e1:((((encL []).length:Nat):Int)==1)=false:=rfl
   have e2:((((encL []).length:Nat):Int) != 1)=true:=rfl
   have hc:Sh.conds (decide (i % 2=1)) mn mx ([]::rest)=none:=by cases decide (i % 2=1)<;>rfl
   rw[hc,aB];simp only[go_sem,reduceLT,reduceEqDiff,Nat.reduceBEq,reduceAdd,bh aE bE,ag al,ah af,hlt,hget,Int.natCast_nonneg,e1,e2,aX];exact⟨rfl,rfl,rfl,rfl,rfl⟩
  | v::u::r,hget,hwm =>
   have e1:((((encL (v::u::r)).length:Nat):Int)==1)=false:=by rw[bc,List.length_cons,List.length_cons,beq_eq_false_iff_ne];omega
   have e2:((((encL (v::u::r)).length:Nat):Int) != 1)=true:=by rw[bc,List.length_cons,List.length_cons,bne_iff_ne];omega
   have hc:Sh.conds (decide (i % 2=1)) mn mx ((v::u::r)::rest)=none:=by cases decide (i % 2=1)<;>rfl
   rw[hc,aB];simp only[go_sem,reduceLT,reduceEqDiff,Nat.reduceBEq,reduceAdd,bh aE bE,ag al,ah af,hlt,hget,Int.natCast_nonneg,e1,e2,aX];exact⟨rfl,rfl,rfl,rfl,rfl⟩
  | [.mk k t c],hget,hwm =>
   have e1:((((encL [Val.mk k t c]).length:Nat):Int)==1)=true:=rfl
   have e2:((((encL [Val.mk k t c]).length:Nat):Int) != 1)=false:=rfl
   have hv:=jo k t c []
   obtain⟨ht,hcs⟩:=hw _ hwm k t c rfl;have hk:=ji k t c 1
   have hs:=uk t.text ht
   have hn:=ui k t c hcs mn mx
   by_cases hodd:i % 2=1
   ·obtain⟨o1,o2,o3⟩:=zw i hodd;rw[decide_eq_true hodd];rw[o3] at hm2;by_cases hand:Sh.isK 1 (.mk k t c)=true∧Sl.low t.text=Sh.andT
    ·have q1:=hand.1
     have q2:(Sl.low t.text==[97,110,100])=true:=by simpa[Sh.andT] using hand.2
     have hc:Sh.conds true mn mx ([.mk k t c]::rest)=Sh.conds false mn mx rest:=by
      rw[Sh.conds,if_pos (show Sh.isK 1 (.mk k t c)=true∧Sl.low (Sh.tokV (.mk k t c)).text=Sh.andT from hand)]
     have ih:=hm2 mn mx
     rw[q1] at hk;rw[hc,aB];simp only[go_sem,reduceLT,reduceEqDiff,Nat.reduceBEq,reduceAdd,bh aE bE,ag al,ah af,ag af,hlt,hget,Int.natCast_nonneg,e1,e2,hv,le00,hk,hs,q2,jp,o1,o2,hws];rw[bN];simp only[go_sem,reduceEqDiff,Nat.reduceBEq];exact ih
    ·have hc:Sh.conds true mn mx ([.mk k t c]::rest)=none:=by
      rw[Sh.conds,if_neg (show ¬(Sh.isK 1 (.mk k t c)=true∧Sl.low (Sh.tokV (.mk k t c)).text=Sh.andT) from hand)]
     rw[hc];cases q1:Sh.isK 1 (.mk k t c)
     ·rw[q1] at hk;rw[aB];simp only[go_sem,reduceLT,reduceEqDiff,Nat.reduceBEq,reduceAdd,bh aE bE,ag al,ah af,ag af,hlt,hget,Int.natCast_nonneg,e1,e2,hv,le00,hk,jp,o1,aX];exact⟨rfl,rfl,rfl,rfl,rfl⟩
     ·rw[q1] at hk;have q2:(Sl.low t.text==[97,110,100])=false:=by
       rw[beq_eq_false_iff_ne];exact fun h=>hand ⟨q1,h⟩
      rw[aB];simp only[go_sem,reduceLT,reduceEqDiff,Nat.reduceBEq,reduceAdd,bh aE bE,ag al,ah af,ag af,hlt,hget,Int.natCast_nonneg,e1,e2,hv,le00,hk,hs,q2,jp,o1,aX];exact⟨rfl,rfl,rfl,rfl,rfl⟩
   ·obtain⟨o1,o2,o3⟩:=vK i hodd;rw[decide_eq_false hodd];rw[o3] at hm2;have hc:Sh.conds false mn mx ([.mk k t c]::rest)=match Sh.narrow mn mx (.mk k t c) with
     | some (a,b)=>Sh.conds true a b rest
     | none=>none:=rfl
    rw[hc];cases hq:Sh.narrow mn mx (.mk k t c) with
    | none =>
     rw[hq] at hn;have hn:den K _ _ _=_:=hn
     simp only;cases q1:Sh.isK 1 (.mk k t c)<;>cases q2:(Sl.low t.text==[97,110,100])
     all_goals
      rw[q1] at hk;rw[aB];simp only[go_sem,reduceLT,reduceEqDiff,Nat.reduceBEq,reduceAdd,bh aE bE,ag al,ah af,ag af,hlt,hget,Int.natCast_nonneg,e1,e2,hv,le00,hk,hs,hn,q2,jp,o1,o2,aX];exact⟨rfl,rfl,rfl,rfl,rfl⟩
    | some ab =>
     obtain⟨x,y⟩:=ab;rw[hq] at hn;have hn:den K _ _ _=_:=hn
     have ih:=hm2 x y
     simp only;cases q1:Sh.isK 1 (.mk k t c)<;>cases q2:(Sl.low t.text==[97,110,100])
     all_goals
      rw[q1] at hk;rw[aB];simp only[go_sem,reduceLT,reduceEqDiff,Nat.reduceBEq,reduceAdd,bh aE bE,ag al,ah af,ag af,hlt,hget,Int.natCast_nonneg,e1,e2,hv,le00,hk,hs,hn,q2,jp,o1,o2,hws];rw[bN];simp only[go_sem,reduceEqDiff,Nat.reduceBEq];exact ih
def yO (o:Option (Int×Int)) (odd:Bool) (y:List (List PV)) (r:Option Res):Prop:=match o with
 | some (a,b)=>r=some (.ret (.tup [.agg [.pv (.int .i64 2),.pv (.sl []),.pv (.sl []),.pv (.sl []),.pv (.int .i64 a),.pv (.int .i64 b),.pv (.sl []),.pv (.sl y)],.c (.pv (.bool (odd && !y.isEmpty)))]) [])
 | none=>r=some (.ret (.tup [.agg vP,.c (.pv (.bool false))]) [])
theorem xX (a e:Bool) (n:List UInt8) (pre blk:List Val) (hp:Ne.size pre≤1000000) (hw:MdOk (Sl.words pre)) (hlw:(Sl.words pre).length≤1000000000) (y:List (List PV))
  (hy:den K 30 [L (encL blk),I 2] []=some (.ret (L y) [])) :
  yO (Sh.conds false 0 (-1) (Sl.words pre)) (decide ((Sl.words pre).length % 2=1)) y (den K 109 [.agg [.pv (.bool a),.pv (.str n),.pv (.sl (encL pre)),.pv (.sl (encL blk)),.pv (.bool e)]] []):=by
 have hr:Tryz.f109.results=#[.cell 2 43,.tmp 3]:=rfl
 have h:=vz a e n (encL pre) (encL blk) (Sl.words pre) hlw hw (Sl.words pre) 0 0 (-1) rfl (Nat.zero_le _)
 have hwd:=up pre (by omega)
 unfold mdlp at h
 conv at h in aO _ _=>whnf
 obtain⟨o,S,w,q⟩:=h;have z0:((0:Nat):Int)=0:=rfl
 have zd:decide (0 % 2=1)=false:=rfl
 simp only[mdH,z0] at w
 rw[zd] at q
 obtain⟨hn,h2,q⟩:=q;cases hc:Sh.conds false 0 (-1) (Sl.words pre) with
 | none =>
  rw[hc] at q
  obtain⟨rfl,h3,h5⟩:=q
  show den K _ _ _=_
  refine ak rfl rfl Tryz.func109 rfl Tryz.ntmps109 ⟨by simp,by simp[LK]⟩ ?_
  simp only[go_sem,reduceLT,reduceEqDiff,Nat.reduceBEq,reduceAdd,reduceSub,reduceLeDiff,bh aE bE,ah al,hwd,jg];rw[bN];simp only[go_sem,reduceEqDiff,Nat.reduceBEq,reduceSub,reduceLeDiff];erw [w];simp only[go_sem,reduceAdd,hr,h2,h3,h5]
 | some ab =>
  obtain⟨x,z⟩:=ab;rw[hc] at q
  obtain⟨rfl,h1,h4,h5,b1,b2,b4⟩:=q
  show den K _ _ _=_
  have hlen:=jg (Sl.words pre)
  by_cases hodd:(Sl.words pre).length % 2=1
  ·obtain⟨o1,_,_⟩:=zw _ hodd;rw[decide_eq_true hodd];cases hye:y.isEmpty
   ·have d0:decide ((0:Int)<(y.length:Int))=true:=decide_eq_true (by cases y with|nil=>simp at hye|cons=>rw[List.length_cons];omega)
    refine ak rfl rfl Tryz.func109 rfl Tryz.ntmps109 ⟨by simp,by simp[LK]⟩ ?_
    simp only[go_sem,reduceLT,reduceEqDiff,Nat.reduceBEq,reduceAdd,reduceSub,reduceLeDiff,bh aE bE,ah al,hwd,jg];rw[bN];simp only[go_sem,reduceEqDiff,Nat.reduceBEq,reduceSub,reduceLeDiff];erw [w];simp only[go_sem,reduceLT,reduceEqDiff,Nat.reduceBEq,reduceAdd,ah al,ah bT,hr,hn,h1,h2,h4,h5,b1,b2,b4,hy,hlen,jp,o1,d0]
   ·have d0:decide ((0:Int)<(y.length:Int))=false:=by
     rw[List.isEmpty_iff] at hye;rw[hye];rfl
    refine ak rfl rfl Tryz.func109 rfl Tryz.ntmps109 ⟨by simp,by simp[LK]⟩ ?_
    simp only[go_sem,reduceLT,reduceEqDiff,Nat.reduceBEq,reduceAdd,reduceSub,reduceLeDiff,bh aE bE,ah al,hwd,jg];rw[bN];simp only[go_sem,reduceEqDiff,Nat.reduceBEq,reduceSub,reduceLeDiff];erw [w];simp only[go_sem,reduceLT,reduceEqDiff,Nat.reduceBEq,reduceAdd,ah al,ah bT,hr,hn,h1,h2,h4,h5,b1,b2,b4,hy,hlen,jp,o1,d0]
  ·obtain⟨o1,_,_⟩:=vK _ hodd;rw[decide_eq_false hodd];refine ak rfl rfl Tryz.func109 rfl Tryz.ntmps109 ⟨by simp,by simp[LK]⟩ ?_
   simp only[go_sem,reduceLT,reduceEqDiff,Nat.reduceBEq,reduceAdd,reduceSub,reduceLeDiff,bh aE bE,ah al,hwd,jg];rw[bN];simp only[go_sem,reduceEqDiff,Nat.reduceBEq,reduceSub,reduceLeDiff];erw [w];simp only[go_sem,reduceLT,reduceEqDiff,Nat.reduceBEq,reduceAdd,ah al,hr,hn,h1,h2,h4,h5,b1,b2,b4,hy,hlen,jp,o1]
end Go.Abs
namespace Go.Abs
open Go Go.Proofs
set_option maxRecDepth 10000
theorem wP (l:List Tok) (hl:l.length≤1000000) (deep:Int):den K 48 [L (l.map Tok.enc),I deep] []=some (.ret (iH deep l) []):=by
 refine ff (F:=oz) rfl ?_
 unfold oz;simp only[vF];rw[if_pos hl]
theorem uo {deep:Int} {l:List Tok} {vs:List Val} (h1:1≤deep) (h2:deep≤60) (h:Ne.parse deep.toNat l=some vs):iH deep l=.tup [.c (.pv (.sl (encL vs))),.c (.pv (.int .i64 0))]:=by
 unfold iH;rw[if_neg (by omega)]
 unfold Ne.parse at h;cases hu:Ne.cO 0 deep.toNat l with
 | some x=>rw[hu] at h;cases h;rfl
 | none=>rw[hu] at h;cases h
theorem ub {deep:Int} {l:List Tok} (h1:1≤deep) (h2:deep≤60) (h:Ne.parse deep.toNat l=none):iH deep l=.tup [.c (.pv (.sl [])),.c (.pv (.int .i64 20))]:=by
 unfold iH;rw[if_neg (by omega)]
 unfold Ne.parse at h;cases hu:Ne.cO 0 deep.toNat l with
 | some x=>rw[hu] at h;cases h
 | none=>rfl
end Go.Abs
namespace Go.Abs
open Go Go.Proofs
set_option maxRecDepth 10000
attribute [local go_sem] cG bA cj bF bH cF cf ce ay aV aR bw bU bg opd avOf cvOf St.degAt St.put okPV dr okAV cQ cR cP cv aj if_true Bool.false_eq_true if_false Option.map_some Option.map_none Option.bind_some Option.bind_none du dh upd List.toList_toArray bC steal aH mvB cX cw bR AV.deg CV.deg AV.gv AV.isIter co cg bG List.length_nil List.length_cons List.filterMap_cons List.filterMap_nil beq_iff_eq List.getElem?_cons_zero List.getElem?_cons_succ Option.getD_some eG fh Bool.false_and Bool.and_false Bool.and_self K_P fT bv bO aJ lend back idx dedup AV.ren CV.ren TV.ren AV.ptrs CV.ptrs ck AV.flat CV.flat bL bu az bV cz dK bD ar bK aQ bd bt aP dV CV.pv? content aN ownT aD reps pvs chunks aZ leave dT bW cN bf aK TV.deg TV.av LK CV.plain CV.noBld cq dS bound List.map_cons List.map_nil List.all_cons List.all_nil List.any_cons List.any_nil List.contains_cons List.contains_nil List.elem_cons List.elem_nil List.cons_append List.nil_append List.append_nil List.flatMap_cons List.flatMap_nil List.zip_cons_cons List.zip_nil_left List.zip_nil_right List.take_succ_cons List.take_zero List.take_nil List.drop_succ_cons List.drop_zero List.drop_nil List.isEmpty_nil List.isEmpty_cons Bool.and_true Bool.true_and Bool.or_true Bool.true_or Bool.or_false Bool.false_or Bool.not_true Bool.not_false Nat.add_zero Nat.zero_add Option.isNone_none Option.isNone_some Option.getD_none true_and and_true not_true_eq_false not_false_eq_true decide_true decide_false Nat.le_refl and_self Bool.not_eq_true Nat.sub_self or_true true_or Option.some.injEq List.length_map List.nil_eq and_false false_and AV.live CV.live CV.liveIn dX ax Option.orElse_some Option.orElse_none head aI aF Int.lt_irrefl List.length_append ite_self dt br bZ aY Key.clash Key.sees Key.writes Nat.lt_irrefl gt_iff_lt ci dp false_or or_false beq_self_eq_true Bool.true_beq Bool.false_beq uC fo jK gV oc nN se sD
def TS.live':TS→TS
 | .nils=>.live
 | x=>x
theorem TS.live_toks (x:TS):x.live'.toks=x.toks:=by cases x<;>rfl
abbrev numH (s:List UInt8) (et:Nat) (ct:List (List PV)) (from_ e:Nat) (d:List UInt8) (n:Int) (i:Nat):St :=
  { sl:=upd (upd (upd (upd (upd bot 29 (.c (.iter d i))) 4 (I n)) 3 (I e)) 2 (I from_)) 0 P0,bx:=upd nobox 100000 (some [.pv (.str s),.own et ct]),nt:=72 }
theorem BU (v:Int):(if (999999999:Int)<v then(999999999:Int) else v)=min v 999999999:=by
 split<;>omega
theorem yu (s:List UInt8) (et:Nat) (ct:List (List PV)) (from_ e:Nat) (d:List UInt8) (hd:∀ b∈d,Tk.digit b=true):∀ (rest:List UInt8) (i:Nat) (n:Int),d.drop i=rest→i≤d.length→0≤n→n≤999999999 →
  Ends (exL K 162 (.loop (aO Tryz.f162 6)) (numH s et ct from_ e d n i)) fun o S=>o=.exit 0∧S.sl 0=P0∧S.sl 2=I from_∧S.sl 3=I e∧S.sl 4=I (Tk.num n rest)∧S.nt=72∧S.bx=upd nobox 100000 (some [.pv (.str s),.own et ct]):=by
 intro rest
 induction rest with
 | nil =>
  intro i n hr hi h0 h1;have hin:i=d.length:=by
   have:=List.drop_eq_nil_iff.1 hr
   omega
  subst hin;have hlt:(d.length<d.length)=False:=by simp
  conv in aO _ _=>whnf
  rw[aB];simp only[go_sem,reduceLT,reduceCtorEq,reduceEqDiff,Nat.reduceBEq,reduceAdd,aX,hlt,Tk.num]
 | cons c rest ih =>
  intro i n hr hi h0 h1;obtain⟨g1,g2,g3⟩:=ij hr;have hc:Tk.digit c=true:=hd c (List.mem_of_getElem? g1)
  have hcn:48≤c.toNat∧c.toNat≤57:=by simpa[Tk.digit] using hc
  obtain⟨r,wd,hdec,hw1,hw2,hr2,hcase⟩:=qu d i g3;have hrc:r=c.toNat∧wd=1:=by
   rcases hcase with⟨_,hw,b,hb,hbr⟩|⟨_,hall⟩
   ·rw[g1] at hb;cases hb;exact⟨hbr.symm,hw⟩
   ·have:=hall i c (Nat.le_refl _) (by omega) g1;omega
  obtain⟨rfl,rfl⟩:=hrc;have hit:fM d i=i+1:=by unfold fM;rw[hdec]
  have hlt:(i<d.length)=True:=eq_true g3
  have w1:IntKind.i64.wrap (10*n)=10*n:=IntWalk.i64_in _ (by omega)
  have w2:IntKind.i32.wrap ((c.toNat:Int) - 48)=(c.toNat:Int) - 48:=IntWalk.i32_in _ (by omega)
  have w3:IntKind.i64.wrap ((c.toNat:Int) - 48)=(c.toNat:Int) - 48:=IntWalk.i64_in _ (by omega)
  have w4:IntKind.i64.wrap (10*n+((c.toNat:Int) - 48))=10*n+((c.toNat:Int) - 48):=IntWalk.i64_in _ (by omega)
  have hv:Tk.num n (c::rest)=Tk.num (min (10*n+((c.toNat:Int) - 48)) 999999999) rest:=by rw[Tk.num,if_pos hc]
  rw[hv];have ih':=ih (i+1) (min (10*n+((c.toNat:Int) - 48)) 999999999) g2 (by omega) (by omega) (by omega)
  conv at ih' in aO _ _=>whnf
  conv in aO _ _=>whnf
  rw[aB];simp only[go_sem,reduceLT,reduceCtorEq,reduceEqDiff,Nat.reduceBEq,reduceAdd,cZ rv cJ,hlt,hdec,hit,w1,w2,w3,w4,lP,fW,List.foldl_cons,List.foldl_nil,BU];rw[bN];simp only[go_sem,reduceCtorEq,reduceEqDiff];exact ih'
theorem ol (s:List UInt8) (x:TS) (neg:Bool) (from_:Nat) (l:List UInt8) (hf:from_=if neg then 1 else 0) (hl:s.drop from_=l) (hle:from_≤s.length) (h45:(Tk.at0 s==45)=neg) (hs:s.length<4000000000) (hx:x.toks.length<4000000000) :
  den K 162 [P0] [scan s x]=some (.ret (.tup []) [scan (s.drop (from_+(Tk.number neg l).2)) (.wr (x.toks++[(Tk.number neg l).1]))]):=by
 have d0:=kO s 0 (by omega)
 rw[List.drop_zero] at d0
 have e45:(((Tk.at0 s).toNat:Int)==45)=neg:=by rw[←h45];exact iL _ 45
 have hrun:=ni s (by omega) Tk.digit 161 ov rfl jO from_ hle
 rw[hl] at hrun;have hrl:=Tk.run_le (p:=Tk.digit) l
 have hll:l.length=s.length - from_:=by rw[←hl,List.length_drop]
 have hnum:=Tk.qi (l:=l) (n:=0) (by omega) (by omega)
 have hdig:=Tk.sI (p:=Tk.digit) l
 generalize hk:Tk.run Tk.digit l=k at hrun hrl hdig;have hle2:from_+k≤s.length:=by omega
 have hde:s.drop (from_+k)=l.drop k:=by rw[←List.drop_drop,hl]
 have dn:=nW s (by omega) (from_+k) hle2
 have da:=kO s (from_+k) (by omega)
 rw[hde] at dn da
 have hul:=Tk.vH (l.drop k)
 rw[List.length_drop] at hul;have e37:(((Tk.at0 (l.drop k)).toNat:Int)==37)=(Tk.at0 (l.drop k)==37):=iL _ 37
 have hnn:Tk.num 0 (l.take k)=Tk.num 0 l:=by
  have:l=l.take k++l.drop k:=(List.take_append_drop k l).symm
  conv=>rhs;rw[this]
  rw[Tk.ny hdig];exact(Tk.rS (n:=Tk.num 0 (l.take k)) (by rw[←hk];exact Tk.sk Tk.nI l)).symm
 have hin:=fun et ct=>yu s et ct from_ (from_+k) (l.take k) hdig (l.take k) 0 0 rfl (Nat.zero_le _) (by omega) (by omega)
 rw[hnn] at hin
 conv at hin in aO _ _=>whnf
 have hsub:(s.take (from_+k)).drop from_=l.take k:=by rw[List.drop_take,hl];congr 1;omega
 unfold Tk.number;simp only[hk];rw[←Nat.add_assoc];generalize hu:Tk.unit (l.drop k)=u at hul;have hput:=fun v=>vV s x.live' (from_+k+u) 5 ((l.drop k).take u) v (by omega) (by rw[TS.live_toks];exact hx)
 rw[TS.live_toks] at hput;have hsub2:(s.take (from_+k+u)).drop (from_+k)=(l.drop k).take u:=by rw[List.drop_take,hde];congr 1;omega
 have b1:((0:Int)≤((from_+k:Nat):Int)∧((from_+k:Nat):Int)≤(s.length:Int))=True:=eq_true (by omega)
 have b2:((0:Int)≤(from_:Int)∧(from_:Int)≤((from_+k:Nat):Int))=True:=eq_true (by omega)
 have b3:((0:Int)≤((from_+k+u:Nat):Int)∧((from_+k+u:Nat):Int)≤(s.length:Int))=True:=eq_true (by omega)
 have b4:((0:Int)≤((from_+k:Nat):Int)∧((from_+k:Nat):Int)≤((from_+k+u:Nat):Int))=True:=eq_true (by omega)
 have w1:IntKind.i64.wrap ((from_:Int)+(k:Int))=((from_+k:Nat):Int):=by rw[IntWalk.i64_in _ (by omega)];rfl
 have w2:IntKind.i64.wrap (((from_+k:Nat):Int)+(u:Int))=((from_+k+u:Nat):Int):=by rw[IntWalk.i64_in _ (by omega)];rfl
 have w3:IntKind.i64.wrap (0 - Tk.num 0 l) = -Tk.num 0 l:=by rw[IntWalk.i64_in _ (by omega)];omega
 have t0:Int.toNat 0=0:=rfl
 have t1:Int.toNat 1=1:=rfl
 have z01:((0:Int)=1)=False:=by simp
 have z0:((0:Nat):Int)=0:=rfl
 have z1:((1:Nat):Int)=1:=rfl
 have hu37:(Tk.at0 (l.drop k)==37)=false→Tk.name (l.drop k)=u:=fun h=>by
  rw[←hu,Tk.unit,if_neg (by simpa using h)]
 have hu1:(Tk.at0 (l.drop k)==37)=true→u=1:=fun h=>by
  rw[←hu,Tk.unit,if_pos (by simpa using h)]
 refine ak rfl rfl Tryz.func162 rfl Tryz.ntmps162 ⟨by simp,by simp[LK]⟩ ?_
 have hr:Tryz.f162.results=#[]:=rfl
 cases neg
 all_goals (
  simp only[Bool.false_eq_true,if_true,if_false] at hf;subst hf;simp only[z0,z1,Nat.zero_add] at d0 hrun w1 b1 b2 b3 b4 w2 hin hsub hsub2 hput dn da hu37 hu1 e45
  first|(rw[List.drop_zero] at hl;subst hl)|skip
  cases x)
 ·obtain⟨o,S',e,rfl,f0,f2,f3,f4,fn,fb⟩:=hin 0 [];simp only[TS.cell,TS.live',TS.toks,scan,List.map_cons,List.map_nil,Tok.enc,List.nil_append] at hput ⊢;simp only[go_sem,reduceLT,reduceCtorEq,reduceEqDiff,Nat.reduceBEq,reduceAdd,ai ae,gu ae,d0,e45,hrun,w1,b1,b2,Int.toNat_natCast,hsub,t0];rw[bN];simp only[go_sem,reduceCtorEq,reduceEqDiff];erw [e];cases h37:(Tk.at0 (s.drop k)==37)
  ·rw[h37] at e37
   rw[hu37 h37] at dn
   simp only[go_sem,reduceLT,reduceCtorEq,reduceEqDiff,Nat.reduceBEq,reduceAdd,ai ae,hr,z01,f0,f2,f3,f4,fn,fb,dn,da,e37,w2,w3,b3,b4,Int.toNat_natCast,hsub2,hput]
  ·rw[h37] at e37
   rw[hu1 h37] at w2 b3 b4 hput hsub2 ⊢
   simp only[z1] at w2
   simp only[go_sem,reduceLT,reduceCtorEq,reduceEqDiff,Nat.reduceBEq,reduceAdd,ai ae,hr,z01,f0,f2,f3,f4,fn,fb,dn,da,e37,w2,w3,b3,b4,Int.toNat_natCast,hsub2,hput]

 ·obtain⟨o,S',e,rfl,f0,f2,f3,f4,fn,fb⟩:=hin 0 [];simp only[TS.cell,TS.live',TS.toks,scan,List.map_cons,List.map_nil,Tok.enc,List.nil_append] at hput ⊢;simp only[go_sem,reduceLT,reduceCtorEq,reduceEqDiff,Nat.reduceBEq,reduceAdd,ai ae,gu ae,d0,e45,hrun,w1,b1,b2,Int.toNat_natCast,hsub,t0];rw[bN];simp only[go_sem,reduceCtorEq,reduceEqDiff];erw [e];cases h37:(Tk.at0 (s.drop k)==37)
  ·rw[h37] at e37
   rw[hu37 h37] at dn
   simp only[go_sem,reduceLT,reduceCtorEq,reduceEqDiff,Nat.reduceBEq,reduceAdd,ai ae,hr,z01,f0,f2,f3,f4,fn,fb,dn,da,e37,w2,w3,b3,b4,Int.toNat_natCast,hsub2,hput]
  ·rw[h37] at e37
   rw[hu1 h37] at w2 b3 b4 hput hsub2 ⊢
   simp only[z1] at w2
   simp only[go_sem,reduceLT,reduceCtorEq,reduceEqDiff,Nat.reduceBEq,reduceAdd,ai ae,hr,z01,f0,f2,f3,f4,fn,fb,dn,da,e37,w2,w3,b3,b4,Int.toNat_natCast,hsub2,hput]

 ·rename_i lt;obtain⟨o,S',e,rfl,f0,f2,f3,f4,fn,fb⟩:=hin 56 (lt.map Tok.enc);simp only[TS.cell,TS.live',TS.toks,scan,List.map_append,List.map_cons,List.map_nil,Tok.enc] at hput ⊢;simp only[go_sem,reduceLT,reduceCtorEq,reduceEqDiff,Nat.reduceBEq,reduceAdd,ai ae,gu ae,d0,e45,hrun,w1,b1,b2,Int.toNat_natCast,hsub,t0];rw[bN];simp only[go_sem,reduceCtorEq,reduceEqDiff];erw [e];cases h37:(Tk.at0 (s.drop k)==37)
  ·rw[h37] at e37
   rw[hu37 h37] at dn
   simp only[go_sem,reduceLT,reduceCtorEq,reduceEqDiff,Nat.reduceBEq,reduceAdd,ai ae,hr,z01,f0,f2,f3,f4,fn,fb,dn,da,e37,w2,w3,b3,b4,Int.toNat_natCast,hsub2,hput]
  ·rw[h37] at e37
   rw[hu1 h37] at w2 b3 b4 hput hsub2 ⊢
   simp only[z1] at w2
   simp only[go_sem,reduceLT,reduceCtorEq,reduceEqDiff,Nat.reduceBEq,reduceAdd,ai ae,hr,z01,f0,f2,f3,f4,fn,fb,dn,da,e37,w2,w3,b3,b4,Int.toNat_natCast,hsub2,hput]

 ·obtain⟨o,S',e,rfl,f0,f2,f3,f4,fn,fb⟩:=hin 0 [];simp only[TS.cell,TS.live',TS.toks,scan,List.map_cons,List.map_nil,Tok.enc,List.nil_append] at hput ⊢;simp only[go_sem,reduceLT,reduceCtorEq,reduceEqDiff,Nat.reduceBEq,reduceAdd,ai ae,gu ae,d0,e45,hrun,w1,b1,b2,Int.toNat_natCast,hsub,t1];rw[bN];simp only[go_sem,reduceCtorEq,reduceEqDiff];erw [e];cases h37:(Tk.at0 (l.drop k)==37)
  ·rw[h37] at e37
   rw[hu37 h37] at dn
   simp only[go_sem,reduceLT,reduceCtorEq,reduceEqDiff,Nat.reduceBEq,reduceAdd,ai ae,hr,f0,f2,f3,f4,fn,fb,dn,da,e37,w2,w3,b3,b4,Int.toNat_natCast,hsub2,hput]
  ·rw[h37] at e37
   rw[hu1 h37] at w2 b3 b4 hput hsub2 ⊢
   simp only[z1] at w2
   simp only[go_sem,reduceLT,reduceCtorEq,reduceEqDiff,Nat.reduceBEq,reduceAdd,ai ae,hr,f0,f2,f3,f4,fn,fb,dn,da,e37,w2,w3,b3,b4,Int.toNat_natCast,hsub2,hput]

 ·obtain⟨o,S',e,rfl,f0,f2,f3,f4,fn,fb⟩:=hin 0 [];simp only[TS.cell,TS.live',TS.toks,scan,List.map_cons,List.map_nil,Tok.enc,List.nil_append] at hput ⊢;simp only[go_sem,reduceLT,reduceCtorEq,reduceEqDiff,Nat.reduceBEq,reduceAdd,ai ae,gu ae,d0,e45,hrun,w1,b1,b2,Int.toNat_natCast,hsub,t1];rw[bN];simp only[go_sem,reduceCtorEq,reduceEqDiff];erw [e];cases h37:(Tk.at0 (l.drop k)==37)
  ·rw[h37] at e37
   rw[hu37 h37] at dn
   simp only[go_sem,reduceLT,reduceCtorEq,reduceEqDiff,Nat.reduceBEq,reduceAdd,ai ae,hr,f0,f2,f3,f4,fn,fb,dn,da,e37,w2,w3,b3,b4,Int.toNat_natCast,hsub2,hput]
  ·rw[h37] at e37
   rw[hu1 h37] at w2 b3 b4 hput hsub2 ⊢
   simp only[z1] at w2
   simp only[go_sem,reduceLT,reduceCtorEq,reduceEqDiff,Nat.reduceBEq,reduceAdd,ai ae,hr,f0,f2,f3,f4,fn,fb,dn,da,e37,w2,w3,b3,b4,Int.toNat_natCast,hsub2,hput]

 ·rename_i lt;obtain⟨o,S',e,rfl,f0,f2,f3,f4,fn,fb⟩:=hin 56 (lt.map Tok.enc);simp only[TS.cell,TS.live',TS.toks,scan,List.map_append,List.map_cons,List.map_nil,Tok.enc] at hput ⊢;simp only[go_sem,reduceLT,reduceCtorEq,reduceEqDiff,Nat.reduceBEq,reduceAdd,ai ae,gu ae,d0,e45,hrun,w1,b1,b2,Int.toNat_natCast,hsub,t1];rw[bN];simp only[go_sem,reduceCtorEq,reduceEqDiff];erw [e];cases h37:(Tk.at0 (l.drop k)==37)
  ·rw[h37] at e37
   rw[hu37 h37] at dn
   simp only[go_sem,reduceLT,reduceCtorEq,reduceEqDiff,Nat.reduceBEq,reduceAdd,ai ae,hr,f0,f2,f3,f4,fn,fb,dn,da,e37,w2,w3,b3,b4,Int.toNat_natCast,hsub2,hput]
  ·rw[h37] at e37
   rw[hu1 h37] at w2 b3 b4 hput hsub2 ⊢
   simp only[z1] at w2
   simp only[go_sem,reduceLT,reduceCtorEq,reduceEqDiff,Nat.reduceBEq,reduceAdd,ai ae,hr,f0,f2,f3,f4,fn,fb,dn,da,e37,w2,w3,b3,b4,Int.toNat_natCast,hsub2,hput]
attribute [local go_sem] vv
theorem fR {u:Nat} (h:u<10):Lib.decDigits u=[UInt8.ofNat (48+u)]:=by rw[Lib.decDigits,dif_pos h]
theorem kt {u:Nat} (h:¬ u<10):Lib.decDigits u=Lib.decDigits (u / 10)++[UInt8.ofNat (48+u % 10)]:=by rw[Lib.decDigits,dif_neg h]
theorem tg (u:Nat):(u:Int).tdiv 10=((u / 10:Nat):Int):=rfl
theorem AE (u:Nat):(u:Int).tmod 10=((u % 10:Nat):Int):=rfl
theorem ot:((10:Int)=0)=False:=by simp
theorem sl0:(0+1<bz)=True:=by simp[bz]
theorem sl1:(1+1<bz)=True:=by simp[bz]
theorem zy {n:Int} (h:n<0):Lib.itoa n=45::Lib.decDigits n.natAbs:=by unfold Lib.itoa;rw[if_pos h]
theorem ln {n:Int} (h:0≤n):Lib.itoa n=Lib.decDigits n.toNat:=by unfold Lib.itoa;rw[if_neg (by omega)]
theorem kI:∀ (k:Nat) (n:Int),n.natAbs≤k→I64 n→den K 21 [I n] []=some (.ret (T (Lib.itoa n)) []):=by
 intro k
 induction k with
 | zero =>
  intro n hk hn;have:n=0:=by omega
  subst this;refine ak rfl rfl Tryz.func21 rfl Tryz.ntmps21 ⟨by simp,by simp[LK]⟩ ?_
  have hr:Tryz.f21.results=#[.tmp 2]:=rfl
  have e:Lib.itoa 0=[48]:=by rw[ln (by omega)];exact fR (by omega)
  rw[e];have w1:IntKind.i64.wrap 48=48:=by decide
  have w2:IntKind.u8.wrap 48=48:=by decide
  simp[go_sem,reduceLT,reduceCtorEq,reduceEqDiff,Nat.reduceBEq,cZ cJ er,bo (len:=1) cI gX ei ⟨rfl,by decide,by decide⟩,dZ cI ek,bytesOf,ot,w1,w2]
 | succ k ih =>
  intro n hk hn;have hr:Tryz.f21.results=#[.tmp 2]:=rfl
  have hlen:=zF hn
  by_cases hneg:n<0
  ·have hl:decide (n<0)=true:=decide_eq_true hneg
   have hq:n.tdiv 10 = -(((n.natAbs / 10:Nat)):Int):=by
    obtain⟨u,rfl⟩:∃ u:Nat,n = -(u:Int):=⟨n.natAbs,by omega⟩
    rw[Int.neg_tdiv,tg];simp only[Int.natAbs_neg,Int.natAbs_natCast]
   have hm:n.tmod 10 = -(((n.natAbs % 10:Nat)):Int):=by
    obtain⟨u,rfl⟩:∃ u:Nat,n = -(u:Int):=⟨n.natAbs,by omega⟩
    rw[Int.neg_tmod,AE];simp only[Int.natAbs_neg,Int.natAbs_natCast]
   have w1:IntKind.i64.wrap (n.tdiv 10)=n.tdiv 10:=IntWalk.i64_in _ (by have:=hn.1;have:=hn.2;omega)
   have w3:IntKind.i64.wrap (48 - n.tmod 10)=((48+n.natAbs % 10:Nat):Int):=by rw[IntWalk.i64_in _ (by omega),hm];omega
   have w4:IntKind.u8.wrap ((48+n.natAbs % 10:Nat):Int)=((48+n.natAbs % 10:Nat):Int):=IntWalk.u8_in _ (by omega)
   rw[zy hneg] at hlen ⊢;by_cases hs:n.natAbs<10
   ·have hq0:decide (n.tdiv 10<0)=false:=decide_eq_false (by omega)
    rw[fR hs];have hmm:n.natAbs % 10=n.natAbs:=Nat.mod_eq_of_lt hs
    rw[hmm] at w3 w4
    refine ak rfl rfl Tryz.func21 rfl Tryz.ntmps21 ⟨by simp,by simp[LK]⟩ ?_
    simp only[go_sem,reduceLT,reduceCtorEq,reduceEqDiff,Nat.reduceBEq,reduceAdd,reduceMul,cZ cJ er,bo (len:=1) cI gX ei ⟨rfl,by decide,by decide⟩,dZ cI ek,hr,bytesOf,ot,Int.toNat_natCast,sl0,sl1,hl,hq0,w1,w3,w4]
   ·have hq1:decide (n.tdiv 10<0)=true:=decide_eq_true (by omega)
    have w2:IntKind.i64.wrap (0 - n.tdiv 10)=((n.natAbs / 10:Nat):Int):=by rw[IntWalk.i64_in _ (by have:=hn.1;have:=hn.2;omega)];omega
    have hc:=ih ((n.natAbs / 10:Nat):Int) (by omega) ⟨by omega,by have:=hn.1;have:=hn.2;omega⟩
    rw[ln (by omega),Int.toNat_natCast] at hc
    rw[kt hs] at hlen ⊢;have s1:1+(Lib.decDigits (n.natAbs / 10)).length<bz:=by simp at hlen;simp[bz];omega
    have s2:(Lib.decDigits (n.natAbs / 10)).length+1+1<bz:=by simp at hlen;simp[bz];omega
    refine ak rfl rfl Tryz.func21 rfl Tryz.ntmps21 ⟨by simp,by simp[LK]⟩ ?_
    simp only[go_sem,reduceLT,reduceCtorEq,reduceEqDiff,Nat.reduceBEq,reduceAdd,reduceMul,cZ cJ er,bo (len:=1) cI gX ei ⟨rfl,by decide,by decide⟩,dZ cI ek,hr,bytesOf,ot,Int.toNat_natCast,hl,hq1,w1,w2,w3,w4,hc,s1,s2]
  ·have hl:decide (n<0)=false:=decide_eq_false hneg
   obtain⟨u,rfl⟩:∃ u:Nat,n=u:=⟨n.toNat,by omega⟩
   have hm:(u:Int).tmod 10=((u % 10:Nat):Int):=rfl
   have w3:IntKind.i64.wrap (48+(u:Int).tmod 10)=((48+u % 10:Nat):Int):=by rw[hm,IntWalk.i64_in _ (by omega)];omega
   have w4:IntKind.u8.wrap ((48+u % 10:Nat):Int)=((48+u % 10:Nat):Int):=IntWalk.u8_in _ (by omega)
   rw[ln (by omega),Int.toNat_natCast] at hlen ⊢
   by_cases hs:u<10
   ·have hg:decide ((10:Int)≤(u:Int))=false:=decide_eq_false (by omega)
    rw[fR hs];have hmm:u % 10=u:=Nat.mod_eq_of_lt hs
    rw[hmm] at w3 w4
    refine ak rfl rfl Tryz.func21 rfl Tryz.ntmps21 ⟨by simp,by simp[LK]⟩ ?_
    simp only[go_sem,reduceLT,reduceCtorEq,reduceEqDiff,Nat.reduceBEq,reduceAdd,reduceMul,cZ cJ er,bo (len:=1) cI gX ei ⟨rfl,by decide,by decide⟩,dZ cI ek,hr,bytesOf,ot,Int.toNat_natCast,hl,hg,w3,w4]
   ·have hg:decide ((10:Int)≤(u:Int))=true:=decide_eq_true (by omega)
    have w1:IntKind.i64.wrap ((u:Int).tdiv 10)=((u / 10:Nat):Int):=by rw[tg,IntWalk.i64_in _ (by have:=hn.2;omega)]
    have hc:=ih ((u / 10:Nat):Int) (by omega) ⟨by omega,by have:=hn.2;omega⟩
    rw[ln (by omega),Int.toNat_natCast] at hc
    rw[kt hs] at hlen ⊢;have s1:(Lib.decDigits (u / 10)).length+1<bz:=by simp at hlen;simp[bz];omega
    refine ak rfl rfl Tryz.func21 rfl Tryz.ntmps21 ⟨by simp,by simp[LK]⟩ ?_
    simp only[go_sem,reduceLT,reduceCtorEq,reduceEqDiff,Nat.reduceBEq,reduceAdd,reduceMul,cZ cJ er,bo (len:=1) cI gX ei ⟨rfl,by decide,by decide⟩,dZ cI ek,hr,bytesOf,ot,Int.toNat_natCast,hl,hg,w1,w3,w4,hc,s1]
end Go.Abs
namespace Go.Abs
def Dcl.enc (d:Dcl):List PV:=[.str d.name,.sl (encL d.l),.bool d.imp]
def encD (ds:List Dcl):List (List PV):=ds.map Dcl.enc
end Go.Abs
namespace Go.Abs
open Go Go.Proofs
set_option maxRecDepth 10000
attribute [local go_sem] cG bA cj bF bH cF cf ce ay aV aR bw bU bg opd avOf cvOf St.degAt St.put okPV dr okAV cQ cR cP cv aj if_true Bool.false_eq_true if_false Option.map_some Option.map_none Option.bind_some Option.bind_none du dh upd List.toList_toArray bC steal aH mvB cX cw bR AV.deg CV.deg AV.gv AV.isIter co cg bG List.length_nil List.length_cons List.filterMap_cons List.filterMap_nil beq_iff_eq List.getElem?_cons_zero List.getElem?_cons_succ Option.getD_some eG fh Bool.false_and Bool.and_false Bool.and_self K_P fT bv bO aJ lend back idx dedup AV.ren CV.ren TV.ren AV.ptrs CV.ptrs ck AV.flat CV.flat bL bu az bV cz dK bD ar bK aQ bd bt aP dV CV.pv? content aN ownT aD reps pvs chunks aZ leave dT bW cN bf aK TV.deg TV.av LK CV.plain CV.noBld cq dS bound List.map_cons List.map_nil List.all_cons List.all_nil List.any_cons List.any_nil List.contains_cons List.contains_nil List.elem_cons List.elem_nil List.cons_append List.nil_append List.append_nil List.flatMap_cons List.flatMap_nil List.zip_cons_cons List.zip_nil_left List.zip_nil_right List.take_succ_cons List.take_zero List.take_nil List.drop_succ_cons List.drop_zero List.drop_nil List.isEmpty_nil List.isEmpty_cons Bool.and_true Bool.true_and Bool.or_true Bool.true_or Bool.or_false Bool.false_or Bool.not_true Bool.not_false Nat.add_zero Nat.zero_add Option.isNone_none Option.isNone_some Option.getD_none true_and and_true not_true_eq_false not_false_eq_true decide_true decide_false Nat.le_refl and_self Bool.not_eq_true Nat.sub_self or_true true_or Option.some.injEq List.length_map List.nil_eq and_false false_and AV.live CV.live CV.liveIn dX ax Option.orElse_some Option.orElse_none head aI aF Int.lt_irrefl List.length_append ite_self dt br bZ aY Key.clash Key.sees Key.writes Nat.lt_irrefl gt_iff_lt ci dp false_or or_false beq_self_eq_true Bool.true_beq Bool.false_beq
mutual
def Sim.enc:Sim→List PV
 | .mk k n v a b l=>[.int .i64 k,.str n,.str v,.int .i64 a,.int .i64 b,.sl (Sim.encL l)]
def Sim.encL:List Sim→List (List PV)
 | []=>[]
 | x::l=>x.enc::Sim.encL l
end
end Go.Abs
