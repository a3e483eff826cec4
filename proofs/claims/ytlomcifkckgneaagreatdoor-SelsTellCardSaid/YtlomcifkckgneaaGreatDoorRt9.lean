/-
  WHAT THE FUNCTIONS COMPUTE, layer 4, the program's reader of selectors: the numbers of an nth; sels.whole.
-/
import Derived.Test.YtlomcifkckgneaaGreatDoorRt8
open Nat (reduceEqDiff reduceAdd reduceLT reduceLeDiff reduceSub reduceMul)
set_option linter.unusedSimpArgs false
set_option linter.unusedVariables false
namespace Go.Abs
open Go Go.Proofs
set_option maxRecDepth 10000
attribute [local go_sem] c7 bF cD bW bZ db cJ cE a7 ck ce cF c8 bS opd avOf cvOf St.degAt St.put okPV d6 okAV du dv dt cU aM if_true Bool.false_eq_true if_false Option.map_some Option.map_none Option.bind_some Option.bind_none dY dV upd List.toList_toArray cR steal bz mvB dE cV cT AV.deg CV.deg AV.gv AV.isIter cN cI bU List.length_nil List.length_cons List.filterMap_cons List.filterMap_nil beq_iff_eq List.getElem?_cons_zero List.getElem?_cons_succ Option.getD_some d8 eV Bool.false_and Bool.and_false Bool.and_self K_P fq co cO bw lend back idx dedup AV.ren CV.ren TV.ren AV.ptrs CV.ptrs cX AV.flat CV.flat cz cg bc c9 dk eo cj aY cm bt bH cf br eF CV.pv? content bA ownT bd reps pvs chunks cd leave eB cK dr bT bv TV.deg TV.av LK CV.plain CV.noBld c5 eA bound List.map_cons List.map_nil List.all_cons List.all_nil List.any_cons List.any_nil List.contains_cons List.contains_nil List.elem_cons List.elem_nil List.cons_append List.nil_append List.append_nil List.flatMap_cons List.flatMap_nil List.zip_cons_cons List.zip_nil_left List.zip_nil_right List.take_succ_cons List.take_zero List.take_nil List.drop_succ_cons List.drop_zero List.drop_nil List.isEmpty_nil List.isEmpty_cons Bool.and_true Bool.true_and Bool.or_true Bool.true_or Bool.or_false Bool.false_or Bool.not_true Bool.not_false Nat.add_zero Nat.zero_add Option.isNone_none Option.isNone_some Option.getD_none true_and and_true not_true_eq_false not_false_eq_true decide_true decide_false Nat.le_refl and_self Bool.not_eq_true Nat.sub_self or_true true_or Option.some.injEq List.length_map List.nil_eq and_false false_and AV.live CV.live CV.liveIn dU bg Option.orElse_some Option.orElse_none head bm bh Int.lt_irrefl List.length_append ite_self dZ cA dc bC Key.clash Key.sees Key.writes Nat.lt_irrefl gt_iff_lt cH dH false_or or_false beq_self_eq_true Bool.true_beq Bool.false_beq lQ Gp HK rr rv JU wb cu bo ai aZ dz aL bX KH Jx ro J2 rH eG cB bG JS
abbrev twoI (x:Int×Int):AV:=.tup [.c (.pv (.int .i64 x.1)),.c (.pv (.int .i64 x.2))]
theorem Ao {s:List UInt8} {x:Int×Int} (h:Sl.kQ s=some x):den K 72 [T s] []=some (.ret (twoI x) []):=by
 have hr:Tryz.f72.results=#[.tmp 2,.tmp 3]:=rfl
 unfold Sl.kQ at h;have hm:=fe
 split at h
 ·rename_i h1;cases h;subst h1;have q0:(([111,100,100]:List UInt8)==[111,100,100])=true:=rfl
  refine ah rfl rfl Tryz.func72 rfl Tryz.ntmps72 ⟨by simp,by simp[LK]⟩ ?_
  simp only[go_sem,reduceLT,reduceCtorEq,reduceEqDiff,Nat.reduceBEq,reduceAdd,hr,q0]
 split at h
 ·rename_i h1;cases h;subst h1;have q0:(([101,118,101,110]:List UInt8)==[111,100,100])=false:=rfl
  have q1:(([101,118,101,110]:List UInt8)==[101,118,101,110])=true:=rfl
  refine ah rfl rfl Tryz.func72 rfl Tryz.ntmps72 ⟨by simp,by simp[LK]⟩ ?_
  simp only[go_sem,reduceLT,reduceCtorEq,reduceEqDiff,Nat.reduceBEq,reduceAdd,hr,q0,q1]
 split at h
 ·rename_i h1;cases h;subst h1;have q0:(([110]:List UInt8)==[111,100,100])=false:=rfl
  have q1:(([110]:List UInt8)==[101,118,101,110])=false:=rfl
  have q2:(([110]:List UInt8)==[110])=true:=rfl
  refine ah rfl rfl Tryz.func72 rfl Tryz.ntmps72 ⟨by simp,by simp[LK]⟩ ?_
  simp only[go_sem,reduceLT,reduceCtorEq,reduceEqDiff,Nat.reduceBEq,reduceAdd,hr,q0,q1,q2,hm]
 ·cases h
theorem z8 {s:List UInt8} (h:Sl.kQ s=none):den K 72 [T s] []=some (.pan dW []):=by
 have hr:Tryz.f72.results=#[.tmp 2,.tmp 3]:=rfl
 unfold Sl.kQ at h;have hm:=gR
 split at h
 ·cases h
 rename_i h1;split at h
 ·cases h
 rename_i h2;split at h
 ·cases h
 rename_i h3;have q0:(s==[111,100,100])=false:=by rw[beq_eq_false_iff_ne];exact h1
 have q1:(s==[101,118,101,110])=false:=by rw[beq_eq_false_iff_ne];exact h2
 have q2:(s==[110])=false:=by rw[beq_eq_false_iff_ne];exact h3
 refine ah rfl rfl Tryz.func72 rfl Tryz.ntmps72 ⟨by simp,by simp[LK]⟩ ?_
 simp only[go_sem,reduceLT,reduceCtorEq,reduceEqDiff,Nat.reduceBEq,reduceAdd,hr,q0,q1,q2,hm]
theorem rG (n:Int):den K 41 [I n] []=some (.ret (B (decide (-9999≤n)&&decide (n≤9999))) []):=by
 have hr:Tryz.f41.results=#[.tmp 2]:=rfl
 cases e1:decide (-9999≤n)
 ·refine ah rfl rfl Tryz.func41 rfl Tryz.ntmps41 ⟨by simp,by simp[LK]⟩ ?_
  simp only[go_sem,reduceLT,reduceCtorEq,reduceEqDiff,Nat.reduceBEq,reduceAdd,hr,e1]
 ·refine ah rfl rfl Tryz.func41 rfl Tryz.ntmps41 ⟨by simp,by simp[LK]⟩ ?_
  simp only[go_sem,reduceLT,reduceCtorEq,reduceEqDiff,Nat.reduceBEq,reduceAdd,hr,e1]
theorem DW (s:List UInt8) (h:s.length≤1000000000):den K 79 [T s,T [48,49,50,51,52,53,54,55,56,57]] []=some (.ret (T (Lib.trimS s Sl.sw)) []) :=
 fB (F:=zO) rfl (by
  unfold zO;simp only;rw[if_pos ⟨by unfold ci;omega,by decide,by decide⟩]
  rfl)
theorem DA {s:List UInt8} {n:Int} (h:s.length≤18) (hn:Lib.atoi s=some n):den K 80 [T s] []=some (.ret (.tup [.c (.pv (.int .i64 n)),.c (.pv .nilifc)]) []) :=
 fB (F:=zJ) rfl (by unfold zJ;simp only;rw[if_pos h,hn])
theorem IB (s:List UInt8) (hs:s.length≤1000000000):den K 160 [T s,T [110,45]] []=some (.ret (B (decide (s.take 2=[110,45]))) []):=by
 have hr:Tryz.f160.results=#[.tmp 4]:=rfl
 by_cases h2:2≤s.length
 ·have e1:decide (((2:Nat):Int)≤(s.length:Int))=true:=decide_eq_true (by omega)
  have hb:((0:Int)≤((2:Nat):Int)∧((2:Nat):Int)≤(s.length:Int))=True:=by rw[eq_iff_iff];simp;omega
  have e2:(s.take 2==[110,45])=decide (s.take 2=[110,45]):=by rw[Bool.eq_iff_iff];simp
  refine ah rfl rfl Tryz.func160 rfl Tryz.ntmps160 ⟨by simp,by simp[LK]⟩ ?_
  simp only[go_sem,reduceLT,reduceCtorEq,reduceEqDiff,Nat.reduceBEq,reduceAdd,aA al,ax al,hr,e1,hb,e2,Int.toNat_natCast]
 ·have e1:decide (((2:Nat):Int)≤(s.length:Int))=false:=decide_eq_false (by omega)
  have e2:decide (s.take 2=[110,45])=false:=decide_eq_false fun h=>by
   have:=congrArg List.length h
   rw[List.length_take] at this
   simp at this
   omega
  rw[e2];refine ah rfl rfl Tryz.func160 rfl Tryz.ntmps160 ⟨by simp,by simp[LK]⟩ ?_
  simp only[go_sem,reduceLT,reduceCtorEq,reduceEqDiff,Nat.reduceBEq,reduceAdd,aA al,hr,e1]
theorem Fa (s:List UInt8) (hs:s.length≤1000000000):den K 125 [T s,T [110,45]] []=some (.ret (.tup [.c (.pv (.str (if s.take 2=[110,45] then s.drop 2 else s))),.c (.pv (.bool (decide (s.take 2=[110,45]))))]) []):=by
 have hr:Tryz.f125.results=#[.tmp 4,.tmp 5]:=rfl
 have hp:=IB s hs
 by_cases h:s.take 2=[110,45]
 ·have hlen:2≤s.length:=by
   have:=congrArg List.length h
   rw[List.length_take] at this
   simp at this
   omega
  have e1:decide (s.take 2=[110,45])=true:=decide_eq_true h
  rw[e1] at hp;rw[if_pos h,e1];have hb:((0:Int)≤((2:Nat):Int)∧((2:Nat):Int)≤(s.length:Int))=True:=by rw[eq_iff_iff];simp;omega
  have ht:(s.take s.length).drop 2=s.drop 2:=by rw[List.take_length]
  refine ah rfl rfl Tryz.func125 rfl Tryz.ntmps125 ⟨by simp,by simp[LK]⟩ ?_
  simp only[go_sem,reduceLT,reduceCtorEq,reduceEqDiff,Nat.reduceBEq,reduceAdd,aA al,ax al,hr,hp,hb,ht,Int.toNat_natCast]
 ·have e1:decide (s.take 2=[110,45])=false:=decide_eq_false h
  rw[e1] at hp;rw[if_neg h,e1];refine ah rfl rfl Tryz.func125 rfl Tryz.ntmps125 ⟨by simp,by simp[LK]⟩ ?_
  simp only[go_sem,reduceLT,reduceCtorEq,reduceEqDiff,Nat.reduceBEq,reduceAdd,hr,hp]
theorem H3 (s:List UInt8) (hs:s.length≤1000000000):den K 75 [T s,T [110,45]] []=some (.ret (.tup [.c (.pv (.str (if s.take 2=[110,45] then s.drop 2 else s))),.c (.pv (.bool (decide (s.take 2=[110,45]))))]) []):=by
 have hr:Tryz.f75.results=#[.tmp 4,.tmp 5]:=rfl
 have hp:=Fa s hs
 refine ah rfl rfl Tryz.func75 rfl Tryz.ntmps75 ⟨by simp,by simp[LK]⟩ ?_
 simp only[go_sem,reduceLT,reduceCtorEq,reduceEqDiff,Nat.reduceBEq,reduceAdd,hr,hp,TV.flat]
theorem er {α:Type} {enc:α→AV} {x:α} {m:List Val} {r:Option Res} (h:il enc (some (x,m)) r):r=some (.ret (enc x) [rdB m]):=h
theorem fm {α:Type} {enc:α→AV} {r:Option Res} (h:il enc none r):∃ m,r=some (.pan dW [rdB m]):=h
theorem HG {n:Int} (h:0≤n∧n≤9999):IntKind.i64.wrap (0 - n) = -n:=by rw[IntWalk.i64_in _ (by omega)];omega
set_option maxHeartbeats 16000000 in
theorem EO (l:List Val) (hl:l.length≤70000000) (ht:TSh l):il twoI (Sl.nthP l) (den K 39 [P0] [rdB l]):=by
 have hr:Tryz.f39.results=#[.tmp 2,.tmp 3]:=rfl
 have h1:=dM l 1 (by omega)
 have h5:=dM l 5 (by omega)
 have hmy:=fe
 have hmn:=gR
 unfold Sl.nthP;cases k1:Sl.tokK 1 l with
 | some t =>
  obtain⟨e,c,r,rfl,hk⟩:=jL k1;rw[e] at h1;have hn:=iU (.mk 1 t c::r) (by omega)
  have en:Sl.name (.mk 1 t c::r)=some (t.text,r):=by unfold Sl.name;rw[k1];rfl
  rw[en] at hn;have hn:=er hn
  simp only[List.tail_cons];cases kn:Sl.kQ t.text with
  | some x =>
   have hd:=Ao kn
   show den K 39 [P0] [rdB (.mk 1 t c::r)]=some (.ret (twoI x) [rdB r])
   simp only[rdB,twoI] at h1 hn hd ⊢;refine ah rfl rfl Tryz.func39 rfl Tryz.ntmps39 ⟨by simp,by simp[LK]⟩ ?_
   simp only[go_sem,reduceLT,reduceCtorEq,reduceEqDiff,Nat.reduceBEq,reduceAdd,hr,h1,hn,hd,TV.flat]
  | none =>
   have hd:=z8 kn
   refine⟨r,?_⟩
   simp only[rdB] at h1 hn hd ⊢;refine ah rfl rfl Tryz.func39 rfl Tryz.ntmps39 ⟨by simp,by simp[LK]⟩ ?_
   simp only[go_sem,reduceLT,reduceCtorEq,reduceEqDiff,Nat.reduceBEq,reduceAdd,hr,h1,hn,hd]
 | none =>
 rw[ey k1] at h1;cases k5:Sl.tokK 5 l with
 | none =>
  rw[ey k5] at h5;refine⟨l,?_⟩
  simp only[rdB] at h1 h5 ⊢;refine ah rfl rfl Tryz.func39 rfl Tryz.ntmps39 ⟨by simp,by simp[LK]⟩ ?_
  simp only[go_sem,reduceLT,reduceCtorEq,reduceEqDiff,Nat.reduceBEq,reduceAdd,hr,h1,h5,hmn]
 | some t =>
 obtain⟨e,c,r,rfl,hk⟩:=jL k5;rw[e] at h5;have hts:=Bw ht
 have hrl:r.length≤70000000:=by rw[List.length_cons] at hl;omega
 have hx:=gF (.mk 1 t c::r) (by omega)
 have htk:=fA 1 t c r (by omega)
 have hcut:=H3 t.text (by omega)
 rw[fY] at hx htk;simp only[List.tail_cons];by_cases s0:t.text=[]
 ·rw[if_pos s0];have e0:(t.text==[])=true:=by rw[s0];rfl
  have hnm:=uS (.mk 1 t c::r) (by omega)
  have en:Sl.numP (.mk 1 t c::r)=some (t.n,r):=by unfold Sl.numP;rw[k5];simp only;rw[if_pos s0];rfl
  rw[en] at hnm;have hnm:=er hnm
  show den K 39 [P0] [rdB (.mk 1 t c::r)]=some (.ret (twoI (0,t.n)) [rdB r])
  simp only[rdB,twoI] at h1 h5 hx hnm ⊢;refine ah rfl rfl Tryz.func39 rfl Tryz.ntmps39 ⟨by simp,by simp[LK]⟩ ?_
  simp only[go_sem,reduceLT,reduceCtorEq,reduceEqDiff,Nat.reduceBEq,reduceAdd,reduceSub,reduceLeDiff,aA al,hr,h1,h5,hmy,hx,hcut,e0,hnm,TV.flat]
 have e0:(t.text==[])=false:=by rw[beq_eq_false_iff_ne];exact s0
 rw[if_neg s0];by_cases s1:t.text=[110]
 ·rw[if_pos s1];have e1:(t.text==[110])=true:=by rw[s1];rfl
  cases ks:Sl.sign [43] r with
  | none =>
   have hs:=fp (by omega) ks
   have q0:(([]:List UInt8)==[])=true:=rfl
   show den K 39 [P0] [rdB (.mk 1 t c::r)]=some (.ret (twoI (t.n,0)) [rdB r])
   simp only[rdB,twoI] at h1 h5 hx htk hs ⊢;refine ah rfl rfl Tryz.func39 rfl Tryz.ntmps39 ⟨by simp,by simp[LK]⟩ ?_
   simp only[go_sem,reduceLT,reduceCtorEq,reduceEqDiff,Nat.reduceBEq,reduceAdd,reduceSub,reduceLeDiff,reduceMul,ao (len:=1) aK aL aH ⟨rfl,by decide,by decide⟩,aA al,hr,h1,h5,hmy,hx,hcut,e0,e1,htk,hs,q0,bne,TV.flat]
  | some r2 =>
   have hs:=iH (by omega) ks
   have q0:(([43]:List UInt8)==[])=false:=rfl
   have hr2:r2.length≤r.length:=by
    obtain⟨v,e,_⟩:=Sl.fN ks;rw[e,List.length_cons];omega
   have hnm:=uS r2 (by omega)
   simp only;cases kn:Sl.numP r2 with
   | none =>
    rw[kn] at hnm;obtain⟨m,hnm⟩:=fm hnm;refine⟨m,?_⟩
    simp only[rdB] at h1 h5 hx htk hs hnm ⊢;refine ah rfl rfl Tryz.func39 rfl Tryz.ntmps39 ⟨by simp,by simp[LK]⟩ ?_
    simp only[go_sem,reduceLT,reduceCtorEq,reduceEqDiff,Nat.reduceBEq,reduceAdd,reduceSub,reduceLeDiff,reduceMul,ao (len:=1) aK aL aH ⟨rfl,by decide,by decide⟩,aA al,hr,h1,h5,hmy,hx,hcut,e0,e1,htk,hs,q0,bne,hnm,TV.flat]
   | some y =>
    obtain⟨b,m⟩:=y;rw[kn] at hnm;have hnm:=er hnm
    simp only;by_cases hb:0≤b
    ·have eb:decide (0≤b)=true:=decide_eq_true hb
     rw[if_pos hb]
     show den K 39 [P0] [rdB (.mk 1 t c::r)]=some (.ret (twoI (t.n,b)) [rdB m])
     simp only[rdB,twoI] at h1 h5 hx htk hs hnm ⊢;refine ah rfl rfl Tryz.func39 rfl Tryz.ntmps39 ⟨by simp,by simp[LK]⟩ ?_
     simp only[go_sem,reduceLT,reduceCtorEq,reduceEqDiff,Nat.reduceBEq,reduceAdd,reduceSub,reduceLeDiff,reduceMul,ao (len:=1) aK aL aH ⟨rfl,by decide,by decide⟩,aA al,hr,h1,h5,hmy,hx,hcut,e0,e1,htk,hs,q0,bne,hnm,eb,TV.flat]
    ·have eb:decide (0≤b)=false:=decide_eq_false hb
     rw[if_neg hb];refine⟨m,?_⟩
     simp only[rdB] at h1 h5 hx htk hs hnm ⊢;refine ah rfl rfl Tryz.func39 rfl Tryz.ntmps39 ⟨by simp,by simp[LK]⟩ ?_
     simp only[go_sem,reduceLT,reduceCtorEq,reduceEqDiff,Nat.reduceBEq,reduceAdd,reduceSub,reduceLeDiff,reduceMul,ao (len:=1) aK aL aH ⟨rfl,by decide,by decide⟩,aA al,hr,h1,h5,hmy,hmn,hx,hcut,e0,e1,htk,hs,q0,bne,hnm,eb,TV.flat]
 have e1:(t.text==[110])=false:=by rw[beq_eq_false_iff_ne];exact s1
 rw[if_neg s1];unfold Sl.vC;by_cases s2:t.text.take 2=[110,45]
 ·have e2:decide (t.text.take 2=[110,45])=true:=decide_eq_true s2
  rw[if_pos s2,e2] at hcut;have htr:=DW (t.text.drop 2) (by rw[List.length_drop];omega)
  have hal:=Sl.xJ (t.text.drop 2)
  generalize hD:t.text.drop 2=D at *
  by_cases hd:D.all Tk.digit=true∧1≤D.length∧D.length≤4
  ·have ha:=DA (by omega) (Sl.zh hd.1 hd.2.1 hd.2.2)
   have h0:=Sl.xI hd
   have h9:Sl.digits D≤9999:=Sl.B6
   have hw:=HG ⟨h0,h9⟩
   rw[hd.1] at hal;have e3:decide (0<(D.length:Int))=true:=decide_eq_true (by omega)
   have e4:decide ((D.length:Int)≤4)=true:=decide_eq_true (by omega)
   rw[if_pos ⟨s2,h0⟩]
   show den K 39 [P0] [rdB (.mk 1 t c::r)]=some (.ret (twoI (t.n,-Sl.digits D)) [rdB r])
   simp only[rdB,twoI] at h1 h5 hx htk ⊢;refine ah rfl rfl Tryz.func39 rfl Tryz.ntmps39 ⟨by simp,by simp[LK]⟩ ?_
   simp only[go_sem,reduceLT,reduceCtorEq,reduceEqDiff,Nat.reduceBEq,reduceAdd,reduceSub,reduceLeDiff,reduceMul,ao (len:=1) aK aL aH ⟨rfl,by decide,by decide⟩,aA al,hr,h1,h5,hmy,hx,hcut,e0,e1,e3,e4,htr,hal,ha,hw,htk,TV.flat]
  ·have h0:Sl.digits D = -1:=Sl.yj hd
   rw[if_neg (by rw[h0];rintro ⟨_,h⟩;omega)]
   refine⟨.mk 1 t c::r,?_⟩
   simp only[rdB] at h1 h5 hx htk ⊢;by_cases c1:1≤D.length
   ·have e3:decide (0<(D.length:Int))=true:=decide_eq_true (by omega)
    by_cases c2:D.length≤4
    ·have e4:decide ((D.length:Int)≤4)=true:=decide_eq_true (by omega)
     have c3:D.all Tk.digit=false:=by
      cases h:D.all Tk.digit with
      | false=>rfl
      | true=>exact absurd ⟨h,c1,c2⟩ hd
     rw[c3] at hal;refine ah rfl rfl Tryz.func39 rfl Tryz.ntmps39 ⟨by simp,by simp[LK]⟩ ?_
     simp only[go_sem,reduceLT,reduceCtorEq,reduceEqDiff,Nat.reduceBEq,reduceAdd,reduceSub,reduceLeDiff,aA al,hr,h1,h5,hmy,hmn,hx,hcut,e0,e1,e3,e4,htr,hal,TV.flat]
    ·have e4:decide ((D.length:Int)≤4)=false:=decide_eq_false (by omega)
     refine ah rfl rfl Tryz.func39 rfl Tryz.ntmps39 ⟨by simp,by simp[LK]⟩ ?_
     simp only[go_sem,reduceLT,reduceCtorEq,reduceEqDiff,Nat.reduceBEq,reduceAdd,reduceSub,reduceLeDiff,aA al,hr,h1,h5,hmy,hmn,hx,hcut,e0,e1,e3,e4,TV.flat]
   ·have e3:decide (0<(D.length:Int))=false:=decide_eq_false (by omega)
    refine ah rfl rfl Tryz.func39 rfl Tryz.ntmps39 ⟨by simp,by simp[LK]⟩ ?_
    simp only[go_sem,reduceLT,reduceCtorEq,reduceEqDiff,Nat.reduceBEq,reduceAdd,reduceSub,reduceLeDiff,aA al,hr,h1,h5,hmy,hmn,hx,hcut,e0,e1,e3,TV.flat]
 ·have e2:decide (t.text.take 2=[110,45])=false:=decide_eq_false s2
  rw[if_neg s2,e2] at hcut;rw[if_neg fun h=>s2 h.1]
  refine⟨.mk 1 t c::r,?_⟩
  simp only[rdB] at h1 h5 hx htk ⊢;refine ah rfl rfl Tryz.func39 rfl Tryz.ntmps39 ⟨by simp,by simp[LK]⟩ ?_
  simp only[go_sem,reduceLT,reduceCtorEq,reduceEqDiff,Nat.reduceBEq,reduceAdd,reduceSub,reduceLeDiff,aA al,hr,h1,h5,hmy,hmn,hx,hcut,e0,e1,TV.flat]
end Go.Abs
