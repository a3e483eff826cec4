/-
  SelsNot, as the interpreter answers it: true, whatever the text is.
-/
import Derived.Test.YtlomcifkckgneaaGreatDoorRn4
import Derived.Test.YtlomcifkckgneaaGreatDoorRn14
import Derived.Test.YtlomcifkckgneaaGreatDoorRn20
import Derived.Test.YtlomcifkckgneaaGreatDoorRn21
set_option linter.unusedSimpArgs false
set_option linter.unusedVariables false
namespace Go.Abs
open Go Go.Proofs
set_option maxRecDepth 10000
attribute [local go_sem] cX bA ce bJ bL cU ci cg aN bD bt bR cz bE opd avOf cvOf St.degAt St.put okPV dQ okAV dc dh dp cG aD if_true Bool.false_eq_true if_false Option.map_some Option.map_none Option.bind_some Option.bind_none dL dG upd List.toList_toArray bX steal bd mvB dx cE co AV.deg CV.deg AV.gv AV.isIter cv cj bK List.length_nil List.length_cons List.filterMap_cons List.filterMap_nil beq_iff_eq List.getElem?_cons_zero List.getElem?_cons_succ Option.getD_some d8 eS Bool.false_and Bool.and_false Bool.and_self K_P fO bO cd bc lend back idx dedup AV.ren CV.ren TV.ren AV.ptrs CV.ptrs cD AV.flat CV.flat bU bH aR cA cQ dV bM aK bS bh bw bI bg ep CV.pv? content bo ownT aV reps pvs chunks bC leave ee cm c9 bF a8 TV.deg TV.av LK CV.plain CV.noBld cK ei bound List.map_cons List.map_nil List.all_cons List.all_nil List.any_cons List.any_nil List.contains_cons List.contains_nil List.elem_cons List.elem_nil List.cons_append List.nil_append List.append_nil List.flatMap_cons List.flatMap_nil List.zip_cons_cons List.zip_nil_left List.zip_nil_right List.take_succ_cons List.take_zero List.take_nil List.drop_succ_cons List.drop_zero List.drop_nil List.isEmpty_nil List.isEmpty_cons Bool.and_true Bool.true_and Bool.or_true Bool.true_or Bool.or_false Bool.false_or Bool.not_true Bool.not_false Nat.add_zero Nat.zero_add Option.isNone_none Option.isNone_some Option.getD_none true_and and_true not_true_eq_false not_false_eq_true decide_true decide_false Nat.le_refl and_self Bool.not_eq_true Nat.sub_self or_true true_or Option.some.injEq List.length_map List.nil_eq and_false false_and AV.live CV.live CV.liveIn dW aO Option.orElse_some Option.orElse_none head a7 aY Int.lt_irrefl List.length_append ite_self dR bQ cF br Key.clash Key.sees Key.writes Nat.lt_irrefl gt_iff_lt cf dD false_or or_false beq_self_eq_true Bool.true_beq Bool.false_beq F9 FM Aa f9 fB kx iA fI aE cy gc gM mC km eN fC ar Gs F7 fG ck bB GC
theorem DG {l:List Tok} {n m k:Nat} (hl:l.length≤n) (h : ∀ t∈l,I64 t.n∧t.text.length≤m) (hm:n*(m+25)≤k):(Tk.text l).length≤k:=by
 have h1:=Tk.xz (m:=m+21) l fun t ht=>by
  have:=nJ t (h t ht).1
  have:=(h t ht).2
  omega
 have h2:l.length*(m+21+4)≤n*(m+25):=Nat.mul_le_mul hl (by omega)
 omega
theorem DR {M:Nat} (hM:1≤M) {s:List UInt8} (hs:s.length≤M) {a:List Val} (h:Sl.jd s=some a):Ne.size a≤M ∧ ∀ t∈Ne.flat a,I64 t.n∧t.text.length≤M:=by
 have hr:=(Sl.uy h).1
 unfold Sl.jd at h
 rw[Option.map_eq_some_iff] at h
 obtain ⟨vs,h1,rfl⟩:=h
 obtain ⟨_,_,h2,c,e⟩:=Ne.fi h1
 have hal:=Tk.i7 s
 have hts:=tf vs
 refine ⟨by omega,fun t ht=>⟨tg (hr.tok t ht),?_⟩⟩
 obtain ⟨v,hv,ht⟩:=Sl.gG.1 ht
 have ht2:t∈Ne.flat vs:=Sl.gG.2 ⟨v,Sl.lN hv,ht⟩
 rw[e,List.mem_append,List.mem_map] at ht2
 rcases ht2 with ht2|⟨k,_,rfl⟩
 ·have:=Tk.nj s t ht2
  omega
 ·exact hM
theorem lV {α:Type} (a b:α) (r:List α):(((r.length+1+1:Nat):Int)==1)=false:=by rw[beq_eq_false_iff_ne];omega
theorem y6:(((0:Nat):Int)==1)=false:=rfl
theorem mA:((((0+1:Nat)):Int)==1)=true:=rfl
theorem Dc (k:Int) (n v:List UInt8) (a b:Int) (xl:List Sim) (hx:Fin4 (.mk k n v a b xl)) :
  den K 22 [L [[.sl [[.int .i64 0,.sl [[.int .i64 11,.str [],.str [],.int .i64 0,.int .i64 0,.sl [[.int .i64 k,.str n,.str v,.int .i64 a,.int .i64 b,.sl (xl.map Sim.enc)]]]]]],.str []]],L [[.sl [[.int .i64 0,.sl [[.int .i64 11,.str [],.str [],.int .i64 0,.int .i64 0,.sl [[.int .i64 k,.str n,.str v,.int .i64 a,.int .i64 b,.sl (xl.map Sim.enc)]]]]]],.str []]]] []=some (.ret (B true) []):=by
 have h:=AZ [⟨[⟨0,[.mk 11 [] [] 0 0 [.mk k n v a b xl]]⟩],[]⟩] (by simp) fun c hc=>by
  obtain rfl:=List.mem_singleton.1 hc
  refine ⟨by simp,fun p hp => ?_⟩
  obtain rfl:=List.mem_singleton.1 hp
  exact tU _ (by simp) fun y hy=>by
   obtain rfl:=List.mem_singleton.1 hy
   exact .mk (by simp) fun z hz=>by obtain rfl:=List.mem_singleton.1 hz;exact hx
 simp only[List.map_cons,List.map_nil,Cpx.enc_mk,Prt.enc_mk,Sim.enc_mk] at h
 exact h
set_option maxHeartbeats 16000000 in
theorem v7 (s:List UInt8):den K 7 [T s] []=some (.ret (B true) []):=by
 have hr:Tryz.f7.results = #[.tmp 2]:=rfl
 have hf:=yC
 have q0:((0:Int)==0)=true:=rfl
 have q20:((20:Int)==0)=false:=rfl
 have q40:((40:Int)==0)=false:=rfl
 have q44:((40:Int)==40)=true:=rfl
 cases ht:decide ((300:Int)<(s.length:Int))
 case true =>
  refine ab rfl rfl Tryz.func7 rfl Tryz.ntmps7 ⟨by simp,by simp[LK]⟩ ?_
  simp only[go_sem,Nat.reduceLT,reduceCtorEq,Nat.reduceEqDiff,Nat.reduceBEq,Nat.reduceAdd,aq aa,hr,hf,ht]
 have hsl:s.length≤300:=by have:=of_decide_eq_false ht;omega
 have hal:=ot s
 have r1:=xK s (by omega) (by omega)
 unfold ul at r1
 cases ha:Sl.jd s with
 | none =>
  rw[ha] at r1
  simp only at r1
  have p1:=y5
  unfold gD at p1
  simp only at p1
  refine ab rfl rfl Tryz.func7 rfl Tryz.ntmps7 ⟨by simp,by simp[LK]⟩ ?_
  simp only[go_sem,Nat.reduceLT,reduceCtorEq,Nat.reduceEqDiff,Nat.reduceBEq,Nat.reduceAdd,aq aa,hr,hf,ht,r1,p1,q20,bne,TV.flat]
 | some v =>
  rw[ha] at r1
  simp only at r1
  obtain ⟨hsz,hts⟩:=Ew ha (by omega)
  obtain ⟨hrd,htr⟩:=Sl.uy ha
  obtain ⟨hra,hrt⟩:=xJ (by omega) ha
  obtain ⟨hrb,hru⟩:=DR (M:=300) (by omega) hsl ha
  have hvl:=Ne.bW v
  have hvf:=Ne.gH v
  have p1:=rf v (by omega) hts
  cases hp:Sl.parse v with
  | none =>
   rw[hp] at p1
   unfold gD at p1
   simp only at p1
   refine ab rfl rfl Tryz.func7 rfl Tryz.ntmps7 ⟨by simp,by simp[LK]⟩ ?_
   simp only[go_sem,Nat.reduceLT,reduceCtorEq,Nat.reduceEqDiff,Nat.reduceBEq,Nat.reduceAdd,aq aa,hr,hf,ht,r1,p1,q0,q40,bne,TV.flat]
  | some l =>
   rw[hp] at p1
   unfold gD at p1
   simp only at p1
   match l,hp,p1 with
   | [],_,p1 =>
    simp only[encC,List.map_nil] at p1
    refine ab rfl rfl Tryz.func7 rfl Tryz.ntmps7 ⟨by simp,by simp[LK]⟩ ?_
    simp only[go_sem,Nat.reduceLT,reduceCtorEq,Nat.reduceEqDiff,Nat.reduceBEq,Nat.reduceAdd,aq aa,ai aM,hr,hf,ht,r1,p1,q0,y6,bne,TV.flat]
   | c::d::r,_,p1 =>
    simp only[encC,List.map_cons] at p1
    have e:=lV c.enc d.enc (r.map Cpx.enc)
    have e':=lV c d r
    refine ab rfl rfl Tryz.func7 rfl Tryz.ntmps7 ⟨by simp,by simp[LK]⟩ ?_
    simp only[go_sem,Nat.reduceLT,reduceCtorEq,Nat.reduceEqDiff,Nat.reduceBEq,Nat.reduceAdd,aq aa,ai aM,hr,hf,ht,r1,p1,q0,e',bne,TV.flat]
   | [⟨ps,z⟩],hp,p1 =>
    match ps,hp,p1 with
    | [],_,p1 =>
     simp only[encC,List.map_cons,List.map_nil,Cpx.enc_mk] at p1
     refine ab rfl rfl Tryz.func7 rfl Tryz.ntmps7 ⟨by simp,by simp[LK]⟩ ?_
     simp only[go_sem,Nat.reduceLT,reduceCtorEq,Nat.reduceEqDiff,Nat.reduceBEq,Nat.reduceAdd,aq aa,ai aM,am aM,ai aQ,hr,hf,ht,r1,p1,q0,y6,mA,le00,Int.toNat_zero,bne,TV.flat]
    | p::q::r,_,p1 =>
     simp only[encC,List.map_cons,List.map_nil,Cpx.enc_mk] at p1
     have e:=lV p.enc q.enc (r.map Prt.enc)
     have e':=lV p q r
     refine ab rfl rfl Tryz.func7 rfl Tryz.ntmps7 ⟨by simp,by simp[LK]⟩ ?_
     simp only[go_sem,Nat.reduceLT,reduceCtorEq,Nat.reduceEqDiff,Nat.reduceBEq,Nat.reduceAdd,aq aa,ai aM,am aM,ai aQ,hr,hf,ht,r1,p1,q0,mA,e',le00,Int.toNat_zero,bne,TV.flat]
    | [⟨cb,xs⟩],hp,p1 =>
     cases hz:(z==([]:List UInt8)) with
     | false =>
      simp only[encC,List.map_cons,List.map_nil,Cpx.enc_mk,Prt.enc_mk] at p1
      refine ab rfl rfl Tryz.func7 rfl Tryz.ntmps7 ⟨by simp,by simp[LK]⟩ ?_
      simp only[go_sem,Nat.reduceLT,reduceCtorEq,Nat.reduceEqDiff,Nat.reduceBEq,Nat.reduceAdd,aq aa,ai aM,am aM,ai aQ,hr,hf,ht,r1,p1,q0,mA,hz,le00,Int.toNat_zero,bne,TV.flat]
     | true =>
      obtain rfl:z=[]:=by simpa using hz
      match xs,hp,p1 with
      | [],_,p1 =>
       simp only[encC,List.map_cons,List.map_nil,Cpx.enc_mk,Prt.enc_mk] at p1
       refine ab rfl rfl Tryz.func7 rfl Tryz.ntmps7 ⟨by simp,by simp[LK]⟩ ?_
       simp only[go_sem,Nat.reduceLT,reduceCtorEq,Nat.reduceEqDiff,Nat.reduceBEq,Nat.reduceAdd,aq aa,ai aM,am aM,ai aQ,am aQ,ai bG,hr,hf,ht,r1,p1,q0,y6,mA,hz,le00,Int.toNat_zero,bne,TV.flat]
      | x::y::r,_,p1 =>
       simp only[encC,List.map_cons,List.map_nil,Cpx.enc_mk,Prt.enc_mk] at p1
       have e:=lV x.enc y.enc (r.map Sim.enc)
       have e':=lV x y r
       refine ab rfl rfl Tryz.func7 rfl Tryz.ntmps7 ⟨by simp,by simp[LK]⟩ ?_
       simp only[go_sem,Nat.reduceLT,reduceCtorEq,Nat.reduceEqDiff,Nat.reduceBEq,Nat.reduceAdd,aq aa,ai aM,am aM,ai aQ,am aQ,ai bG,hr,hf,ht,r1,p1,q0,mA,e',hz,le00,Int.toNat_zero,bne,TV.flat]
      | [⟨k,n,w,a,b,xl⟩],hp,p1 =>
       obtain ⟨_,h4⟩:=yX hp
       have hx:Fin4 (.mk k n w a b xl):=((h4 ⟨[⟨cb,[.mk k n w a b xl]⟩],[]⟩ (by simp)).2 ⟨cb,[.mk k n w a b xl]⟩ (by simp)).2 (.mk k n w a b xl) (by simp)
       obtain ⟨_,hn⟩:=Sl.Ec hrd htr hp
       have htx:=Av (l:=v) (m:=1000) (by omega) (by omega) hrt
       have x1:=yK v (by omega) (Fv (by omega) hrt) (by simp only[kQ];omega)
       have e5:(58::110::111::116::40::Sl.kJ v)++[41]=Sl.notS v:=rfl
       have hts3:(Sl.kJ v).length≤195000:=DG (n:=600) (m:=300) (by omega) hru (by decide)
       have hlen:(Sl.notS v).length≤500000:=by rw[←e5];simp;omega
       have m1:=uW (Sl.notS v) hlen
       have l1:0+1+1+1+1+1+(Sl.kJ v).length<aU:=by unfold aU;omega
       have l2:(Sl.kJ v).length+1+1+1+1+1+(0+1)<aU:=by unfold aU;omega
       have l3:5+(Sl.kJ v).length<aU:=by unfold aU;omega
       have l4:(Sl.kJ v).length+5+1<aU:=by unfold aU;omega
       have l5:(Sl.kJ v).length+1+1+1+1+1+1<aU:=by unfold aU;omega
       have hS:=Dc k n w a b xl hx
       simp only[encC,List.map_cons,List.map_nil,Cpx.enc_mk,Prt.enc_mk,Sim.enc_mk] at p1
       rw[←e5] at m1 hn
       cases hk:(k==11) with
       | true =>
        rw[if_pos (show (Sim.mk k n w a b xl).kind=11 by show k=11;simpa using hk)] at hn
        rw[hn] at m1
        unfold gD at m1
        simp only[List.cons_append] at m1
        refine ab rfl rfl Tryz.func7 rfl Tryz.ntmps7 ⟨by simp,by simp[LK]⟩ ?_
        simp only[go_sem,Nat.reduceLT,reduceCtorEq,Nat.reduceEqDiff,Nat.reduceBEq,Nat.reduceAdd,Nat.reduceSub,Nat.reduceLeDiff,aq aa,ai aM,am aM,ai aQ,am aQ,ai bG,am bG,hr,hf,ht,r1,p1,q0,q44,mA,hz,hk,x1,m1,l1,l2,le00,Int.toNat_zero,bne,TV.flat]
       | false =>
        rw[if_neg (show ¬ (Sim.mk k n w a b xl).kind=11 by show ¬ k=11;simpa using hk)] at hn
        rw[hn] at m1
        unfold gD at m1
        simp only[encC,List.map_cons,List.map_nil,Cpx.enc_mk,Prt.enc_mk,Sim.enc_mk,List.cons_append] at m1
        refine ab rfl rfl Tryz.func7 rfl Tryz.ntmps7 ⟨by simp,by simp[LK]⟩ ?_
        simp only[go_sem,Nat.reduceLT,reduceCtorEq,Nat.reduceEqDiff,Nat.reduceBEq,Nat.reduceAdd,Nat.reduceSub,Nat.reduceLeDiff,Nat.reduceMul,aq aa,ai aM,am aM,ai aQ,am aQ,ai bG,am bG,af (len:=1) bG eN ar ⟨rfl,by decide,by decide⟩,ak ar aF,ak cP gB,af (len:=1) aQ gc cP ⟨rfl,by decide,by decide⟩,ak ec rm,af (len:=1) aM f9 ec ⟨rfl,by decide,by decide⟩,hr,hf,ht,r1,p1,q0,mA,hz,hk,x1,m1,hS,l1,l2,le00,Int.toNat_zero,bne,TV.flat]
end Go.Abs
