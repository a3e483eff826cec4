/-
  SelsCommas, as the interpreter answers it: true, whatever the texts are.
-/
import Derived.Test.YtlomcifkckgneaaGreatDoorRc4
import Derived.Test.YtlomcifkckgneaaGreatDoorRc6
import Derived.Test.YtlomcifkckgneaaGreatDoorRc18
import Derived.Test.YtlomcifkckgneaaGreatDoorRc20
import Derived.Test.YtlomcifkckgneaaGreatDoorRc26
import Derived.Test.YtlomcifkckgneaaGreatDoorRc27
set_option linter.unusedSimpArgs false
set_option linter.unusedVariables false
namespace Go.Abs
open Go Go.Proofs
set_option maxRecDepth 10000
attribute [local go_sem] cM bt ck bJ bH cL cq co aR bU bO ci cN bF opd avOf cvOf St.degAt St.put okPV dA okAV cZ cY cX cG aH if_true Bool.false_eq_true if_false Option.map_some Option.map_none Option.bind_some Option.bind_none dC dr upd List.toList_toArray cA steal bm mvB c8 cF cE AV.deg CV.deg AV.gv AV.isIter cy cj bK List.length_nil List.length_cons List.filterMap_cons List.filterMap_nil beq_iff_eq List.getElem?_cons_zero List.getElem?_cons_succ Option.getD_some dE ev Bool.false_and Bool.and_false Bool.and_self K_P eN bZ cz bh lend back idx dedup AV.ren CV.ren TV.ren AV.ptrs CV.ptrs cH AV.flat CV.flat cf bQ aV cK cQ dM bW aM bX bc bv bR bd d8 CV.pv? content bo ownT aW reps pvs chunks bM leave dU cw cV bG bg TV.deg TV.av LK CV.plain CV.noBld cJ dX bound List.map_cons List.map_nil List.all_cons List.all_nil List.any_cons List.any_nil List.contains_cons List.contains_nil List.elem_cons List.elem_nil List.cons_append List.nil_append List.append_nil List.flatMap_cons List.flatMap_nil List.zip_cons_cons List.zip_nil_left List.zip_nil_right List.take_succ_cons List.take_zero List.take_nil List.drop_succ_cons List.drop_zero List.drop_nil List.isEmpty_nil List.isEmpty_cons Bool.and_true Bool.true_and Bool.or_true Bool.true_or Bool.or_false Bool.false_or Bool.not_true Bool.not_false Nat.add_zero Nat.zero_add Option.isNone_none Option.isNone_some Option.getD_none true_and and_true not_true_eq_false not_false_eq_true decide_true decide_false Nat.le_refl and_self Bool.not_eq_true Nat.sub_self or_true true_or Option.some.injEq List.length_map List.nil_eq and_false false_and AV.live CV.live CV.liveIn dq aX Option.orElse_some Option.orElse_none head a7 a6 Int.lt_irrefl List.length_append ite_self dz ce cO bu Key.clash Key.sees Key.writes Nat.lt_irrefl gt_iff_lt cg dc false_or or_false beq_self_eq_true Bool.true_beq Bool.false_beq Hs IT Bk H3 IE Hi Ic tE Bt
set_option maxHeartbeats 16000000 in
theorem rD (s t:List UInt8):den K 5 [T s,T t] []=some (.ret (B true) []):=by
  have hr:Tryz.f5.results = #[.tmp 4]:=rfl
  have hf:=zo
  have q0:((0:Int)==0)=true:=rfl
  have q20:((20:Int)==0)=false:=rfl
  have q40:((40:Int)==0)=false:=rfl
  have q44:((40:Int)==40)=true:=rfl
  have q00:(((0:Nat):Int)==0)=true:=rfl
  cases ht:decide ((500:Int)<(s.length:Int))
  case true =>
    cases ht2:decide ((500:Int)<(t.length:Int)) <;>
    (refine ai rfl rfl Tryz.func5 rfl Tryz.ntmps5 ⟨by simp,by simp[LK]⟩ ?_
     simp only[go_sem,Nat.reduceLT,reduceCtorEq,Nat.reduceEqDiff,Nat.reduceBEq,Nat.reduceAdd,aE al,hr,hf,ht])
  cases ht2:decide ((500:Int)<(t.length:Int))
  case true =>
    refine ai rfl rfl Tryz.func5 rfl Tryz.ntmps5 ⟨by simp,by simp[LK]⟩ ?_
    simp only[go_sem,Nat.reduceLT,reduceCtorEq,Nat.reduceEqDiff,Nat.reduceBEq,Nat.reduceAdd,aE al,hr,hf,ht,ht2]
  have hsl:s.length≤500:=by have:=of_decide_eq_false ht;omega
  have htl:t.length≤500:=by have:=of_decide_eq_false ht2;omega
  have hal:=oW s
  have hat:=oW t
  have r1:=rX s (by omega) (by omega)
  have r2:=rX t (by omega) (by omega)
  have p0:=zq
  unfold vo at r1 r2
  unfold gx at p0
  simp only at p0
  cases ha:Sl.lU s with
  | none =>
    rw[ha] at r1
    simp only at r1
    cases hb:Sl.lU t with
    | none =>
      rw[hb] at r2
      simp only at r2
      refine ai rfl rfl Tryz.func5 rfl Tryz.ntmps5 ⟨by simp,by simp[LK]⟩ ?_
      simp only[go_sem,Nat.reduceLT,reduceCtorEq,Nat.reduceEqDiff,Nat.reduceBEq,Nat.reduceAdd,aE al,hr,hf,ht,ht2,r1,r2,p0,q20,bne,TV.flat]
    | some w =>
      rw[hb] at r2
      simp only at r2
      obtain ⟨hsw,htw⟩:=sj hb (by omega)
      have p2:=jr w (by omega) htw
      generalize Sl.parse w=pw at p2
      unfold gx at p2
      cases pw<;>simp only at p2 <;>
      (refine ai rfl rfl Tryz.func5 rfl Tryz.ntmps5 ⟨by simp,by simp[LK]⟩ ?_
       simp only[go_sem,Nat.reduceLT,reduceCtorEq,Nat.reduceEqDiff,Nat.reduceBEq,Nat.reduceAdd,aE al,hr,hf,ht,ht2,r1,r2,p0,p2,q20,bne,TV.flat])
  | some v =>
    rw[ha] at r1
    simp only at r1
    obtain ⟨hsv,htv⟩:=sj ha (by omega)
    have p1:=jr v (by omega) htv
    cases hb:Sl.lU t with
    | none =>
      rw[hb] at r2
      simp only at r2
      generalize Sl.parse v=pv at p1
      unfold gx at p1
      cases pv<;>simp only at p1 <;>
      (refine ai rfl rfl Tryz.func5 rfl Tryz.ntmps5 ⟨by simp,by simp[LK]⟩ ?_
       simp only[go_sem,Nat.reduceLT,reduceCtorEq,Nat.reduceEqDiff,Nat.reduceBEq,Nat.reduceAdd,aE al,hr,hf,ht,ht2,r1,r2,p0,p1,q0,q20,bne,TV.flat])
    | some w =>
      rw[hb] at r2
      simp only at r2
      obtain ⟨hsw,htw⟩:=sj hb (by omega)
      have p2:=jr w (by omega) htw
      have hjs:Ne.size (Sl.join [44] [v,w])≤3000000:=by
        have e:Ne.oS (Sl.jt [44])=1:=rfl
        rw[Sl.kI,jk,Ne.size,e]
        omega
      have hjt:TSh (Sl.join [44] [v,w]):=by
        rw[Sl.kI]
        exact B1 htv htw
      have hjl:=Ne.cU (Sl.join [44] [v,w])
      have hj:=B3 [44] [v,w] (by simp) (by omega)
      have p3:=jr (Sl.join [44] [v,w]) (by omega) hjt
      simp only[encP,List.map_cons,List.map_nil] at hj
      cases hp:Sl.parse v with
      | none =>
        rw[Sl.p6 (.inl hp)] at p3
        rw[hp] at p1
        generalize Sl.parse w=pw at p2
        unfold gx at p1 p2 p3
        simp only at p1 p3
        cases pw<;>simp only at p2 <;>
        (refine ai rfl rfl Tryz.func5 rfl Tryz.ntmps5 ⟨by simp,by simp[LK]⟩ ?_
         simp only[go_sem,Nat.reduceLT,reduceCtorEq,Nat.reduceEqDiff,Nat.reduceBEq,Nat.reduceAdd,Nat.reduceLeDiff,Nat.reduceMul,aE al,am (len:=2) bE cR dY ⟨rfl,by decide,by decide⟩,ah aP,hr,hf,ht,ht2,r1,r2,p1,p2,p3,hj,q0,q00,q40,q44,bne,TV.flat])
      | some a =>
        rw[hp] at p1
        obtain ⟨m1,m2,m3⟩:=Aw ha hp (by omega)
        have y1:=GR a m2 m3
        have y2:=EN a m2 m3
        rw[m1] at y1 y2
        cases hq:Sl.parse w with
        | none =>
          rw[Sl.p6 (.inr hq)] at p3
          rw[hq] at p2
          unfold gx at p1 p2 p3
          simp only at p1 p2 p3
          refine ai rfl rfl Tryz.func5 rfl Tryz.ntmps5 ⟨by simp,by simp[LK]⟩ ?_
          simp only[go_sem,Nat.reduceLT,reduceCtorEq,Nat.reduceEqDiff,Nat.reduceBEq,Nat.reduceAdd,Nat.reduceLeDiff,Nat.reduceMul,aE al,am (len:=2) bE cR dY ⟨rfl,by decide,by decide⟩,ah aP,hr,hf,ht,ht2,r1,r2,p1,p2,p3,y1,y2,hj,q0,q00,q40,q44,bne,TV.flat]
        | some b =>
          have hbo:=Sl.zn hp hq
          rw[hq] at p2
          obtain ⟨f1,f2⟩:=il hp
          obtain ⟨g1,g2⟩:=il hq
          have eal:(encC a).length=a.length:=List.length_map ..
          have ebl:(encC b).length=b.length:=List.length_map ..
          have hw:IntKind.i64.wrap ((a.length:Int)+(b.length:Int))=((a.length+b.length:Nat):Int):=Ii (by omega)
          by_cases h32:a.length+b.length≤32
          · rw[hbo,if_pos h32] at p3
            have k32:decide ((32:Int)<((a.length+b.length:Nat):Int))=false:=decide_eq_false (by omega)
            have hA:=Ki v [44] (by have:=Ne.cU v;omega)
            have hpart:=Sl.sf hp
            have hpl:(Sl.at_ [44] v).length≤200000000:=by omega
            have hloop:=wJ a b (a++b) (Sl.at_ [44] v) hpl (fun i q hi=>by
              obtain ⟨x,h1,h2⟩:=hpart.2.2 i q hi
              have hm:=List.mem_of_getElem? hi
              have h3:=jr q (Nat.le_trans (wV [44] v q hm) (by omega)) (sk htv (Sl.kV [44] v q hm).1)
              rw[h2] at h3
              exact ⟨x,h1,h3,y3 h2⟩) _ 0 rfl (Nat.zero_le _)
            have hend:=Ja a b (a++b) (Sl.at_ [44] v)
            rw[←hloop] at hend
            unfold qcmlp at hend
            conv at hend in ao _ _=>whnf
            obtain ⟨o,S,wx,rfl,z1,z2,z3,z4,z5⟩:=hend
            have z0:((0:Nat):Int)=0:=rfl
            simp only[qcmH,z0] at wx
            have sp:=Cw hp hq
            have e1:encC a++encC b=encC (a++b):=(List.map_append ..).symm
            have l0:lens 2 ([]:List (List PV))=true:=rfl
            have la:=mJ a
            have lb:=mJ b
            have d1:a.length<cD:=by unfold cD;omega
            have d2:a.length+b.length<cD:=by unfold cD;omega
            have d3:0+a.length<cD:=by unfold cD;omega
            unfold gx at p1 p2 p3
            simp only at p1 p2 p3
            refine ai rfl rfl Tryz.func5 rfl Tryz.ntmps5 ⟨by simp,by simp[LK]⟩ ?_
            simp only[go_sem,Nat.reduceLT,reduceCtorEq,Nat.reduceEqDiff,Nat.reduceBEq,Nat.reduceAdd,Nat.reduceLeDiff,Nat.reduceMul,aE al,am (len:=2) bE cR dY ⟨rfl,by decide,by decide⟩,ah aP,hr,hf,ht,ht2,r1,r2,p1,p2,p3,y1,y2,hj,hA,eal,ebl,hw,k32,q0,bne,TV.flat]
            rw[aB]
            simp only[go_sem,Nat.reduceEqDiff]
            erw [wx]
            simp only[go_sem,Nat.reduceLT,reduceCtorEq,Nat.reduceEqDiff,Nat.reduceBEq,Nat.reduceAdd,am (len:=0) aP fS eU ⟨rfl,by decide,by decide⟩,cB j9,br aP,z1,z2,z3,z4,z5,l0,la,lb,eal,ebl,d1,d2,List.nil_append,e1,sp,q0]
          · rw[hbo,if_neg h32] at p3
            have k32:decide ((32:Int)<((a.length+b.length:Nat):Int))=true:=decide_eq_true (by omega)
            unfold gx at p1 p2 p3
            simp only at p1 p2 p3
            refine ai rfl rfl Tryz.func5 rfl Tryz.ntmps5 ⟨by simp,by simp[LK]⟩ ?_
            simp only[go_sem,Nat.reduceLT,reduceCtorEq,Nat.reduceEqDiff,Nat.reduceBEq,Nat.reduceAdd,Nat.reduceLeDiff,Nat.reduceMul,aE al,am (len:=2) bE cR dY ⟨rfl,by decide,by decide⟩,ah aP,hr,hf,ht,ht2,r1,r2,p1,p2,p3,y1,y2,hj,eal,ebl,hw,k32,q0,q00,q44,bne,TV.flat]
end Go.Abs
